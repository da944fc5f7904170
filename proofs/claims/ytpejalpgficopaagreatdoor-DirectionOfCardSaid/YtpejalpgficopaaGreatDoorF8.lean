/- A part of what the law's proof leans on. PACKED BY pack.py of this repo. -/
import Derived.Test.YtpejalpgficopaaGreatDoorF7
set_option linter.unusedVariables false
set_option linter.unusedSimpArgs false
set_option linter.unusedSectionVars false
set_option linter.defProp false
set_option maxRecDepth 100000
open Go.IntKind (i64 u64 u32)
section
namespace Go.Proofs.YtpejalpgficopaaGreatDoor.G
open Go Go.Proofs RX
section
variable {N:Nat→Prop} {xe:X} {Se:St} (o l c:Nat) (xs:List Int) (ty:TypeId) (nx:Nat)
abbrev trim.st:St:=⟨gbuild [(0,.slice (some ⟨0,o,none⟩) l c)] 0 21,[(0,.is .u32 xs ty)],nx⟩
abbrev trim.lk:=RX.lk [0] [0]
theorem trim.rnd:rd Tryz.prog ⟨[],[],[]⟩ [] 3 (Ay Tryz.f205 0) (trim.st o l c xs ty nx) 21 [0] [0]=
 bif decide (((l:Nat):Int)>0) then bif decide (0≤i64.wrap (((l:Nat):Int)-1))&&decide (i64.wrap (((l:Nat):Int)-1)<((l:Nat):Int)) then bif (o+(i64.wrap (((l:Nat):Int)-1)).toNat*1).blt xs.length then bif xs.getD (o+(i64.wrap (((l:Nat):Int)-1)).toNat*1) 0==0 then bif decide (0≤i64.wrap (((l:Nat):Int)-1))&&decide (i64.wrap (((l:Nat):Int)-1)≤((c:Nat):Int))&&true then trim.lk .normal (trim.st o ((i64.wrap (((l:Nat):Int)-1)).toNat-0) (c-0) xs ty nx) else none else trim.lk (.exit 0) (trim.st o l c xs ty nx) else none else none else trim.lk (.exit 0) (trim.st o l c xs ty nx):=by kernel_rfl
def trim.step0:=fun h0 h1 h2 h3 h4 (ih:Lq Tryz.prog N (Ay Tryz.f205 0) _ xe Se)=>Lq.toK (f:=3) ⟨Ac,Aq,Aj,Ap⟩ Bs ((((((trim.rnd o l c xs ty nx).ct h0).ct h1).ct h2).ct h3).ct h4) rfl rfl ih
def trim.stop1:=fun h0 h1 h2 h3=>Lq.endK (N:=N) (f:=3) ⟨Ac,Aq,Aj,Ap⟩ Bs (((((trim.rnd o l c xs ty nx).ct h0).ct h1).ct h2).cf h3) (fun q=>by cases q) rfl rfl
def trim.stop2:=fun h0=>Lq.endK (N:=N) (f:=3) ⟨Ac,Aq,Aj,Ap⟩ Bs ((trim.rnd o l c xs ty nx).cf h0) (fun q=>by cases q) rfl rfl
end
def trim.ok (o l c:Nat) (xs:List Int):Bool:=Nat.ble (o+l) xs.length&&(Nat.ble l c&&Nat.ble c 1152921504606846976)
def trim.lt (o l c:Nat) (xs:List Int) (ty:TypeId) (nx:Nat):LT:= .got (trim.ok o l c xs) (.exit 0) (trim.st o (tl (seg xs o l)) c xs ty nx)
theorem La {l:Nat} (h:l<4611686018427387904):i64.wrap ((((l+1:Nat):Nat):Int)-1)=(l:Int):=by rw [w64 (by omega) (by omega)]; omega
theorem dtrue {p:Prop} [Decidable p] (h:p):decide p=true:=decide_eq_true h
theorem dtrue2 {p q:Prop} [Decidable p] [Decidable q] (h:p) (h':q):(decide p&&decide q)=true:=by simp [h,h']
theorem dfalse {p:Prop} [Decidable p] (h:¬p):decide p=false:=decide_eq_false h
theorem EM {a b:Nat} (h:a<b):a.blt b=true:=by simpa [Nat.blt_eq] using h
theorem trim.go {N:Nat→Prop} (o c:Nat) (xs:List Int) (ty:TypeId) (nx:Nat):∀(l:Nat),o+l≤xs.length→l≤c→c≤1152921504606846976→Lq Tryz.prog N (Ay Tryz.f205 0) (trim.st o l c xs ty nx) (.exit 0) (trim.st o (tl (seg xs o l)) c xs ty nx)
 | 0,_,_,_=>by
  rw [FH]
  exact trim.stop2 _ _ _ _ _ _ rfl
 | l +1,h1,h2,h3=>by
  have e1:=La (l:=l) (by omega)
  have c0:(decide ((((l+1:Nat):Nat):Int)>0))=true:=dtrue (by omega)
  have c1:(decide (0≤i64.wrap ((((l+1:Nat):Nat):Int)-1))&&decide (i64.wrap ((((l+1:Nat):Nat):Int)-1)<(((l+1:Nat):Nat):Int)))=true:=by rw [e1]; exact dtrue2 (by omega) (by omega)
  have c2:(o+(i64.wrap ((((l+1:Nat):Nat):Int)-1)).toNat*1).blt xs.length=true:=by rw [e1]; exact EM (by simp; omega)
  have e2:o+(i64.wrap ((((l+1:Nat):Nat):Int)-1)).toNat*1=o+l:=by rw [e1]; simp
  by_cases hx:xs.getD (o+l) 0=0
  ·refine trim.step0 _ _ _ _ _ _ c0 c1 c2 (by rw [e2,hx]; rfl) (by rw [e1]; simp only [Bool.and_true]; exact dtrue2 (by omega) (by omega)) ?_
   rw [e1,Kk (by omega),hx,HZ]
   exact trim.go o c xs ty nx l (by omega) (by omega) h3
  ·rw [Kk (by omega),Nm _ hx,EL (by omega)]
   exact trim.stop1 _ _ _ _ _ _ c0 c1 c2 (by rw [e2]; exact E9 hx)
theorem trim.lp {N:Nat→Prop} (o l c:Nat) (xs:List Int) (ty:TypeId) (nx:Nat) {x:X} {S':St} (h:(trim.lt o l c xs ty nx).at=some (x,S')):Lq Tryz.prog N (Ay Tryz.f205 0) (trim.st o l c xs ty nx) x S':=by
 obtain ⟨h1,rfl,rfl⟩:=Ez h
 simp only [trim.ok,zB,Nat.ble_eq] at h1
 exact trim.go o c xs ty nx l h1.1 h1.2.1 h1.2.2
def trim.t:LSpec:=fun S=>match RX.nth S.tmps 0,RX.look S.heap 0 with
 | .slice (some ⟨0,o,none⟩) l c,some (.is .u32 xs ty)=>bif Nat.beq S.tmps.length 21 then some (trim.lt o l c xs ty S.nxt) else none
 |_,_=>none
theorem trim.lok {N:Nat→Prop} :LOKn Tryz.prog N (Ay Tryz.f205 0) (trim.t):=by
 refine FS fun S lt x S' ht hat=> ?_
 unfold trim.t at ht
 split at ht
 ·rename_i o l c xs ty h0 g0
  cases hb:Nat.beq S.tmps.length 21 with
  |false=>rw [hb] at ht; cases ht
  | true=>
   rw [hb] at ht
   injection ht with ht
   subst ht
   have hb:=zE hb
   exact .enter (fun h=>FW hb (.cons ⟨h0,bnth h h0⟩ .nil) (.cons ⟨g0,bname h g0,rfl⟩ .nil)) (trim.lp _ _ _ _ _ _ hat)
 ·cases ht
def E2.sp:HSpec
 |[.slice (some ⟨0,o,none⟩) l c],[.is .u32 xs ty]=>some (trim.ok o l c xs,.slice (some ⟨0,o,none⟩) (tl (seg xs o l)) c,[.is .u32 xs ty])
 |_,_=>none
theorem E2.run (o l c:Nat) (xs:List Int) (ty:TypeId):xfnN Tryz.prog ⟨[],[],[]⟩ [(0,trim.t)] 10 Tryz.f205 [.slice (some ⟨0,o,none⟩) l c] [.is .u32 xs ty] []=bif trim.ok o l c xs then some (ren (rho 1 []) (.slice (some ⟨0,o,none⟩) (tl (seg xs o l)) c),[.is .u32 xs ty]) else none:=by kernel_rfl
theorem E2.ok:SOK Tryz.prog 205 E2.sp:=by
 refine Fs (E:=⟨[],[],[]⟩) (L:=[(0,trim.t)]) ⟨Ac,Aq,Aj,Ap⟩ 10 Tryz.func205 (by decide) rfl (F2 rfl rfl trim.lok) fun vs bl v bl' h=> ?_
 unfold E2.sp at h
 split at h
 ·simp only [zS,zP] at h
  obtain ⟨h1,rfl,rfl⟩:=h
  exact ⟨[],(E2.run _ _ _ _ _).trans (ct h1),by simp [okV,Nat.blt],rfl,Bg rfl,List.nodup_nil,by simp⟩
 ·cases h
end Go.Proofs.YtpejalpgficopaaGreatDoor.G
end
section
namespace Go.Proofs.YtpejalpgficopaaGreatDoor.G
open Go RX
def p8 (k:Nat):Int:=((256^k:Nat):Int)
theorem J2:p8 0=1:=rfl
theorem Gb (k:Nat):p8 (k+1)=256*p8 k:=by simp only [p8,Nat.pow_succ,Int.natCast_mul]; rw [Int.mul_comm]; rfl
theorem Gh (k:Nat):0<p8 k:=by
 have:=Nat.pow_pos (n:=k) (show 0<256 by decide)
 simp only [p8]; omega
theorem Nw (a b:Nat):p8 (a+b)=p8 a*p8 b:=by simp only [p8,Nat.pow_add,Int.natCast_mul]
theorem KJ (k:Nat):p8 (4*k)=pw k:=by simp only [p8,pw,Nat.pow_mul]
def ub (v:Int):UInt8:=UInt8.ofNat (v%256).toNat
theorem Mr (v:Int):((ub v).toNat:Int)=v%256:=by
 have h1:=Int.emod_nonneg v (show (256:Int)≠0 by decide)
 have h2:=Int.emod_lt_of_pos v (show (0:Int)<256 by decide)
 unfold ub
 rw [UInt8.toNat_ofNat',Nat.mod_eq_of_lt (by omega)]
 omega
def be:Nat→Int→List UInt8
 |0,_=>[]
 |k+1,v=>be k (v/256)++[ub v]
def lv:List UInt8→Int
 |[]=>0
 |b::r=>(b.toNat:Int)+256*lv r
def bv (l:List UInt8):Int:=lv l.reverse
theorem IK:∀(k:Nat) (v:Int),(be k v).length=k
 |0,v=>rfl
 |k+1,v=>by simp [be,IK k]
theorem Jf:∀(l:List UInt8),0≤lv l
 |[]=>by simp [lv]
 |b::r=>by have:=Jf r; simp only [lv]; omega
theorem EV (l:List UInt8):0≤bv l:=Jf _
theorem Qi:∀(l:List UInt8),lv l<p8 l.length
 |[]=>by simp [lv,J2]
 | b::r=>by
  have h1:=Qi r
  have h2:b.toNat<256:=b.toNat_lt
  simp only [lv,List.length_cons,Gb]
  omega
theorem PR (l:List UInt8):bv l<p8 l.length:=by have:=Qi l.reverse; rwa [List.length_reverse] at this
theorem bv_snoc (l:List UInt8) (b:UInt8):bv (l++[b])=256*bv l+b.toNat:=by simp [bv,lv]; omega
theorem RP:∀(k:Nat) (v:Int),0≤v→v<p8 k→bv (be k v)=v
 |0,v,h,h'=>by rw [J2] at h'; simp only [be,bv,List.reverse_nil,lv]; omega
 | k+1,v,h,h'=>by
  rw [Gb] at h'
  simp only [be]
  rw [bv_snoc,RP k _ (by omega) (by omega),Mr]
  omega
theorem Mk:∀(b:UInt8) (l:List UInt8),bv (b::l)=b.toNat*p8 l.length+bv l:=by
 have key:∀(l:List UInt8) (b:UInt8),lv (l++[b])=lv l+p8 l.length*b.toNat:=by
  intro l b
  induction l with
  |nil=>simp [lv,J2]
  | cons x r ih=>
   simp only [List.cons_append,lv,ih,List.length_cons,Gb,Int.mul_add,Int.mul_assoc]
   omega
 intro b l
 simp only [bv,List.reverse_cons]
 rw [key,List.length_reverse,Int.mul_comm]
 omega
theorem be_bv:∀(l:List UInt8),be l.length (bv l)=l:=by
 intro l
 have key:∀(m:List UInt8),be m.length (lv m)=m.reverse:=by
  intro m
  induction m with
  |nil=>rfl
  | cons b r ih=>
   have h2:b.toNat<256:=b.toNat_lt
   have e1:((b.toNat:Int)+256*lv r)/256=lv r:=by omega
   have e2:ub ((b.toNat:Int)+256*lv r)=b:=by
    apply UInt8.toNat_inj.1
    have:=Mr ((b.toNat:Int)+256*lv r)
    omega
   simp only [List.length_cons,be,lv,e1,e2,ih,List.reverse_cons]
 have:=key l.reverse
 rwa [List.length_reverse,List.reverse_reverse] at this
def tz:List UInt8→List UInt8
 |[]=>[]
 |b::r=>bif b.toNat==0 then tz r else b::r
theorem bv_tz:∀(l:List UInt8),bv (tz l)=bv l
 |[]=>rfl
 | b ::r=>by
  simp only [tz]
  cases hb:b.toNat==0 with
  | true=>
   have:b.toNat=0:=by simpa using hb
   rw [cond_true,bv_tz r,Mk,this]; simp
  |false=>rfl
theorem Nk (k:Nat) (v:Int) (h0:0≤v) (h:v<p8 k):tz (be (k+1) v)=tz (be k v):=by
 have e:be (k+1) v=0::be k v:=by
  have h1:=be_bv (0::be k v)
  have h2:bv (0::be k v)=v:=by rw [Mk,RP k v h0 h]; simp
  rw [h2,List.length_cons,IK] at h1
  exact h1
 rw [e]; rfl
theorem I3 {j k:Nat} (h:j≤k):p8 j≤p8 k:=by
 have:=Nat.pow_le_pow_right (show 0<256 by decide) h
 simp only [p8]; omega
theorem tz_be {k j:Nat} {v:Int} (h0:0≤v) (h:v<p8 j) (hjk:j≤k):tz (be k v)=tz (be j v):=by
 obtain ⟨d,rfl⟩:=Nat.exists_eq_add_of_le hjk
 clear hjk
 induction d with
 |zero=>rfl
 |succ d ih=>rw [←ih,←Nat.add_assoc]; exact Nk _ v h0 (Int.lt_of_lt_of_le h (I3 (by omega)))
def bl (v:Int):Nat:=v.toNat.log2/8+1
theorem lt_bl {v:Int} (h:0≤v):v<p8 (bl v):=by
 obtain ⟨n,rfl⟩:=Int.eq_ofNat_of_zero_le h
 have e:p8 (bl (n:Int))=((256^(n.log2/8+1):Nat):Int):=rfl
 rw [e]
 have h1:n<2^(n.log2+1):=Nat.lt_log2_self
 have h2:2^(n.log2+1)≤256^(n.log2/8+1):=by
  rw [show (256:Nat)=2^8 from rfl,←Nat.pow_mul]
  exact Nat.pow_le_pow_right (by decide) (by omega)
 exact_mod_cast Nat.lt_of_lt_of_le h1 h2
def enc (v:Int):List UInt8:=tz (be (bl v) v)
theorem OC {v:Int} {k:Nat} (h:0≤v) (hk:v<p8 k):tz (be k v)=enc v:=by
 unfold enc
 rcases Nat.le_total k (bl v) with h1|h1
 ·exact (tz_be h hk h1).symm
 ·exact tz_be h (lt_bl h) h1
theorem OL {v:Int} (h:0≤v):bv (enc v)=v:=by rw [enc,bv_tz,RP _ v h (lt_bl h)]
theorem Hn {l:List UInt8} (h:tz l=l):enc (bv l)=l:=by
 rw [←OC (EV l) (PR l),be_bv,h]
theorem tz_tz:∀(l:List UInt8),tz (tz l)=tz l
 |[]=>rfl
 | b::r=>by
  simp only [tz]
  cases hb:b.toNat==0 with
  |true=>rw [cond_true,tz_tz r]
  |false=>rw [cond_false,tz,hb]; rfl
theorem tz_enc (v:Int):tz (enc v)=enc v:=tz_tz _
theorem PI {v:Int} (h:0≤v):enc v=[]↔v=0:=by
 constructor
 ·intro e
  have:=OL h
  rw [e] at this
  simpa [bv,lv] using this.symm
 ·rintro rfl; rfl
theorem JQ:∀(l:List UInt8),(tz l).length≤l.length
 |[]=>Nat.le_refl _
 | b::r=>by
  simp only [tz]
  cases b.toNat==0 with
  |true=>exact Nat.le_succ_of_le (JQ r)
  |false=>exact Nat.le_refl _
theorem LJ {v:Int} {k:Nat} (h:0≤v) (hk:v<p8 k):(enc v).length≤k:=by
 rw [←OC h hk]
 exact Nat.le_trans (JQ _) (by rw [IK]; exact Nat.le_refl _)
theorem ub_mod {v w:Int} (h:v%256=w%256):ub v=ub w:=by unfold ub; rw [h]
theorem RW:∀(b:Nat) (w x:Int),be b (w+p8 b*x)=be b w
 |0,w,x=>rfl
 | b+1,w,x=>by
  have e1:(w+256*p8 b*x)/256=w/256+p8 b*x:=by rw [Int.mul_assoc]; omega
  have e2:ub (w+256*p8 b*x)=ub w:=ub_mod (by rw [Int.mul_assoc]; omega)
  simp only [be,Gb,e1,e2,RW b]
theorem RY (a:Nat):∀(b:Nat) (v:Int),be (a+b) v=be a (v/p8 b)++be b v
 |0,v=>by simp [be,J2]
 | b+1,v=>by
  rw [←Nat.add_assoc]
  simp only [be,RY a b,Gb,List.append_assoc]
  rw [Int.ediv_ediv,if_neg (by omega),Int.sub_zero]
def tb (n:Int):UInt8:=UInt8.ofNat n.toNat
theorem tb_wrap (n:Int):tb (IntKind.u8.wrap n)=ub n:=by rw [wu8]; rfl
theorem Nv (r:Nat):p8 r=((2^(8*r):Nat):Int):=by simp only [p8,Nat.pow_mul]
theorem LD:∀(q n:Nat) (v:Int) (r:Nat),0≤v→v<p8 (4*q+r)→r≤4→(dg n v).getD q 0<p8 r
 |q,0,v,r,_,_,_=>by have:=Gh r; simpa [dg] using this
 | 0,n+1,v,r,h0,h,_=>by
  rw [Nat.mul_zero,Nat.zero_add] at h
  simp only [dg,List.getD_cons_zero]
  omega
 | q+1,n+1,v,r,h0,h,hr=>by
  rw [show 4*(q+1)+r=4+(4*q+r) from by omega,Nw] at h
  have h4:p8 4=4294967296:=by decide
  rw [h4] at h
  simp only [dg,List.getD_cons_succ]
  exact LD q n _ r (by omega) (by omega) hr
theorem QO:∀(q n:Nat) (v:Int) (r:Nat) (b:Int),q<n→r<4→0≤v→v<p8 (4*q+r)→0≤b→b<256→dg n (v+p8 (4*q+r)*b)=(dg n v).set q ((dg n v).getD q 0+b*p8 r)
 |q,0,v,r,b,h,_,_,_,_,_=>by omega
 | 0,n+1,v,r,b,_,hr,h0,h,hb,hb'=>by
  rw [Nat.mul_zero,Nat.zero_add] at h ⊢
  have hp:=Gh r
  have h3:p8 r*b≤p8 r*255:=Int.mul_le_mul_of_nonneg_left (by omega) (by omega)
  have h5:0≤p8 r*b:=Int.mul_nonneg (by omega) hb
  have h4:p8 r≤16777216:=Int.le_trans (I3 (show r≤3 by omega)) (by decide)
  have e1:(v+p8 r*b)%4294967296=v+p8 r*b:=Int.emod_eq_of_lt (by omega) (by omega)
  have e2:(v+p8 r*b)/4294967296=0:=Int.ediv_eq_zero_of_lt (by omega) (by omega)
  have e3:v%4294967296=v:=Int.emod_eq_of_lt h0 (by omega)
  have e4:v/4294967296=0:=Int.ediv_eq_zero_of_lt h0 (by omega)
  simp only [dg,e1,e2,e3,e4,List.set_cons_zero,List.getD_cons_zero,Int.mul_comm b]
 | q +1,n+1,v,r,b,hq,hr,h0,h,hb,hb'=>by
  have e:p8 (4*(q+1)+r)=4294967296*p8 (4*q+r):=by
   rw [show 4*(q+1)+r=4+(4*q+r) from by omega,Nw]; rfl
  rw [e] at h ⊢
  have e1:(v+4294967296*p8 (4*q+r)*b)%4294967296=v%4294967296:=by rw [Int.mul_assoc]; omega
  have e2:(v+4294967296*p8 (4*q+r)*b)/4294967296=v/4294967296+p8 (4*q+r)*b:=by rw [Int.mul_assoc]; omega
  simp only [dg,e1,e2,List.set_cons_succ,List.getD_cons_succ]
  rw [QO q n (v/4294967296) r b (by omega) hr (by omega) (by omega) hb hb']
theorem PA:∀(l:List UInt8) (b:UInt8),lv (l++[b])=lv l+p8 l.length*b.toNat
 |[],b=>by simp [lv,J2]
 | x::r,b=>by
  simp only [List.cons_append,lv,PA r b,List.length_cons,Gb,Int.mul_add,Int.mul_assoc]
  omega
end Go.Proofs.YtpejalpgficopaaGreatDoor.G
end
section
namespace Go.Proofs.YtpejalpgficopaaGreatDoor.G
open Go Go.Proofs RX
section
variable {N:Nat→Prop} {xe:X} {Se:St} (s:ByteArray) (c:Int) (nx:Nat)
abbrev tlb.st:St:=⟨gbuild [(0,.string s),(1,.int .u8 c)] 0 17,[],nx⟩
abbrev tlb.lk:=RX.lk [0,1] []
theorem tlb.rnd:rd Tryz.prog ⟨[],[],[]⟩ [] 3 (Ay Tryz.f229 0) (tlb.st s c nx) 17 [0,1] []=
 bif decide (((s.size:Nat):Int)>0) then bif decide (0≤0)&&decide (0<((s.size:Nat):Int)) then bif (((s.data.toList.getD (Int.toNat 0) 0).toNat:Nat):Int)==c then bif true&&(decide (0≤1)&&decide (1≤((s.size:Nat):Int))) then tlb.lk .normal (tlb.st (subL s.data.toList (Int.toNat 1) s.size) c nx) else none else tlb.lk (.exit 0) (tlb.st s c nx) else none else tlb.lk (.exit 0) (tlb.st s c nx):=by kernel_rfl
def tlb.step0:=fun h0 h1 h2 h3 (ih:Lq Tryz.prog N (Ay Tryz.f229 0) _ xe Se)=>Lq.toK (f:=3) ⟨Ac,Aq,Aj,Ap⟩ Bs (((((tlb.rnd s c nx).ct h0).ct h1).ct h2).ct h3) rfl rfl ih
def tlb.stop1:=fun h0 h1 h2=>Lq.endK (N:=N) (f:=3) ⟨Ac,Aq,Aj,Ap⟩ Bs ((((tlb.rnd s c nx).ct h0).ct h1).cf h2) (fun q=>by cases q) rfl rfl
def tlb.stop2:=fun h0=>Lq.endK (N:=N) (f:=3) ⟨Ac,Aq,Aj,Ap⟩ Bs ((tlb.rnd s c nx).cf h0) (fun q=>by cases q) rfl rfl
end
def tc (c:Int):List UInt8→List UInt8
 |[]=>[]
 |b::r=>bif ((b.toNat:Nat):Int)==c then tc c r else b::r
theorem Oc:∀(l:List UInt8),tc 0 l=tz l
 |[]=>rfl
 | b ::r=>by
  simp only [tc,tz,Oc r]
  have:(((b.toNat:Nat):Int)==0)=(b.toNat==0):=by
   cases h:b.toNat==0 with
   |true=>simpa using h
   |false=>simp at h ⊢; exact h
  rw [this]
def str (l:List UInt8):ByteArray:=⟨⟨l⟩⟩
def tlb.lt (s:ByteArray) (c:Int) (nx:Nat):LT:= .got (Nat.ble s.size 1152921504606846976) (.exit 0) (tlb.st (str (tc c s.data.toList)) c nx)
theorem Iq (l:List UInt8):(str l).size=l.length:=rfl
theorem tlb.go {N:Nat→Prop} (c:Int) (nx:Nat):∀(l:List UInt8),l.length≤1152921504606846976→Lq Tryz.prog N (Ay Tryz.f229 0) (tlb.st (str l) c nx) (.exit 0) (tlb.st (str (tc c l)) c nx)
 |[],_=>tlb.stop2 _ _ _ rfl
 | b ::r,h=>by
  have c0:(decide ((((str (b::r)).size:Nat):Int)>0))=true:=dtrue (by rw [Iq,List.length_cons]; omega)
  have c1:(decide (0≤0)&&decide (0<(((str (b::r)).size:Nat):Int)))=true:=dtrue2 (by omega) (by rw [Iq,List.length_cons]; omega)
  have hg:((str (b::r)).data.toList.getD (Int.toNat 0) 0)=b:=rfl
  simp only [List.length_cons] at h
  cases hb:((b.toNat:Nat):Int)==c with
  | true=>
   refine tlb.step0 _ _ _ c0 c1 (by rw [hg]; exact hb) (by simp only [Bool.true_and]; exact dtrue2 (by omega) (by rw [Iq,List.length_cons]; omega)) ?_
   have e:subL (str (b::r)).data.toList (Int.toNat 1) (str (b::r)).size=str r:=by
    show (⟨⟨((b::r).drop 1).take ((b::r).length-1)⟩⟩:ByteArray)=⟨⟨r⟩⟩
    simp
   rw [e]
   simp only [tc,hb,cond_true]
   exact tlb.go c nx r (by omega)
  | false=>
   simp only [tc,hb,cond_false]
   exact tlb.stop1 _ _ _ c0 c1 (by rw [hg]; exact hb)
theorem tlb.lp {N:Nat→Prop} (s:ByteArray) (c:Int) (nx:Nat) {x:X} {S':St} (h:(tlb.lt s c nx).at=some (x,S')):Lq Tryz.prog N (Ay Tryz.f229 0) (tlb.st s c nx) x S':=by
 obtain ⟨h1,rfl,rfl⟩:=Ez h
 exact tlb.go c nx s.data.toList (zL h1)
def tlb.t:LSpec:=fun S=>match RX.nth S.tmps 0,RX.nth S.tmps 1 with
 | .string s,.int .u8 c=>bif Nat.beq S.tmps.length 17 then some (tlb.lt s c S.nxt) else none
 |_,_=>none
theorem tlb.lok {N:Nat→Prop} :LOKn Tryz.prog N (Ay Tryz.f229 0) (tlb.t):=by
 refine FS fun S lt x S' ht hat=> ?_
 unfold tlb.t at ht
 split at ht
 ·rename_i s c h0 h1
  cases hb:Nat.beq S.tmps.length 17 with
  |false=>rw [hb] at ht; cases ht
  | true=>
   rw [hb] at ht
   injection ht with ht
   subst ht
   have hb:=zE hb
   exact .enter (fun h=>FW hb (.cons ⟨h0,bnth h h0⟩ (.cons ⟨h1,bnth h h1⟩ .nil)) .nil) (tlb.lp _ _ _ hat)
 ·cases ht
def FC.sp:HSpec
 |[.string s,.int .u8 c],[]=>some (Nat.ble s.size 1152921504606846976,.string (str (tc c s.data.toList)),[])
 |_,_=>none
theorem FC.run (s:ByteArray) (c:Int):xfn Tryz.prog ⟨[],[],[]⟩ [(0,tlb.t)] 10 Tryz.f229 [.string s,.int .u8 c] []=bif Nat.ble s.size 1152921504606846976 then some (.string (str (tc c s.data.toList)),[]) else none:=by kernel_rfl
theorem FC.ok:SOK Tryz.prog 229 FC.sp:=by
 refine Dl (E:=⟨[],[],[]⟩) (L:=[(0,tlb.t)]) ⟨Ac,Aq,Aj,Ap⟩ 10 Tryz.func229 (by decide) rfl (F2 rfl rfl tlb.lok) fun vs bl v bl' h=> ?_
 unfold FC.sp at h
 split at h
 ·simp only [zS,zP] at h
  obtain ⟨h1,rfl,rfl⟩:=h
  exact ⟨(FC.run _ _).trans (ct h1),by simp [okV],clo_spec 8 _ rfl,Bg rfl⟩
 ·cases h
theorem PQ {a b:ByteArray} (h:(a==b)=true):a=b:=by
 obtain ⟨a⟩:=a
 obtain ⟨b⟩:=b
 have:(a==b)=true:=h
 rw [eq_of_beq this]
def TrimZ.sp:HSpec
 |[.string s,.string ⟨⟨[0]⟩⟩],[]=>some (Nat.ble s.size 1152921504606846976,.string (str (tz s.data.toList)),[])
 |_,_=>none
theorem TrimZ.run (s:ByteArray):xfn Tryz.prog ⟨[(229,FC.sp)],[],[]⟩ [] 10 Tryz.f219 [.string s,.string ⟨⟨[0]⟩⟩] []=bif s.toList==(⟨#[]⟩:ByteArray).toList then some (.string s,[]) else bif Nat.ble s.size 1152921504606846976 then some (.string (str (tc 0 s.data.toList)),[]) else none:=by kernel_rfl
theorem TrimZ.ok:SOK Tryz.prog 219 TrimZ.sp:=by
 refine Dl (E:=⟨[(229,FC.sp)],[],[]⟩) (L:=[]) ⟨Aa FC.ok Ac,Aq,Aj,Ap⟩ 10 Tryz.func219 (by decide) rfl Bf fun vs bl v bl' h=> ?_
 unfold TrimZ.sp at h
 split at h
 ·rename_i s
  simp only [zS,zP] at h
  obtain ⟨h1,rfl,rfl⟩:=h
  refine ⟨(TrimZ.run s).trans ?_,by simp [okV],clo_spec 8 _ rfl,Bg rfl⟩
  cases hs:s.toList==(⟨#[]⟩:ByteArray).toList with
  | true=>
   have h0:(s==(⟨#[]⟩:ByteArray))=true:=(HQ s ⟨#[]⟩).trans hs
   have:s=⟨#[]⟩:=PQ h0
   subst this
   rfl
  |false=>rw [cond_false,ct h1,Oc]
 ·cases h
section
variable {N:Nat→Prop} {xe:X} {Se:St} (oa la ca l c:Nat) (i:Int) (xs:List Int) (ta:TypeId) (out:List Int) (tc:TypeId)
abbrev mag.st:St:=⟨gbuild [(0,.slice (some ⟨0,oa,none⟩) la ca),(3,.slice (some ⟨65,0,none⟩) l c),(4,.int .i64 i)] 0 45,[(0,.is .u32 xs ta),(65,.is .u8 out tc)],161⟩
abbrev mag.lk:=RX.lk [0,3,4] [0,65]
theorem mag.rnd:rd Tryz.prog ⟨[],[],[]⟩ [] 3 (Ay Tryz.f206 0) (mag.st oa la ca l c i xs ta out tc) 45 [0,3,4] [0,65]=
 bif decide (i≥0) then bif decide (0≤i)&&decide (i<((la:Nat):Int)) then bif (oa+i.toNat*1).blt xs.length then bif decide (0≤i)&&decide (i<((la:Nat):Int)) then bif (oa+i.toNat*1).blt xs.length then bif decide (0≤i)&&decide (i<((la:Nat):Int)) then bif (oa+i.toNat*1).blt xs.length then bif decide (0≤i)&&decide (i<((la:Nat):Int)) then bif (oa+i.toNat*1).blt xs.length then bif (l+4).ble c&&((1).beq 1&&(0+l+[IntKind.u8.wrap ((xs.getD (oa+i.toNat*1) 0).fdiv (2^min (Int.toNat 24) u32.bits)),IntKind.u8.wrap ((xs.getD (oa+i.toNat*1) 0).fdiv (2^min (Int.toNat 16) u32.bits)),IntKind.u8.wrap ((xs.getD (oa+i.toNat*1) 0).fdiv (2^min (Int.toNat 8) u32.bits)),IntKind.u8.wrap (xs.getD (oa+i.toNat*1) 0)].length).ble out.length) then mag.lk .normal (mag.st oa la ca (l+4) c (i64.wrap (i-1)) xs ta (wr out (0+l) [IntKind.u8.wrap ((xs.getD (oa+i.toNat*1) 0).fdiv (2^min (Int.toNat 24) u32.bits)),IntKind.u8.wrap ((xs.getD (oa+i.toNat*1) 0).fdiv (2^min (Int.toNat 16) u32.bits)),IntKind.u8.wrap ((xs.getD (oa+i.toNat*1) 0).fdiv (2^min (Int.toNat 8) u32.bits)),IntKind.u8.wrap (xs.getD (oa+i.toNat*1) 0)]) tc) else none else none else none else none else none else none else none else none else none else mag.lk (.exit 0) (mag.st oa la ca l c i xs ta out tc):=by kernel_rfl
def mag.step0:=fun h0 h1 h2 h3 h4 h5 h6 h7 h8 h9 (ih:Lq Tryz.prog N (Ay Tryz.f206 0) _ xe Se)=>Lq.to (f:=3) ⟨Ac,Aq,Aj,Ap⟩ Bs (((((((((((mag.rnd oa la ca l c i xs ta out tc).ct h0).ct h1).ct h2).ct h3).ct h4).ct h5).ct h6).ct h7).ct h8).ct h9) rfl ih
def mag.stop1:=fun h0=>Lq.end (N:=N) (f:=3) ⟨Ac,Aq,Aj,Ap⟩ Bs ((mag.rnd oa la ca l c i xs ta out tc).cf h0) (fun q=>by cases q) rfl
end
def b4 (x:Int):List Int:=[IntKind.u8.wrap (x.fdiv (2^min (Int.toNat 24) u32.bits)),IntKind.u8.wrap (x.fdiv (2^min (Int.toNat 16) u32.bits)),IntKind.u8.wrap (x.fdiv (2^min (Int.toNat 8) u32.bits)),IntKind.u8.wrap x]
def mb (xs:List Int) (o l:Nat):Nat→List Int→List Int
 |0,out=>out
 |k+1,out=>mb xs o (l+4) k (wr out (0+l) (b4 (xs.getD (o+k) 0)))
def mag.ok (oa la l c:Nat) (i:Int) (xs out:List Int):Bool:=decide (i+1=(la:Int))&&(Nat.beq l 0&&(Nat.beq c (4*la)&&(Nat.beq out.length (4*la)&&(Nat.ble (oa+la) xs.length&&Nat.ble la 1152921504606846976))))
def mag.lt (oa la ca l c:Nat) (i:Int) (xs:List Int) (ta:TypeId) (out:List Int) (tc:TypeId):LT:= .got (mag.ok oa la l c i xs out) (.exit 0) (mag.st oa la ca (4*la) c (-1) xs ta (mb xs oa 0 la out) tc)
theorem mag.go {N:Nat→Prop} (oa la ca c:Nat) (xs:List Int) (ta tc:TypeId) (h1:oa+la≤xs.length) (h2:c=4*la) (h3:la≤1152921504606846976):∀(k l:Nat) (out:List Int),k≤la→l+4*k=4*la→out.length=4*la→Lq Tryz.prog N (Ay Tryz.f206 0) (mag.st oa la ca l c ((k:Int)-1) xs ta out tc) (.exit 0) (mag.st oa la ca (4*la) c (-1) xs ta (mb xs oa l k out) tc)
 | 0,l,out,_,h5,_=>by
  have:l=4*la:=by omega
  subst this
  exact mag.stop1 oa la ca (4*la) c _ xs ta out tc rfl
 | k +1,l,out,h4,h5,h6=>by
  have e0:(((k+1:Nat):Int)-1)=(k:Int):=by omega
  rw [e0]
  have c1:(decide (0≤(k:Int))&&decide ((k:Int)<((la:Nat):Int)))=true:=dtrue2 (by omega) (by omega)
  have c2:(oa+((k:Int)).toNat*1).blt xs.length=true:=EM (by simp; omega)
  refine mag.step0 oa la ca l c _ xs ta out tc (dtrue (by omega)) c1 c2 c1 c2 c1 c2 c1 c2 ?_ ?_
  ·simp only [List.length_cons,List.length_nil,zB,Nat.ble_eq]
   exact ⟨by omega,rfl,by omega⟩
  ·have e1:i64.wrap ((k:Int)-1)=(k:Int)-1:=w64 (by omega) (by omega)
   have e2:oa+((k:Int)).toNat*1=oa+k:=by simp
   rw [e1,e2]
   exact mag.go oa la ca c xs ta tc h1 h2 h3 k (l+4) _ (by omega) (by omega) (by rw [Hr]; exact h6)
theorem mag.lp {N:Nat→Prop} (oa la ca l c:Nat) (i:Int) (xs:List Int) (ta:TypeId) (out:List Int) (tc:TypeId) {x:X} {S':St} (h:(mag.lt oa la ca l c i xs ta out tc).at=some (x,S')):Lq Tryz.prog N (Ay Tryz.f206 0) (mag.st oa la ca l c i xs ta out tc) x S':=by
 obtain ⟨h1,rfl,rfl⟩:=Ez h
 simp only [mag.ok,zB,Nat.ble_eq,zD] at h1
 obtain ⟨h1,h2,h3,h4,h5,h6⟩:=h1
 have h2:=zE h2
 have h3:=zE h3
 have h4:=zE h4
 subst h2
 have:i=((la:Nat):Int)-1:=by omega
 subst this
 exact mag.go oa la ca c xs ta tc h5 h3 h6 la 0 out (Nat.le_refl _) (by omega) h4
def mag.t:LSpec:=fun S=>match RX.nth S.tmps 0,RX.nth S.tmps 3,RX.nth S.tmps 4,RX.look S.heap 0,RX.look S.heap 65,S.nxt with
 | .slice (some ⟨0,oa,none⟩) la ca,.slice (some ⟨65,0,none⟩) l c,.int .i64 i,some (.is .u32 xs ta),some (.is .u8 out tc),161=>bif Nat.beq S.tmps.length 45 then some (mag.lt oa la ca l c i xs ta out tc) else none
 |_,_,_,_,_,_=>none
theorem mag.lok {N:Nat→Prop} :LOKn Tryz.prog N (Ay Tryz.f206 0) (mag.t):=by
 refine FS fun S lt x S' ht hat=> ?_
 unfold mag.t at ht
 split at ht
 ·rename_i oa la ca l c i xs ta out tc h0 h3 h4 g0 g65 hnx
  cases hb:Nat.beq S.tmps.length 45 with
  |false=>rw [hb] at ht; cases ht
  | true=>
   rw [hb] at ht
   injection ht with ht
   subst ht
   have hb:=zE hb
   obtain ⟨T,H,_⟩:=S
   subst hnx
   exact .enter (fun h=>FW hb (.cons ⟨h0,bnth h h0⟩ (.cons ⟨h3,bnth h h3⟩ (.cons ⟨h4,bnth h h4⟩ .nil))) (.cons ⟨g0,bname h g0,rfl⟩ (.cons ⟨g65,bname h g65,rfl⟩ .nil))) (mag.lp _ _ _ _ _ _ _ _ _ _ hat)
 ·cases ht
theorem b4_be (x:Int):(b4 x).map tb=be 4 x:=by
 have f1:x.fdiv (2^min (Int.toNat 24) u32.bits)=x/256/256/256:=by
  rw [Int.fdiv_eq_ediv_of_nonneg _ (by decide),show ((2:Int)^min (Int.toNat 24) u32.bits)=16777216 from rfl]; omega
 have f2:x.fdiv (2^min (Int.toNat 16) u32.bits)=x/256/256:=by
  rw [Int.fdiv_eq_ediv_of_nonneg _ (by decide),show ((2:Int)^min (Int.toNat 16) u32.bits)=65536 from rfl]; omega
 have f3:x.fdiv (2^min (Int.toNat 8) u32.bits)=x/256:=by
  rw [Int.fdiv_eq_ediv_of_nonneg _ (by decide),show ((2:Int)^min (Int.toNat 8) u32.bits)=256 from rfl]
 simp only [b4,f1,f2,f3,List.map_cons,List.map_nil,tb_wrap,be,List.nil_append,List.cons_append]
theorem OX:∀(vs out:List Int) (l:Nat),l+vs.length≤out.length→(wr out l vs).take (l+vs.length)=out.take l++vs
 |[],out,l,h=>by simp [wr]
 | v::r,out,l,h=>by
  simp only [List.length_cons] at h
  rw [wr,List.length_cons,show l+(r.length+1)=l+1+r.length from by omega,OX r _ (l+1) (by simp; omega),List.take_add_one,List.take_set_of_le (by omega)]
  simp [show l<out.length from by omega]
theorem Ly (xs:List Int) (o:Nat):∀(k l:Nat) (out:List Int),(mb xs o l k out).length=out.length
 |0,l,out=>rfl
 |k+1,l,out=>by rw [mb,Ly xs o k,Hr]
theorem mb_be {xs:List Int} {o:Nat} (hd:dig xs):∀(k l:Nat) (out:List Int),o+k≤xs.length→out.length=l+4*k→(mb xs o l k out).map tb=(out.take l).map tb++be (4*k) (nv (seg xs o k))
 | 0,l,out,_,h=>by
  simp only [mb,be,List.append_nil]
  rw [List.take_of_length_le (by omega)]
 | k+1,l,out,ho,h=>by
  have h4:(b4 (xs.getD (o+k) 0)).length=4:=rfl
  rw [mb,mb_be hd k (l+4) _ (by omega) (by rw [Hr]; omega),Nat.zero_add]
  have:=OX (b4 (xs.getD (o+k) 0)) out l (by rw [h4]; omega)
  rw [h4] at this
  rw [this,List.map_append,List.append_assoc,b4_be,EU (by omega)]
  congr 1
  have hw:=FF (EB hd o k)
  rw [EL (by omega),←KJ] at hw
  have hw0:=Dx (EB hd o k)
  rw [show 4*(k+1)=4+4*k from by omega,RY,←KJ,RW]
  congr 2
  rw [Int.add_mul_ediv_left _ _ (by have:=Gh (4*k); omega),Int.ediv_eq_zero_of_lt hw0 hw]
  omega
def Di (o l:Nat) (xs:List Int):Bool:=Nat.ble (o+l) xs.length&&(Nat.ble l 4294967296&&digB xs)
theorem Dy {o l:Nat} {xs:List Int} :Di o l xs=true↔o+l≤xs.length∧l≤4294967296∧dig xs:=by simp only [Di,zB,Nat.ble_eq,Fw]
def mag.sp:HSpec
 |[.slice (some ⟨0,o,none⟩) l c],[.is .u32 xs ty]=>some (Di o l xs,.string (str (enc (nv (seg xs o l)))),[.is .u32 xs ty])
 |[.slice none 0 0],[]=>some (true,.string (str []),[])
 |_,_=>none
section
variable {N:Nat→Prop} {xe:X} {Se:St} (i:Int) (out:List Int) (tc:TypeId)
abbrev magn.st:St:=⟨gbuild [(0,.slice none 0 0),(3,.slice (some ⟨64,0,none⟩) 0 0),(4,.int .i64 i)] 0 45,[(64,.is .u8 out tc)],160⟩
abbrev magn.lk:=RX.lk [0,3,4] [64]
theorem magn.rnd:rd Tryz.prog ⟨[],[],[]⟩ [] 3 (Ay Tryz.f206 0) (magn.st i out tc) 45 [0,3,4] [64]=
 bif decide (i≥0) then none else magn.lk (.exit 0) (magn.st i out tc):=by kernel_rfl
def magn.stop0:=fun h0=>Lq.end (N:=N) (f:=3) ⟨Ac,Aq,Aj,Ap⟩ Bs ((magn.rnd i out tc).cf h0) (fun q=>by cases q) rfl
end
def magn.lt (i:Int) (out:List Int) (tc:TypeId):LT:= .got (decide (i<0)) (.exit 0) (magn.st i out tc)
theorem magn.lp {N:Nat→Prop} (i:Int) (out:List Int) (tc:TypeId) {x:X} {S':St} (h:(magn.lt i out tc).at=some (x,S')):Lq Tryz.prog N (Ay Tryz.f206 0) (magn.st i out tc) x S':=by
 obtain ⟨h1,rfl,rfl⟩:=Ez h
 exact magn.stop0 i out tc (dfalse (by have:=of_decide_eq_true h1; omega))
def magn.t:LSpec:=fun S=>match RX.nth S.tmps 0,RX.nth S.tmps 3,RX.nth S.tmps 4,RX.look S.heap 64,S.nxt with
 | .slice none 0 0,.slice (some ⟨64,0,none⟩) 0 0,.int .i64 i,some (.is .u8 out tc),160=>bif Nat.beq S.tmps.length 45 then some (magn.lt i out tc) else none
 |_,_,_,_,_=>none
theorem magn.lok {N:Nat→Prop} :LOKn Tryz.prog N (Ay Tryz.f206 0) (magn.t):=by
 refine FS fun S lt x S' ht hat=> ?_
 unfold magn.t at ht
 split at ht
 ·rename_i i out tc h0 h3 h4 g64 hnx
  cases hb:Nat.beq S.tmps.length 45 with
  |false=>rw [hb] at ht; cases ht
  | true=>
   rw [hb] at ht
   injection ht with ht
   subst ht
   have hb:=zE hb
   obtain ⟨T,H,_⟩:=S
   subst hnx
   exact .enter (fun h=>FW hb (.cons ⟨h0,bnth h h0⟩ (.cons ⟨h3,bnth h h3⟩ (.cons ⟨h4,bnth h h4⟩ .nil))) (.cons ⟨g64,bname h g64,rfl⟩ .nil)) (magn.lp _ _ _ hat)
 ·cases ht
def magL:LSpec:=fun S=>match mag.t S with|some lt=>some lt|none=>magn.t S
theorem mag.run (o l c:Nat) (xs:List Int) (ty:TypeId):xfn Tryz.prog ⟨[(219,TrimZ.sp)],[],[]⟩ [(0,magL)] 10 Tryz.f206 [.slice (some ⟨0,o,none⟩) l c] [.is .u32 xs ty]=
 bif decide ((0:Int)≤0)&&(decide (0≤i64.wrap (4*(l:Int)))&&(decide (i64.wrap (4*(l:Int))≤140737488355328)&&decide (((0+1:Nat):Int)*i64.wrap (4*(l:Int))≤140737488355328))) then bif mag.ok o l (Int.toNat 0) (i64.wrap (4*(l:Int))).toNat (i64.wrap ((l:Int)-1)) xs (List.replicate ((i64.wrap (4*(l:Int))).toNat*(0+1)) 0) then bif (0+4*l).ble (mb xs o 0 l (List.replicate ((i64.wrap (4*(l:Int))).toNat*(0+1)) 0)).length then bif Nat.ble (str (List.map (fun n=>UInt8.ofNat n.toNat) (List.take (4*l) (List.drop 0 (mb xs o 0 l (List.replicate ((i64.wrap (4*(l:Int))).toNat*(0+1)) 0)))))).size 1152921504606846976 then some (.string (str (tz (str (List.map (fun n=>UInt8.ofNat n.toNat) (List.take (4*l) (List.drop 0 (mb xs o 0 l (List.replicate ((i64.wrap (4*(l:Int))).toNat*(0+1)) 0)))))).data.toList)),[.is .u32 xs ty]) else none else none else none else none:=by kernel_rfl
theorem mag.runn:xfn Tryz.prog ⟨[(219,TrimZ.sp)],[],[]⟩ [(0,magL)] 10 Tryz.f206 [.slice none 0 0] []=some (.string (str []),[]):=by kernel_rfl
theorem OO.ok:SOK Tryz.prog 206 mag.sp:=by
 refine Dl (E:=⟨[(219,TrimZ.sp)],[],[]⟩) (L:=[(0,magL)]) ⟨Aa TrimZ.ok Ac,Aq,Aj,Ap⟩ 10 Tryz.func206 (by decide) rfl (F2 rfl rfl (Qj mag.lok magn.lok)) fun vs bl v bl' h=> ?_
 unfold mag.sp at h
 split at h
 ·rename_i o l c xs ty
  simp only [zS,zP] at h
  obtain ⟨h1,rfl,rfl⟩:=h
  obtain ⟨ho,hl,hd⟩:=Dy.1 h1
  have e4:i64.wrap (4*(l:Int))=4*(l:Int):=w64 (by omega) (by omega)
  have t4:(i64.wrap (4*(l:Int))).toNat=4*l:=by rw [e4]; omega
  have e5:i64.wrap ((l:Int)-1)=(l:Int)-1:=w64 (by omega) (by omega)
  have hlen:(mb xs o 0 l (List.replicate ((i64.wrap (4*(l:Int))).toNat*(0+1)) 0)).length=4*l:=by rw [Ly,List.length_replicate,t4]; omega
  have hcut:List.take (4*l) (List.drop 0 (mb xs o 0 l (List.replicate ((i64.wrap (4*(l:Int))).toNat*(0+1)) 0)))=mb xs o 0 l (List.replicate ((i64.wrap (4*(l:Int))).toNat*(0+1)) 0):=by
   rw [List.drop_zero,List.take_of_length_le (by omega)]
  have hbe:(mb xs o 0 l (List.replicate ((i64.wrap (4*(l:Int))).toNat*(0+1)) 0)).map (fun n=>UInt8.ofNat n.toNat)=be (4*l) (nv (seg xs o l)):=by
   have:=mb_be hd l 0 (List.replicate ((i64.wrap (4*(l:Int))).toNat*(0+1)) 0) ho (by rw [List.length_replicate,t4]; omega)
   rw [List.take_zero,List.map_nil,List.nil_append] at this
   exact this
  have hw:=FF (EB hd o l)
  rw [EL ho,←KJ] at hw
  refine ⟨(mag.run o l c xs ty).trans ?_,by simp [okV,Nat.blt],clo_spec 8 _ rfl,Bg rfl⟩
  rw [ct,ct,ct,ct]
  ·rw [hcut,hbe]
   show some (Value.string (str (tz (be (4*l) (nv (seg xs o l))))),_)=_
   rw [OC (Dx (EB hd o l)) hw]
  ·rw [hcut,hbe]
   simp only [Nat.ble_eq]
   show (be (4*l) (nv (seg xs o l))).length≤_
   rw [IK]; omega
  ·simp only [Nat.ble_eq]; omega
  ·simp only [mag.ok,zB,zD,Nat.ble_eq,Nat.beq_eq,e5,t4,List.length_replicate]
   exact ⟨by omega,rfl,trivial,by omega,by omega,by omega⟩
  ·rw [e4]
   simp only [zB,zD]
   omega
 ·simp only [zS,zP,true_and] at h
  obtain ⟨rfl,rfl⟩:=h
  exact ⟨mag.runn,by simp [okV],clo_spec 8 _ rfl,Bg rfl⟩
 ·cases h
def iv (neg:Bool) (v:Int):Value:= .agg ⟨[.bool (neg&& !(v==0)),.string (str (enc v))]⟩
def with.sp:HSpec
 |[.slice (some ⟨0,o,none⟩) l c,.bool b],[.is .u32 xs 64]=>some (Di o l xs,iv b (nv (seg xs o l)),[.is .u32 xs 64])
 |[.slice none 0 0,.bool b],[]=>some (true,iv b 0,[])
 |_,_=>none
theorem with.run (o l c:Nat) (xs:List Int) (b:Bool):xfn Tryz.prog ⟨[(206,mag.sp)],[],[]⟩ [] 10 Tryz.f187 [.slice (some ⟨0,o,none⟩) l c,.bool b] [.is .u32 xs 64]=
 bif Di o l xs then bif b then some (.agg ⟨[.bool (!((str (enc (nv (seg xs o l)))).toList==(⟨#[]⟩:ByteArray).toList)),.string (str (enc (nv (seg xs o l))))]⟩,[.is .u32 xs 64]) else some (.agg ⟨[.bool false,.string (str (enc (nv (seg xs o l))))]⟩,[.is .u32 xs 64]) else none:=by kernel_rfl
theorem with.runn (b:Bool):xfn Tryz.prog ⟨[(206,mag.sp)],[],[]⟩ [] 10 Tryz.f187 [.slice none 0 0,.bool b] []=
 bif b then some (.agg ⟨[.bool (!((str []).toList==(⟨#[]⟩:ByteArray).toList)),.string (str [])]⟩,[]) else some (.agg ⟨[.bool false,.string (str [])]⟩,[]):=by kernel_rfl
theorem G6 (l:List UInt8):((str l).toList==(⟨#[]⟩:ByteArray).toList)=l.isEmpty:=by
 rw [←HQ]
 cases l with
 |nil=>rfl
 | cons b r=>
  cases h:(str (b::r)==(⟨#[]⟩:ByteArray)) with
  |false=>rfl
  | true=>
   have:=congrArg ByteArray.size (PQ h)
   exact absurd this (Nat.succ_ne_zero r.length)
theorem Fo {v:Int} (h:0≤v):(enc v).isEmpty=(v==0):=by
 cases h0:v==0 with
 | true=>
  have:v=0:=by simpa using h0
  subst this; rfl
 | false=>
  have:v≠0:=by simpa using h0
  cases he:enc v with
  |nil=>exact absurd ((PI h).1 he) this
  |cons _ _=>rfl
theorem with.ok:SOK Tryz.prog 187 with.sp:=by
 refine Dl (E:=⟨[(206,mag.sp)],[],[]⟩) (L:=[]) ⟨Aa OO.ok Ac,Aq,Aj,Ap⟩ 10 Tryz.func187 (by decide) rfl Bf fun vs bl v bl' h=> ?_
 unfold with.sp at h
 split at h
 ·rename_i o l c b xs
  simp only [zS,zP] at h
  obtain ⟨h1,rfl,rfl⟩:=h
  obtain ⟨ho,hl,hd⟩:=Dy.1 h1
  refine ⟨(with.run o l c xs b).trans ?_,by simp [okV,Nat.blt],clo_spec 8 _ rfl,Bg rfl⟩
  rw [ct h1,G6,Fo (Dx (EB hd o l))]
  cases b<;>rfl
 ·rename_i b
  simp only [zS,zP,true_and] at h
  obtain ⟨rfl,rfl⟩:=h
  refine ⟨(with.runn b).trans ?_,by simp [okV,Nat.blt],clo_spec 8 _ rfl,Bg rfl⟩
  rw [G6]
  cases b<;>rfl
 ·cases h
section
variable {N:Nat→Prop} {xe:X} {Se:St} (s:ByteArray) (n m:Nat) (z i:Int) (out:List Int) (ty:TypeId) (nx:Nat)
abbrev bof.st:St:=⟨gbuild [(0,.string s),(3,.slice (some ⟨80,0,none⟩) n m),(12,.int .i64 z),(13,.int .i64 i)] 0 39,[(80,.is .u32 out ty)],nx⟩
abbrev bof.lk:=RX.lk [0,3,12,13] [80]
theorem bof.rnd:rd Tryz.prog ⟨[],[],[]⟩ [] 3 (Ay Tryz.f188 0) (bof.st s n m z i out ty nx) 39 [0,3,12,13] [80]=
 bif decide (i<z) then bif decide (0≤i64.wrap (i.tdiv 4))&&decide (i64.wrap (i.tdiv 4)<((n:Nat):Int)) then bif (0+(i64.wrap (i.tdiv 4)).toNat*1).blt out.length then bif decide (0≤i64.wrap (i64.wrap (((s.size:Nat):Int)-1)-i))&&decide (i64.wrap (i64.wrap (((s.size:Nat):Int)-1)-i)<((s.size:Nat):Int)) then bif decide (0≤i64.wrap (8*i.tmod 4)) then bif decide (0≤i64.wrap (i.tdiv 4))&&decide (i64.wrap (i.tdiv 4)<((n:Nat):Int)) then bif (0+(i64.wrap (i.tdiv 4)).toNat*1).blt out.length then bof.lk .normal (bof.st s n m z (i64.wrap (i+1)) (out.set (0+(i64.wrap (i.tdiv 4)).toNat*1) (E6 BinOp.or u32 (out.getD (0+(i64.wrap (i.tdiv 4)).toNat*1) 0) (u32.wrap (u32.wrap (((s.data.toList.getD (i64.wrap (i64.wrap (((s.size:Nat):Int)-1)-i)).toNat 0).toNat:Nat):Int)*2^min (i64.wrap (8*i.tmod 4)).toNat u32.bits)))) ty nx) else none else none else none else none else none else none else bof.lk (.exit 0) (bof.st s n m z i out ty nx):=by kernel_rfl
def bof.step0:=fun h0 h1 h2 h3 h4 h5 h6 (ih:Lq Tryz.prog N (Ay Tryz.f188 0) _ xe Se)=>Lq.toK (f:=3) ⟨Ac,Aq,Aj,Ap⟩ Bs ((((((((bof.rnd s n m z i out ty nx).ct h0).ct h1).ct h2).ct h3).ct h4).ct h5).ct h6) rfl rfl ih
def bof.stop1:=fun h0=>Lq.endK (N:=N) (f:=3) ⟨Ac,Aq,Aj,Ap⟩ Bs ((bof.rnd s n m z i out ty nx).cf h0) (fun q=>by cases q) rfl rfl
end
def bof.ok (s:ByteArray) (n:Nat) (z i:Int) (out:List Int):Bool:=decide (i=0)&&(decide (z=(s.size:Int))&&(Nat.beq n ((s.size+3)/4)&&(decide (out=dg n 0)&&Nat.ble s.size 8589934592)))
def bof.lt (s:ByteArray) (n m:Nat) (z i:Int) (out:List Int) (ty:TypeId) (nx:Nat):LT:= .got (bof.ok s n z i out) (.exit 0) (bof.st s n m z z (dg n (bv s.data.toList)) ty nx)
theorem bof.go {N:Nat→Prop} (s:ByteArray) (n m:Nat) (ty:TypeId) (nx:Nat) (hn:n=(s.size+3)/4) (hs:s.size≤8589934592):∀(j k:Nat),k+j=s.size→Lq Tryz.prog N (Ay Tryz.f188 0) (bof.st s n m (s.size:Int) (k:Int) (dg n (lv (s.data.toList.reverse.take k))) ty nx) (.exit 0) (bof.st s n m (s.size:Int) (s.size:Int) (dg n (bv s.data.toList)) ty nx)
 | 0,k,h=>by
  have hk:k=s.size:=by omega
  subst hk
  have hl:s.data.toList.reverse.take s.size=s.data.toList.reverse:=List.take_of_length_le (by rw [List.length_reverse]; exact Nat.le_refl _)
  rw [hl]
  exact bof.stop1 _ _ _ _ _ _ _ _ (dfalse (by omega))
 | j + 1,k,h=>by
  have hL:s.data.toList.reverse.length=s.size:=by rw [List.length_reverse]; rfl
  have hk:k<s.data.toList.reverse.length:=by omega
  have e1:i64.wrap ((k:Int).tdiv 4)=((k/4:Nat):Int):=by rw [Int.tdiv_eq_ediv_of_nonneg (by omega),w64 (by omega) (by omega)]; omega
  have e2:(k:Int).tmod 4=((k%4:Nat):Int):=by rw [Int.tmod_eq_emod_of_nonneg (by omega)]; omega
  have e3:i64.wrap (8*(k:Int).tmod 4)=((8*(k%4):Nat):Int):=by rw [e2,w64 (by omega) (by omega)]; omega
  have e4:i64.wrap (i64.wrap ((s.size:Int)-1)-(k:Int))=((s.size-1-k:Nat):Int):=by rw [w64 (n:=(s.size:Int)-1) (by omega) (by omega),w64 (by omega) (by omega)]; omega
  have e5:i64.wrap ((k:Int)+1)=((k+1:Nat):Int):=by rw [w64 (by omega) (by omega)]; omega
  have c1:(decide (0≤i64.wrap ((k:Int).tdiv 4))&&decide (i64.wrap ((k:Int).tdiv 4)<(n:Int)))=true:=by rw [e1]; exact dtrue2 (by omega) (by omega)
  have c2:(0+(i64.wrap ((k:Int).tdiv 4)).toNat*1).blt (dg n (lv (s.data.toList.reverse.take k))).length=true:=by rw [e1,Cw]; exact EM (by simp; omega)
  refine bof.step0 _ _ _ _ _ _ _ _ (dtrue (by omega)) c1 c2 (by rw [e4]; exact dtrue2 (by omega) (by omega)) (by rw [e3]; exact dtrue (by omega)) c1 c2 ?_
  have hb:s.data.toList.getD (s.size-1-k) 0=s.data.toList.reverse[k]:=by
   have hlen:s.data.toList.length=s.size:=rfl
   rw [List.getElem_reverse,List.getD_eq_getElem?_getD,List.getElem?_eq_getElem (by omega)]
   simp [hlen]
  rw [e1,e3,e4,e5,Int.toNat_natCast,Int.toNat_natCast,Int.toNat_natCast,hb]
  have hlt:(s.data.toList.reverse[k]).toNat<256:=(s.data.toList.reverse[k]).toNat_lt
  have hm:min (8*(k%4)) u32.bits=8*(k%4):=Nat.min_eq_left (by show 8*(k%4)≤32; omega)
  have hr4:k%4<4:=Nat.mod_lt _ (by decide)
  have hlv0:=Jf (s.data.toList.reverse.take k)
  have hlv:=Qi (s.data.toList.reverse.take k)
  rw [List.length_take,Nat.min_eq_left (by omega)] at hlv
  have hkq:k=4*(k/4)+k%4:=by omega
  have hw:u32.wrap (u32.wrap (((s.data.toList.reverse[k]).toNat:Nat):Int)*2^min (8*(k%4)) u32.bits)=(((s.data.toList.reverse[k]).toNat:Nat):Int)*((2^(8*(k%4)):Nat):Int):=by
   have h2:((2^(8*(k%4)):Nat):Int)≤16777216:=by
    have:=Nat.pow_le_pow_right (show 0<2 by decide) (show 8*(k%4)≤24 by omega)
    omega
   have h2p:0<((2^(8*(k%4)):Nat):Int):=by have:=Nat.two_pow_pos (8*(k%4)); omega
   have h3:(((s.data.toList.reverse[k]).toNat:Nat):Int)*((2^(8*(k%4)):Nat):Int)≤255*16777216:=Int.mul_le_mul (by omega) h2 (by omega) (by omega)
   rw [hm,u32of (n:=(((s.data.toList.reverse[k]).toNat:Nat):Int)) (by omega) (by omega),show ((2:Int)^(8*(k%4)))=((2^(8*(k%4)):Nat):Int) from (Int.natCast_pow 2 _).symm]
   exact u32of (Int.mul_nonneg (by omega) (by omega)) (by omega)
  have hg0:=(EF (F4 n (lv (s.data.toList.reverse.take k))) (k/4)).1
  have hg1:=LD (k/4) n (lv (s.data.toList.reverse.take k)) (k%4) hlv0 (by rw [←hkq]; exact hlv) (by omega)
  have hsum:(dg n (lv (s.data.toList.reverse.take k))).getD (k/4) 0+(((s.data.toList.reverse[k]).toNat:Nat):Int)*((2^(8*(k%4)):Nat):Int)<4294967296:=by
   rw [←Nv] at*
   have h4:p8 (k%4+1)≤4294967296:=Int.le_trans (I3 (show k%4+1≤4 by omega)) (by decide)
   rw [Gb] at h4
   have h5:(((s.data.toList.reverse[k]).toNat:Nat):Int)*p8 (k%4)≤255*p8 (k%4):=Int.mul_le_mul_of_nonneg_right (by omega) (by have:=Gh (k%4); omega)
   omega
  rw [hw,Nat.zero_add,Nat.mul_one,or32 hg0 (by rw [←Nv]; exact hg1) (by omega) hsum]
  have ht:s.data.toList.reverse.take (k+1)=s.data.toList.reverse.take k++[s.data.toList.reverse[k]]:=by
   rw [List.take_add_one,List.getElem?_eq_getElem hk]; rfl
  have hset:=QO (k/4) n (lv (s.data.toList.reverse.take k)) (k%4) (((s.data.toList.reverse[k]).toNat:Nat):Int) (by omega) hr4 hlv0 (by rw [←hkq]; exact hlv) (by omega) (by omega)
  rw [←hkq] at hset
  have hlv2:lv (s.data.toList.reverse.take (k+1))=lv (s.data.toList.reverse.take k)+p8 k*(((s.data.toList.reverse[k]).toNat:Nat):Int):=by
   rw [ht,PA,List.length_take,Nat.min_eq_left (by omega)]
  rw [←Nv,←hset,←hlv2]
  exact bof.go s n m ty nx hn hs j (k+1) (by omega)
theorem bof.lp {N:Nat→Prop} (s:ByteArray) (n m:Nat) (z i:Int) (out:List Int) (ty:TypeId) (nx:Nat) {x:X} {S':St} (h:(bof.lt s n m z i out ty nx).at=some (x,S')):Lq Tryz.prog N (Ay Tryz.f188 0) (bof.st s n m z i out ty nx) x S':=by
 obtain ⟨h1,rfl,rfl⟩:=Ez h
 simp only [bof.ok,zB,Nat.ble_eq,zD] at h1
 obtain ⟨rfl,rfl,h3,rfl,h5⟩:=h1
 exact bof.go s n m ty nx (zE h3) h5 s.size 0 (by omega)
def bof.t:LSpec:=fun S=>match RX.nth S.tmps 0,RX.nth S.tmps 3,RX.nth S.tmps 12,RX.nth S.tmps 13,RX.look S.heap 80 with
 | .string s,.slice (some ⟨80,0,none⟩) n m,.int .i64 z,.int .i64 i,some (.is .u32 out ty)=>bif Nat.beq S.tmps.length 39 then some (bof.lt s n m z i out ty S.nxt) else none
 |_,_,_,_,_=>none
theorem bof.lok {N:Nat→Prop} :LOKn Tryz.prog N (Ay Tryz.f188 0) (bof.t):=by
 refine FS fun S lt x S' ht hat=> ?_
 unfold bof.t at ht
 split at ht
 ·rename_i s n m z i out ty h0 h3 h12 h13 g80
  cases hb:Nat.beq S.tmps.length 39 with
  |false=>rw [hb] at ht; cases ht
  | true=>
   rw [hb] at ht
   injection ht with ht
   subst ht
   have hb:=zE hb
   exact .enter (fun h=>FW hb (.cons ⟨h0,bnth h h0⟩ (.cons ⟨h3,bnth h h3⟩ (.cons ⟨h12,bnth h h12⟩ (.cons ⟨h13,bnth h h13⟩ .nil)))) (.cons ⟨g80,bname h g80,rfl⟩ .nil)) (bof.lp _ _ _ _ _ _ _ _ hat)
 ·cases ht
def nd (s:ByteArray):Nat:=(s.size+3)/4
def of.sp:HSpec
 |[.string s],[]=>some (Nat.ble s.size 8589934592,.slice (some ⟨0,0,none⟩) (tl (dg (nd s) (bv s.data.toList))) (nd s),[.is .u32 (dg (nd s) (bv s.data.toList)) 64])
 |_,_=>none
theorem of.run (s:ByteArray):xfnN Tryz.prog ⟨[(205,E2.sp)],[],[]⟩ [(0,bof.t)] 10 Tryz.f188 [.string s] [] [80]=
 bif decide (0≤i64.wrap ((i64.wrap ((s.size:Int)+3)).tdiv 4))&&(decide (i64.wrap ((i64.wrap ((s.size:Int)+3)).tdiv 4)≤i64.wrap ((i64.wrap ((s.size:Int)+3)).tdiv 4))&&(decide (i64.wrap ((i64.wrap ((s.size:Int)+3)).tdiv 4)≤140737488355328)&&decide (((3+1:Nat):Int)*i64.wrap ((i64.wrap ((s.size:Int)+3)).tdiv 4)≤140737488355328))) then bif bof.ok s (i64.wrap ((i64.wrap ((s.size:Int)+3)).tdiv 4)).toNat (s.size:Int) 0 (List.replicate ((i64.wrap ((i64.wrap ((s.size:Int)+3)).tdiv 4)).toNat*(0+1)) 0) then bif trim.ok 0 (i64.wrap ((i64.wrap ((s.size:Int)+3)).tdiv 4)).toNat (i64.wrap ((i64.wrap ((s.size:Int)+3)).tdiv 4)).toNat (dg (i64.wrap ((i64.wrap ((s.size:Int)+3)).tdiv 4)).toNat (bv s.data.toList)) then some (.slice (some ⟨80,0,none⟩) (tl (seg (dg (i64.wrap ((i64.wrap ((s.size:Int)+3)).tdiv 4)).toNat (bv s.data.toList)) 0 (i64.wrap ((i64.wrap ((s.size:Int)+3)).tdiv 4)).toNat)) (i64.wrap ((i64.wrap ((s.size:Int)+3)).tdiv 4)).toNat,[.is .u32 (dg (i64.wrap ((i64.wrap ((s.size:Int)+3)).tdiv 4)).toNat (bv s.data.toList)) 64]) else none else none else none:=by kernel_rfl
theorem JL:∀(n:Nat),dg n 0=List.replicate n 0
 |0=>rfl
 |n+1=>by simp only [dg,List.replicate_succ]; rw [show (0:Int)/4294967296=0 from rfl,JL n]; rfl
theorem of.ok:SOK Tryz.prog 188 of.sp:=by
 refine Fs (E:=⟨[(205,E2.sp)],[],[]⟩) (L:=[(0,bof.t)]) ⟨Aa E2.ok Ac,Aq,Aj,Ap⟩ 10 Tryz.func188 (by decide) rfl (F2 rfl rfl bof.lok) fun vs bl v bl' h=> ?_
 unfold of.sp at h
 split at h
 ·rename_i s
  simp only [zS,zP] at h
  obtain ⟨h1,rfl,rfl⟩:=h
  have h1:=zL h1
  have e1:i64.wrap ((i64.wrap ((s.size:Int)+3)).tdiv 4)=((nd s:Nat):Int):=by
   unfold nd
   rw [w64 (n:=(s.size:Int)+3) (by omega) (by omega),Int.tdiv_eq_ediv_of_nonneg (by omega),w64 (by omega) (by omega)]; omega
  have hn:nd s≤2147483649:=by unfold nd; omega
  refine ⟨[80],(of.run s).trans ?_,by simp [okV,Nat.blt],rfl,Bg rfl,List.nodup_cons.2 ⟨by simp,List.nodup_nil⟩,by simp⟩
  rw [e1,Int.toNat_natCast,ct,ct,ct]
  ·rw [Hd]; rfl
  ·simp only [trim.ok,zB,Nat.ble_eq,Cw]; omega
  ·simp only [bof.ok,zB,Nat.ble_eq,zD,Nat.beq_eq]
   exact ⟨trivial,trivial,rfl,by rw [JL,Nat.mul_one],h1⟩
  ·simp only [zB,zD]; omega
 ·cases h
section
variable {N:Nat→Prop} {xe:X} {Se:St} (oa la ca ob lb cb:Nat) (i:Int) (xs:List Int) (ta:TypeId) (ys:List Int) (tb:TypeId) (nx:Nat)
abbrev cmp.st:St:=⟨gbuild [(0,.slice (some ⟨0,oa,none⟩) la ca),(1,.slice (some ⟨1,ob,none⟩) lb cb),(5,.int .i64 i)] 0 43,[(0,.is .u32 xs ta),(1,.is .u32 ys tb)],nx⟩
abbrev cmp.lk:=RX.lk [0,1,4,5] [0,1]
theorem cmp.rnd:rd Tryz.prog ⟨[],[],[]⟩ [] 3 (Ay Tryz.f190 0) (cmp.st oa la ca ob lb cb i xs ta ys tb nx) 43 [0,1,4,5] [0,1]=
 bif decide (i≥0) then bif decide (0≤i)&&decide (i<((la:Nat):Int)) then bif (oa+i.toNat*1).blt xs.length then bif decide (0≤i)&&decide (i<((lb:Nat):Int)) then bif (ob+i.toNat*1).blt ys.length then bif decide (xs.getD (oa+i.toNat*1) 0<ys.getD (ob+i.toNat*1) 0) then some ((X.ret,[Value.slice (some {block:=0,off:=oa}) la ca,Value.slice (some {block:=1,off:=ob}) lb cb,Value.int i64 (-1),Value.int i64 i],[some (Blk.is u32 xs ta),some (Blk.is u32 ys tb)])) else bif decide (0≤i)&&decide (i<((la:Nat):Int)) then bif (oa+i.toNat*1).blt xs.length then bif decide (0≤i)&&decide (i<((lb:Nat):Int)) then bif (ob+i.toNat*1).blt ys.length then bif decide (xs.getD (oa+i.toNat*1) 0>ys.getD (ob+i.toNat*1) 0) then some ((X.ret,[Value.slice (some {block:=0,off:=oa}) la ca,Value.slice (some {block:=1,off:=ob}) lb cb,Value.int i64 1,Value.int i64 i],[some (Blk.is u32 xs ta),some (Blk.is u32 ys tb)])) else cmp.lk .normal (cmp.st oa la ca ob lb cb (i64.wrap (i-1)) xs ta ys tb nx) else none else none else none else none else none else none else none else none else cmp.lk (.exit 0) (cmp.st oa la ca ob lb cb i xs ta ys tb nx):=by kernel_rfl
def cmp.stop0:=fun h0 h1 h2 h3 h4 h5=>Lq.stop (S2:=⟨gbuild [(4,Value.int i64 (-1))] 0 43,[(0,Blk.is u32 xs ta),(1,Blk.is u32 ys tb)],nx⟩) (N:=N) (f:=3) ⟨Ac,Aq,Aj,Ap⟩ Bs (((((((cmp.rnd oa la ca ob lb cb i xs ta ys tb nx).ct h0).ct h1).ct h2).ct h3).ct h4).ct h5) (fun q=>by cases q) (fun h=>q_of (.cons ⟨rfl,bint⟩ .nil) (.cons ⟨rfl,(bname h (m:=0) rfl),rfl⟩ (.cons ⟨rfl,(bname h (m:=1) rfl),rfl⟩ .nil)))
def cmp.stop1:=fun h0 h1 h2 h3 h4 h5 h6 h7 h8 h9 h10=>Lq.stop (S2:=⟨gbuild [(4,Value.int i64 1)] 0 43,[(0,Blk.is u32 xs ta),(1,Blk.is u32 ys tb)],nx⟩) (N:=N) (f:=3) ⟨Ac,Aq,Aj,Ap⟩ Bs ((((((((((((cmp.rnd oa la ca ob lb cb i xs ta ys tb nx).ct h0).ct h1).ct h2).ct h3).ct h4).cf h5).ct h6).ct h7).ct h8).ct h9).ct h10) (fun q=>by cases q) (fun h=>q_of (.cons ⟨rfl,bint⟩ .nil) (.cons ⟨rfl,(bname h (m:=0) rfl),rfl⟩ (.cons ⟨rfl,(bname h (m:=1) rfl),rfl⟩ .nil)))
def cmp.step2:=fun h0 h1 h2 h3 h4 h5 h6 h7 h8 h9 h10 (ih:Lq Tryz.prog N (Ay Tryz.f190 0) _ xe Se)=>Lq.toK (f:=3) ⟨Ac,Aq,Aj,Ap⟩ Bs ((((((((((((cmp.rnd oa la ca ob lb cb i xs ta ys tb nx).ct h0).ct h1).ct h2).ct h3).ct h4).cf h5).ct h6).ct h7).ct h8).ct h9).cf h10) rfl rfl ih
def cmp.stop3:=fun h0=>Lq.endK (N:=N) (f:=3) ⟨Ac,Aq,Aj,Ap⟩ Bs ((cmp.rnd oa la ca ob lb cb i xs ta ys tb nx).cf h0) (fun q=>by cases q) rfl rfl
end
def cmp.ok (oa la ob lb:Nat) (i:Int) (xs ys:List Int):Bool:=decide (i+1=(la:Int))&&(decide (la=lb)&&(Di oa la xs&&Di ob lb ys))
def cmp.r (v:Int) (xs:List Int) (ta:TypeId) (ys:List Int) (tb:TypeId) (nx:Nat):St:=⟨gbuild [(4,.int .i64 v)] 0 43,[(0,.is .u32 xs ta),(1,.is .u32 ys tb)],nx⟩
def cmp.tr (ok:Bool) (oa la ca ob lb cb k:Nat) (xs:List Int) (ta:TypeId) (ys:List Int) (tb:TypeId) (nx:Nat):LT:=
 .br (decide (nv (seg xs oa k)<nv (seg ys ob k))) (.got ok .ret (cmp.r (-1) xs ta ys tb nx)) (.br (decide (nv (seg xs oa k)>nv (seg ys ob k))) (.got ok .ret (cmp.r 1 xs ta ys tb nx)) (.got ok (.exit 0) (cmp.st oa la ca ob lb cb (-1) xs ta ys tb nx)))
def cmp.lt (oa la ca ob lb cb:Nat) (i:Int) (xs:List Int) (ta:TypeId) (ys:List Int) (tb:TypeId) (nx:Nat):LT:=cmp.tr (cmp.ok oa la ob lb i xs ys) oa la ca ob lb cb la xs ta ys tb nx
theorem cmp.go {N:Nat→Prop} (oa la ca ob lb cb:Nat) (xs:List Int) (ta:TypeId) (ys:List Int) (tb:TypeId) (nx:Nat) (h1:oa+la≤xs.length) (h2:ob+lb≤ys.length) (h3:la=lb) (h4:la≤4294967296) (hx:dig xs) (hy:dig ys):∀(k:Nat),k≤la→∀(x:X) (S':St),(cmp.tr true oa la ca ob lb cb k xs ta ys tb nx).at=some (x,S')→Lq Tryz.prog N (Ay Tryz.f190 0) (cmp.st oa la ca ob lb cb ((k:Int)-1) xs ta ys tb nx) x S'
 | 0,_,x,S',h=>by
  simp only [cmp.tr,FH,nv,LT.at,Int.lt_irrefl,gt_iff_lt,decide_false,cond_false,cond_true,zS,zP] at h
  obtain ⟨rfl,rfl⟩:=h
  exact cmp.stop3 _ _ _ _ _ _ _ _ _ _ _ _ rfl
 | k + 1,hk,x,S',h=>by
  have e0:(((k+1:Nat):Int)-1)=(k:Int):=by omega
  have e1:i64.wrap ((k:Int)-1)=(k:Int)-1:=w64 (by omega) (by omega)
  have ea:oa+((k:Int)).toNat*1=oa+k:=by simp
  have eb:ob+((k:Int)).toNat*1=ob+k:=by simp
  have c1:(decide (0≤(k:Int))&&decide ((k:Int)<(la:Int)))=true:=dtrue2 (by omega) (by omega)
  have c2:(oa+((k:Int)).toNat*1).blt xs.length=true:=by rw [ea]; exact EM (by omega)
  have c3:(decide (0≤(k:Int))&&decide ((k:Int)<(lb:Int)))=true:=dtrue2 (by omega) (by omega)
  have c4:(ob+((k:Int)).toNat*1).blt ys.length=true:=by rw [eb]; exact EM (by omega)
  have hA0:=Dx (EB hx oa k)
  have hB0:=Dx (EB hy ob k)
  have hA:=FF (EB hx oa k)
  have hB:=FF (EB hy ob k)
  rw [EL (by omega)] at hA hB
  have hp:=Ep k
  unfold cmp.tr at h
  rw [EU (by omega),EU (by omega)] at h
  have ih:=cmp.go (N:=N) oa la ca ob lb cb xs ta ys tb nx h1 h2 h3 h4 hx hy k (by omega) x S'
  unfold cmp.tr at ih
  rw [e0]
  rcases Int.lt_trichotomy (xs.getD (oa+k) 0) (ys.getD (ob+k) 0) with hc|hc|hc
  ·have hm:pw k*(xs.getD (oa+k) 0+1)≤pw k*ys.getD (ob+k) 0:=Int.mul_le_mul_of_nonneg_left (by omega) (by omega)
   rw [Int.mul_add,Int.mul_one] at hm
   rw [decide_eq_true (show nv (seg xs oa k)+pw k*xs.getD (oa+k) 0<nv (seg ys ob k)+pw k*ys.getD (ob+k) 0 by omega)] at h
   simp only [LT.at,cond_true,zS,zP] at h
   obtain ⟨rfl,rfl⟩:=h
   exact cmp.stop0 _ _ _ _ _ _ _ _ _ _ _ _ (dtrue (by omega)) c1 c2 c3 c4 (by rw [ea,eb]; exact dtrue hc)
  ·rw [hc] at h
   have q1:decide (nv (seg xs oa k)+pw k*ys.getD (ob+k) 0<nv (seg ys ob k)+pw k*ys.getD (ob+k) 0)=decide (nv (seg xs oa k)<nv (seg ys ob k)):=by
    by_cases hq:nv (seg xs oa k)<nv (seg ys ob k)
    ·rw [dtrue hq]; exact dtrue (by omega)
    ·rw [dfalse hq]; exact dfalse (by omega)
   have q2:decide (nv (seg xs oa k)+pw k*ys.getD (ob+k) 0>nv (seg ys ob k)+pw k*ys.getD (ob+k) 0)=decide (nv (seg xs oa k)>nv (seg ys ob k)):=by
    by_cases hq:nv (seg xs oa k)>nv (seg ys ob k)
    ·rw [dtrue hq]; exact dtrue (by omega)
    ·rw [dfalse hq]; exact dfalse (by omega)
   rw [q1,q2] at h
   refine cmp.step2 _ _ _ _ _ _ _ _ _ _ _ _ (dtrue (by omega)) c1 c2 c3 c4 (by rw [ea,eb,hc]; exact dfalse (by omega)) c1 c2 c3 c4 (by rw [ea,eb,hc]; exact dfalse (by omega)) ?_
   rw [e1]
   exact ih h
  ·have hm:pw k*(ys.getD (ob+k) 0+1)≤pw k*xs.getD (oa+k) 0:=Int.mul_le_mul_of_nonneg_left (by omega) (by omega)
   rw [Int.mul_add,Int.mul_one] at hm
   rw [decide_eq_false (show ¬nv (seg xs oa k)+pw k*xs.getD (oa+k) 0<nv (seg ys ob k)+pw k*ys.getD (ob+k) 0 by omega),decide_eq_true (show nv (seg xs oa k)+pw k*xs.getD (oa+k) 0>nv (seg ys ob k)+pw k*ys.getD (ob+k) 0 by omega)] at h
   simp only [LT.at,cond_true,cond_false,zS,zP] at h
   obtain ⟨rfl,rfl⟩:=h
   exact cmp.stop1 _ _ _ _ _ _ _ _ _ _ _ _ (dtrue (by omega)) c1 c2 c3 c4 (by rw [ea,eb]; exact dfalse (by omega)) c1 c2 c3 c4 (by rw [ea,eb]; exact dtrue hc)
theorem cmp.lp {N:Nat→Prop} (oa la ca ob lb cb:Nat) (i:Int) (xs:List Int) (ta:TypeId) (ys:List Int) (tb:TypeId) (nx:Nat) {x:X} {S':St} (h:(cmp.lt oa la ca ob lb cb i xs ta ys tb nx).at=some (x,S')):Lq Tryz.prog N (Ay Tryz.f190 0) (cmp.st oa la ca ob lb cb i xs ta ys tb nx) x S':=by
 unfold cmp.lt at h
 cases hok:cmp.ok oa la ob lb i xs ys with
 | false=>
  exfalso
  rw [hok] at h
  unfold cmp.tr at h
  simp only [LT.at] at h
  revert h
  cases decide (nv (seg xs oa la)<nv (seg ys ob la))<;>cases decide (nv (seg xs oa la)>nv (seg ys ob la))<;>simp
 | true=>
  rw [hok] at h
  simp only [cmp.ok,zB,zD,Dy] at hok
  obtain ⟨h1,h2,⟨h3,h4,h5⟩,h6,h7,h8⟩:=hok
  have:i=((la:Nat):Int)-1:=by omega
  subst this
  exact cmp.go oa la ca ob lb cb xs ta ys tb nx h3 h6 h2 h4 h5 h8 la (Nat.le_refl _) x S' h
def cmp.t:LSpec:=fun S=>match RX.nth S.tmps 0,RX.nth S.tmps 1,RX.nth S.tmps 5,RX.look S.heap 0,RX.look S.heap 1 with
 | .slice (some ⟨0,oa,none⟩) la ca,.slice (some ⟨1,ob,none⟩) lb cb,.int .i64 i,some (.is .u32 xs ta),some (.is .u32 ys tb)=>bif Nat.beq S.tmps.length 43 then some (cmp.lt oa la ca ob lb cb i xs ta ys tb S.nxt) else none
 |_,_,_,_,_=>none
theorem cmp.lok {N:Nat→Prop} :LOKn Tryz.prog N (Ay Tryz.f190 0) (cmp.t):=by
 refine FS fun S lt x S' ht hat=> ?_
 unfold cmp.t at ht
 split at ht
 ·rename_i oa la ca ob lb cb i xs ta ys tb h0 h1 h5 g0 g1
  cases hb:Nat.beq S.tmps.length 43 with
  |false=>rw [hb] at ht; cases ht
  | true=>
   rw [hb] at ht
   injection ht with ht
   subst ht
   have hb:=zE hb
   exact .enter (fun h=>FW hb (.cons ⟨h0,bnth h h0⟩ (.cons ⟨h1,bnth h h1⟩ (.cons ⟨h5,bnth h h5⟩ .nil))) (.cons ⟨g0,bname h g0,rfl⟩ (.cons ⟨g1,bname h g1,rfl⟩ .nil))) (cmp.lp _ _ _ _ _ _ _ _ _ _ _ _ hat)
 ·cases ht
def cmpI (la lb:Nat) (a b:Int):Int:=if la=lb then (if a<b then -1 else if a>b then 1 else 0) else (la:Int)-lb
def compare.sp:HSpec
 |[.slice (some ⟨0,oa,none⟩) la ca,.slice (some ⟨1,ob,none⟩) lb cb],[.is .u32 xs 64,.is .u32 ys 64]=>some (Di oa la xs&&Di ob lb ys,.int .i64 (cmpI la lb (nv (seg xs oa la)) (nv (seg ys ob lb))),[.is .u32 xs 64,.is .u32 ys 64])
 |_,_=>none
theorem compare.run (oa la ca ob lb cb:Nat) (xs ys:List Int):xfn Tryz.prog ⟨[],[],[]⟩ [(0,cmp.t)] 10 Tryz.f190 [.slice (some ⟨0,oa,none⟩) la ca,.slice (some ⟨1,ob,none⟩) lb cb] [.is .u32 xs 64,.is .u32 ys 64]=
 bif (la:Int) !=(lb:Int) then some (.int .i64 (i64.wrap ((la:Int)-lb)),[.is .u32 xs 64,.is .u32 ys 64]) else bif decide (nv (seg xs oa la)<nv (seg ys ob la)) then bif cmp.ok oa la ob lb (i64.wrap ((la:Int)-1)) xs ys then some (.int .i64 (-1),[.is .u32 xs 64,.is .u32 ys 64]) else none else bif decide (nv (seg xs oa la)>nv (seg ys ob la)) then bif cmp.ok oa la ob lb (i64.wrap ((la:Int)-1)) xs ys then some (.int .i64 1,[.is .u32 xs 64,.is .u32 ys 64]) else none else bif cmp.ok oa la ob lb (i64.wrap ((la:Int)-1)) xs ys then some (.int .i64 0,[.is .u32 xs 64,.is .u32 ys 64]) else none:=by kernel_rfl
theorem compare.ok:SOK Tryz.prog 190 compare.sp:=by
 refine Dl (E:=⟨[],[],[]⟩) (L:=[(0,cmp.t)]) ⟨Ac,Aq,Aj,Ap⟩ 10 Tryz.func190 (by decide) rfl (F2 rfl rfl cmp.lok) fun vs bl v bl' h=> ?_
 unfold compare.sp at h
 split at h
 ·rename_i oa la ca ob lb cb xs ys
  simp only [zS,zP,zB,Dy] at h
  obtain ⟨⟨⟨h1,h2,h3⟩,h4,h5,h6⟩,rfl,rfl⟩:=h
  refine ⟨(compare.run oa la ca ob lb cb xs ys).trans ?_,by simp [okV,Nat.blt],clo_spec 8 _ rfl,Bg rfl⟩
  unfold cmpI
  by_cases hl:la=lb
  ·subst hl
   have hok:cmp.ok oa la ob la (i64.wrap ((la:Int)-1)) xs ys=true:=by
    rw [w64 (by omega) (by omega)]
    simp only [cmp.ok,zB,zD,Dy]
    exact ⟨by omega,trivial,⟨h1,h2,h3⟩,h4,h5,h6⟩
   rw [bne_self_eq_false,cond_false,hok,if_pos rfl]
   by_cases q1:nv (seg xs oa la)<nv (seg ys ob la)
   ·rw [dtrue q1,if_pos q1]; rfl
   ·by_cases q2:nv (seg xs oa la)>nv (seg ys ob la)
    ·rw [dfalse q1,dtrue q2,if_neg q1,if_pos q2]; rfl
    ·rw [dfalse q1,dfalse q2,if_neg q1,if_neg q2]; rfl
  ·rw [E8 (show (la:Int)≠lb by omega),cond_true,if_neg hl,w64 (by omega) (by omega)]
 ·cases h
end Go.Proofs.YtpejalpgficopaaGreatDoor.G
end
section
namespace Go.Proofs.YtpejalpgficopaaGreatDoor.G
open Go RX
theorem JM:∀(k:Nat) (v:Int),dg (k+1) v=dg k v++[v/pw k%4294967296]
 |0,v=>by simp [dg,GZ]
 | k+1,v=>by
  have ih:=JM k (v/4294967296)
  rw [Int.ediv_ediv,if_neg (by omega),Int.sub_zero,←Eb] at ih
  rw [dg,ih]
  rfl
theorem Im:∀(k:Nat) (v z:Int),dg k (v+pw k*z)=dg k v
 |0,v,z=>rfl
 | k+1,v,z=>by
  have e1:(v+pw (k+1)*z)%4294967296=v%4294967296:=by rw [Eb,Int.mul_assoc]; omega
  have e2:(v+pw (k+1)*z)/4294967296=v/4294967296+pw k*z:=by rw [Eb,Int.mul_assoc]; omega
  simp only [dg,e1,e2,Im k]
theorem Kg (k:Nat) (v z:Int):(v+pw k*z)/pw k=v/pw k+z:=Int.add_mul_ediv_left _ _ (by have:=Ep k; omega)
theorem FG (k:Nat) (v z:Int):(v+pw k*z)/pw (k+1)=(v/pw k+z)/4294967296:=by
 rw [Eb,Int.mul_comm 4294967296,←Kg k v z,Int.ediv_ediv,if_neg (by have:=Ep k; omega),Int.sub_zero]
def ap (k:Nat) (v:Int) (n:Nat):List Int:=dg k v++List.replicate (n-k) 0
theorem Fc {k n:Nat} (v:Int) (h:k≤n):(ap k v n).length=n:=by simp [ap,Cw]; omega
theorem Mo (v:Int) (n:Nat):ap 0 v n=List.replicate n 0:=rfl
theorem Gr {k n:Nat} (h:k<n) (v z:Int):(ap k v n).set k ((v/pw k+z)%4294967296)=ap (k+1) (v+pw k*z) n:=by
 obtain ⟨d,rfl⟩:=Nat.exists_eq_add_of_lt h
 unfold ap
 rw [show k+d+1-k=d+1 from by omega,show k+d+1-(k+1)=d from by omega,JM,Im,Kg,List.replicate_succ]
 have hl:=Cw k v
 rw [List.set_append_right _ _ (by omega),hl,Nat.sub_self,List.set_cons_zero,List.append_assoc]
 rfl
theorem Mp (k:Nat) (v:Int):ap k v k=dg k v:=by simp [ap]
def sg (xs:List Int) (o l k:Nat):Int:=nv (seg xs o (min k l))
theorem KG {xs:List Int} {o l k:Nat} (h:o+l≤xs.length):sg xs o l (k+1)=sg xs o l k+pw k*(if k<l then xs.getD (o+k) 0 else 0):=by
 unfold sg
 by_cases hk:k<l
 ·rw [if_pos hk,Nat.min_eq_left (by omega),Nat.min_eq_left (by omega),EU (by omega)]
 ·rw [if_neg hk,Nat.min_eq_right (by omega),Nat.min_eq_right (by omega)]; simp
theorem MI {xs:List Int} (hd:dig xs) {o l:Nat} (h:o+l≤xs.length) (k:Nat):0≤sg xs o l k∧sg xs o l k<pw k:=by
 refine ⟨Dx (EB hd _ _),?_⟩
 have h1:=FF (EB hd o (min k l))
 rw [EL (by omega)] at h1
 have h2:pw (min k l)≤pw k:=by
  have:=Nat.pow_le_pow_right (show 0<4294967296 by decide) (Nat.min_le_left k l)
  simp only [pw]; omega
 exact Int.lt_of_lt_of_le h1 h2
theorem KH (xs:List Int) (o l k:Nat) (h:l≤k):sg xs o l k=nv (seg xs o l):=by unfold sg; rw [Nat.min_eq_right h]
theorem OM (b:BitVec 32):u32.wrap ((b.toNat:Nat):Int)=(b.toNat:Int):=u32of (by omega) (by have:=b.isLt; omega)
theorem bo_and (x y:Int):E6 .and .u32 x y=((BitVec.ofInt 32 x&&&BitVec.ofInt 32 y).toNat:Int):=OM _
theorem bo_or (x y:Int):E6 .or .u32 x y=((BitVec.ofInt 32 x|||BitVec.ofInt 32 y).toNat:Int):=OM _
theorem bo_xor (x y:Int):E6 .xor .u32 x y=((BitVec.ofInt 32 x^^^BitVec.ofInt 32 y).toNat:Int):=OM _
theorem Pi (b:BitVec 32):BitVec.ofInt 32 ((b.toNat:Nat):Int)=b:=by simp
theorem Ny:BitVec.ofInt 32 (if u32.signed=true then -1 else u32.max)=BitVec.allOnes 32:=by decide
theorem Je {x:Int} (h:0≤x) (h':x<4294967296):(BitVec.ofInt 32 x).msb=decide (2147483648≤x):=by
 obtain ⟨n,rfl⟩:=Int.eq_ofNat_of_zero_le h
 rw [BitVec.msb_eq_decide]
 simp only [BitVec.ofInt_natCast,BitVec.toNat_ofNat]
 rw [Nat.mod_eq_of_lt (by omega)]
 by_cases hn:2147483648≤n
 ·rw [decide_eq_true (by omega),decide_eq_true (by omega)]
 ·rw [decide_eq_false (by omega),decide_eq_false (by omega)]
theorem borrow {x y b:Int} (hx:0≤x) (hx':x<4294967296) (hy:0≤y) (hy':y<4294967296) (hb:0≤b) (hb':b≤1):
  (E6 .or .u32 (E6 .and .u32 (E6 .xor .u32 (if u32.signed=true then -1 else u32.max) x) y) (E6 .and .u32 (E6 .xor .u32 (if u32.signed=true then -1 else u32.max) (E6 .xor .u32 x y)) (u32.wrap (u32.wrap (x-y)-b)))).fdiv (2^min (Int.toNat 31) u32.bits)= -((x-y-b)/4294967296):=by
 simp only [bo_and,bo_or,bo_xor,Pi,Ny]
 have ed:u32.wrap (u32.wrap (x-y)-b)=(x-y-b)%4294967296:=by rw [wu32,wu32]; omega
 rw [ed]
 have hd0:=Int.emod_nonneg (x-y-b) (show (4294967296:Int)≠0 by decide)
 have hd1:=Int.emod_lt_of_pos (x-y-b) (show (0:Int)<4294967296 by decide)
 generalize hT:(((BitVec.allOnes 32^^^BitVec.ofInt 32 x)&&&BitVec.ofInt 32 y)|||((BitVec.allOnes 32^^^(BitVec.ofInt 32 x^^^BitVec.ofInt 32 y))&&&BitVec.ofInt 32 ((x-y-b)%4294967296)))=t
 have hm:t.msb=((!decide (2147483648≤x)&&decide (2147483648≤y))||(!(decide (2147483648≤x)^^decide (2147483648≤y))&&decide (2147483648≤(x-y-b)%4294967296))):=by
  rw [←hT]
  simp only [BitVec.msb_or,BitVec.msb_and,BitVec.msb_xor,BitVec.msb_allOnes (show 0<32 by decide),Je hx hx',Je hy hy',Je hd0 hd1,Bool.true_xor]
 have ht:((t.toNat:Nat):Int).fdiv (2^min (Int.toNat 31) u32.bits)=if t.msb=true then 1 else 0:=by
  have hlt:=t.isLt
  rw [Int.fdiv_eq_ediv_of_nonneg _ (by decide),show ((2:Int)^min (Int.toNat 31) u32.bits)=2147483648 from rfl,BitVec.msb_eq_decide]
  split
  ·rename_i h; have:=of_decide_eq_true h; omega
  ·rename_i h; have:¬_:=fun q=>h (decide_eq_true q); omega
 rw [ht,hm]
 by_cases q1:2147483648≤x<;>by_cases q2:2147483648≤y<;>by_cases q3:2147483648≤(x-y-b)%4294967296<;>simp only [q1,q2,q3,decide_true,decide_false,zN,Bool.not_false,Bool.true_and,Bool.false_and,Bool.and_true,Bool.and_false,Bool.or_true,Bool.or_false,Bool.true_or,Bool.false_or,Bool.xor_true,Bool.xor_false,Bool.true_xor,Bool.false_xor,if_true,if_false,Bool.false_eq_true]<;>omega
end Go.Proofs.YtpejalpgficopaaGreatDoor.G
end
section
namespace Go.Proofs.YtpejalpgficopaaGreatDoor.G
open Go Go.Proofs RX
theorem Gg {x y c:Int} (hx:0≤x) (hx':x<4294967296) (hy:0≤y) (hy':y<4294967296) (hc:0≤c) (hc':c≤1):u64.wrap (u64.wrap (u64.wrap x+u64.wrap y)+u64.wrap c)=x+y+c:=by
 rw [u64of (n:=x) (by omega) (by omega),u64of (n:=y) (by omega) (by omega),u64of (n:=c) (by omega) (by omega),u64of (n:=x+y) (by omega) (by omega),u64of (by omega) (by omega)]
theorem Hp {v:Int} (h:0≤v) (h':v<8589934592):u32.wrap (v.fdiv (2^min (Int.toNat 32) u64.bits))=v/4294967296:=by
 rw [Int.fdiv_eq_ediv_of_nonneg _ (by decide),show ((2:Int)^min (Int.toNat 32) u64.bits)=4294967296 from rfl,u32of (by omega) (by omega)]
def sm (xs:List Int) (oa la:Nat) (ys:List Int) (ob lb k:Nat):Int:=sg xs oa la k+sg ys ob lb k
def df (xs:List Int) (oa la:Nat) (ys:List Int) (ob lb k:Nat):Int:=sg xs oa la k-sg ys ob lb k
theorem Ol {xs ys:List Int} {oa la ob lb k:Nat} (h:oa+la≤xs.length) (h':ob+lb≤ys.length):sm xs oa la ys ob lb (k+1)=sm xs oa la ys ob lb k+pw k*((if k<la then xs.getD (oa+k) 0 else 0)+(if k<lb then ys.getD (ob+k) 0 else 0)):=by
 unfold sm
 rw [KG h,KG h',Int.mul_add]; omega
theorem df_succ {xs ys:List Int} {oa la ob lb k:Nat} (h:oa+la≤xs.length) (h':ob+lb≤ys.length):df xs oa la ys ob lb (k+1)=df xs oa la ys ob lb k+pw k*((if k<la then xs.getD (oa+k) 0 else 0)-(if k<lb then ys.getD (ob+k) 0 else 0)):=by
 unfold df
 rw [KG h,KG h',Int.mul_sub]; omega
theorem Ki {xs ys:List Int} (hx:dig xs) (hy:dig ys) {oa la ob lb:Nat} (h:oa+la≤xs.length) (h':ob+lb≤ys.length) (k:Nat):0≤sm xs oa la ys ob lb k/pw k∧sm xs oa la ys ob lb k/pw k≤1:=by
 have h1:=MI hx h k
 have h2:=MI hy h' k
 have hp:=Ep k
 unfold sm
 refine ⟨Int.ediv_nonneg (by omega) (by omega),?_⟩
 have:(sg xs oa la k+sg ys ob lb k)/pw k<2:=Int.ediv_lt_of_lt_mul hp (by omega)
 omega
theorem Q2 {xs ys:List Int} (hx:dig xs) (hy:dig ys) {oa la ob lb:Nat} (h:oa+la≤xs.length) (h':ob+lb≤ys.length) (k:Nat): -1≤df xs oa la ys ob lb k/pw k∧df xs oa la ys ob lb k/pw k≤0:=by
 have h1:=MI hx h k
 have h2:=MI hy h' k
 have hp:=Ep k
 unfold df
 constructor
 ·exact (Int.le_ediv_iff_mul_le hp).2 (by omega)
 ·have:(sg xs oa la k-sg ys ob lb k)/pw k<1:=Int.ediv_lt_of_lt_mul hp (by omega)
  omega
def H4 (oa la ob lb n:Nat) (cr z i:Int) (xs ys out:List Int):Bool:=decide (i=0)&&(decide (z=(la:Int))&&(decide (cr=0)&&(decide (out=List.replicate n 0)&&(Nat.ble la n&&(Di oa la xs&&Di ob lb ys)))))
section
variable {N:Nat→Prop} {xe:X} {Se:St} (op lp cp ob lb cb n m:Nat) (cr:Int) (oa la ca:Nat) (z i:Int) (xs:List Int) (ta:TypeId) (ys:List Int) (tb:TypeId) (out:List Int) (tc:TypeId) (nx:Nat)
abbrev add0.st:St:=⟨gbuild [(0,.slice (some ⟨0,op,none⟩) lp cp),(1,.slice (some ⟨1,ob,none⟩) lb cb),(5,.slice (some ⟨146,0,none⟩) n m),(6,.int .u32 cr),(21,.slice (some ⟨0,oa,none⟩) la ca),(22,.int .i64 z),(23,.int .i64 i)] 0 54,[(0,.is .u32 xs ta),(1,.is .u32 ys tb),(146,.is .u32 out tc)],nx⟩
abbrev add0.lk:=RX.lk [0,1,5,6,21,22,23] [0,1,146]
theorem add0.rnd:rd Tryz.prog ⟨[],[(207,Tryz.f207)],[]⟩ [] 5 (Ay Tryz.f189 0) (add0.st op lp cp ob lb cb n m cr oa la ca z i xs ta ys tb out tc nx) 54 [0,1,5,6,21,22,23] [0,1,146]=
 bif decide (i<z) then bif decide (0≤i)&&decide (i<((la:Nat):Int)) then bif (oa+i.toNat*1).blt xs.length then bif decide (i<((lb:Nat):Int)) then bif decide (0≤i)&&decide (i<((lb:Nat):Int)) then bif (ob+i.toNat*1).blt ys.length then bif decide (0≤i)&&decide (i<((n:Nat):Int)) then bif (0+i.toNat*1).blt out.length then add0.lk .normal (add0.st op lp cp ob lb cb n m (u32.wrap ((u64.wrap (u64.wrap (u64.wrap (xs.getD (oa+i.toNat*1) 0)+u64.wrap (ys.getD (ob+i.toNat*1) 0))+u64.wrap cr)).fdiv (2^min (Int.toNat 32) u64.bits))) oa la ca z (i64.wrap (i+1)) xs ta ys tb (out.set (0+i.toNat*1) (u32.wrap (u64.wrap (u64.wrap (u64.wrap (xs.getD (oa+i.toNat*1) 0)+u64.wrap (ys.getD (ob+i.toNat*1) 0))+u64.wrap cr)))) tc nx) else none else none else none else none else bif decide (0≤i)&&decide (i<((n:Nat):Int)) then bif (0+i.toNat*1).blt out.length then add0.lk .normal (add0.st op lp cp ob lb cb n m (u32.wrap ((u64.wrap (u64.wrap (u64.wrap (xs.getD (oa+i.toNat*1) 0)+u64.wrap 0)+u64.wrap cr)).fdiv (2^min (Int.toNat 32) u64.bits))) oa la ca z (i64.wrap (i+1)) xs ta ys tb (out.set (0+i.toNat*1) (u32.wrap (u64.wrap (u64.wrap (u64.wrap (xs.getD (oa+i.toNat*1) 0)+u64.wrap 0)+u64.wrap cr)))) tc nx) else none else none else none else none else add0.lk (.exit 0) (add0.st op lp cp ob lb cb n m cr oa la ca z i xs ta ys tb out tc nx):=by kernel_rfl
def add0.step0:=fun h0 h1 h2 h3 h4 h5 h6 h7 (ih:Lq Tryz.prog N (Ay Tryz.f189 0) _ xe Se)=>Lq.toK (f:=5) ⟨Ac,Bu ⟨Tryz.func207,by decide,rfl⟩ Aq,Aj,Ap⟩ Bs (((((((((add0.rnd op lp cp ob lb cb n m cr oa la ca z i xs ta ys tb out tc nx).ct h0).ct h1).ct h2).ct h3).ct h4).ct h5).ct h6).ct h7) rfl rfl ih
def add0.step1:=fun h0 h1 h2 h3 h4 h5 (ih:Lq Tryz.prog N (Ay Tryz.f189 0) _ xe Se)=>Lq.toK (f:=5) ⟨Ac,Bu ⟨Tryz.func207,by decide,rfl⟩ Aq,Aj,Ap⟩ Bs (((((((add0.rnd op lp cp ob lb cb n m cr oa la ca z i xs ta ys tb out tc nx).ct h0).ct h1).ct h2).cf h3).ct h4).ct h5) rfl rfl ih
def add0.stop2:=fun h0=>Lq.endK (N:=N) (f:=5) ⟨Ac,Bu ⟨Tryz.func207,by decide,rfl⟩ Aq,Aj,Ap⟩ Bs ((add0.rnd op lp cp ob lb cb n m cr oa la ca z i xs ta ys tb out tc nx).cf h0) (fun q=>by cases q) rfl rfl
end
def add0.lt (op lp cp ob lb cb n m:Nat) (cr:Int) (oa la ca:Nat) (z i:Int) (xs:List Int) (ta:TypeId) (ys:List Int) (tb:TypeId) (out:List Int) (tc:TypeId) (nx:Nat):LT:= .got (H4 oa la ob lb n cr z i xs ys out) (.exit 0) (add0.st op lp cp ob lb cb n m (sm xs oa la ys ob lb la/pw la) oa la ca z z xs ta ys tb (ap la (sm xs oa la ys ob lb la) n) tc nx)
theorem add0.go {N:Nat→Prop} (op lp cp oa la ca ob lb cb n m:Nat) (xs:List Int) (ta:TypeId) (ys:List Int) (tb tc:TypeId) (nx:Nat) (h1:oa+la≤xs.length) (h2:ob+lb≤ys.length) (h3:la≤4294967296) (h4:lb≤4294967296) (hn:la≤n) (hx:dig xs) (hy:dig ys):∀(j k:Nat),k+j=la→Lq Tryz.prog N (Ay Tryz.f189 0) (add0.st op lp cp ob lb cb n m (sm xs oa la ys ob lb k/pw k) oa la ca (la:Int) (k:Int) xs ta ys tb (ap k (sm xs oa la ys ob lb k) n) tc nx) (.exit 0) (add0.st op lp cp ob lb cb n m (sm xs oa la ys ob lb la/pw la) oa la ca (la:Int) (la:Int) xs ta ys tb (ap la (sm xs oa la ys ob lb la) n) tc nx)
 | 0,k,h=>by
  obtain rfl:k=la:=by omega
  exact add0.stop2 _ _ _ _ _ _ _ _ _ _ _ _ _ _ _ _ _ _ _ _ _ (dfalse (by omega))
 | j +1,k,h=>by
  have e1:i64.wrap ((k:Int)+1)=((k+1:Nat):Int):=by rw [w64 (by omega) (by omega)]; omega
  have ea:oa+((k:Int)).toNat*1=oa+k:=by simp
  have eb:ob+((k:Int)).toNat*1=ob+k:=by simp
  have e0:0+((k:Int)).toNat*1=k:=by simp
  have hkn:k<n:=by omega
  have c1:(decide (0≤(k:Int))&&decide ((k:Int)<(la:Int)))=true:=dtrue2 (by omega) (by omega)
  have c2:(oa+((k:Int)).toNat*1).blt xs.length=true:=by rw [ea]; exact EM (by omega)
  have c5:(decide (0≤(k:Int))&&decide ((k:Int)<(n:Int)))=true:=dtrue2 (by omega) (by omega)
  have c6:(0+((k:Int)).toNat*1).blt (ap k (sm xs oa la ys ob lb k) n).length=true:=by rw [e0,Fc _ (by omega)]; exact EM (by omega)
  have hX:=EF hx (oa+k)
  have hY:=EF hy (ob+k)
  have hC:=Ki hx hy h1 h2 k
  have hs:=Ol (k:=k) h1 h2
  rw [if_pos (show k<la by omega)] at hs
  have ih:=add0.go (N:=N) op lp cp oa la ca ob lb cb n m xs ta ys tb tc nx h1 h2 h3 h4 hn hx hy j (k+1) (by omega)
  by_cases hk:k<lb
  ·rw [if_pos hk] at hs
   refine add0.step0 _ _ _ _ _ _ _ _ _ _ _ _ _ _ _ _ _ _ _ _ _ (dtrue (by omega)) c1 c2 (dtrue (by omega)) (dtrue2 (by omega) (by omega)) (by rw [eb]; exact EM (by omega)) c5 c6 ?_
   rw [ea,eb,e0,e1,Gg hX.1 hX.2 hY.1 hY.2 hC.1 hC.2,Hp (by omega) (by omega),wu32]
   rw [hs,FG,←Gr hkn] at ih
   rw [show xs.getD (oa+k) 0+ys.getD (ob+k) 0+sm xs oa la ys ob lb k/pw k=sm xs oa la ys ob lb k/pw k+(xs.getD (oa+k) 0+ys.getD (ob+k) 0) by omega]
   exact ih
  ·rw [if_neg hk] at hs
   refine add0.step1 _ _ _ _ _ _ _ _ _ _ _ _ _ _ _ _ _ _ _ _ _ (dtrue (by omega)) c1 c2 (dfalse (by omega)) c5 c6 ?_
   rw [ea,e0,e1,Gg hX.1 hX.2 (Int.le_refl 0) (by decide) hC.1 hC.2,Hp (by omega) (by omega),wu32]
   rw [hs,FG,←Gr hkn] at ih
   rw [show xs.getD (oa+k) 0+0+sm xs oa la ys ob lb k/pw k=sm xs oa la ys ob lb k/pw k+(xs.getD (oa+k) 0+0) by omega]
   exact ih
theorem add0.lp {N:Nat→Prop} (op lp cp ob lb cb n m:Nat) (cr:Int) (oa la ca:Nat) (z i:Int) (xs:List Int) (ta:TypeId) (ys:List Int) (tb:TypeId) (out:List Int) (tc:TypeId) (nx:Nat) {x:X} {S':St} (h:(add0.lt op lp cp ob lb cb n m cr oa la ca z i xs ta ys tb out tc nx).at=some (x,S')):Lq Tryz.prog N (Ay Tryz.f189 0) (add0.st op lp cp ob lb cb n m cr oa la ca z i xs ta ys tb out tc nx) x S':=by
 obtain ⟨h1,rfl,rfl⟩:=Ez h
 simp only [H4,zB,Nat.ble_eq,zD,Dy] at h1
 obtain ⟨rfl,rfl,rfl,rfl,h5,⟨h6,h7,h8⟩,h9,h10,h11⟩:=h1
 have e:sm xs oa la ys ob lb 0/pw 0=0:=by simp [sm,sg,FH,nv]
 have:=add0.go (N:=N) op lp cp oa la ca ob lb cb n m xs ta ys tb tc nx h6 h9 h7 h10 h5 h8 h11 la 0 (by omega)
 rw [e,Mo] at this
 exact this
def add0.t:LSpec:=fun S=>match RX.nth S.tmps 0,RX.nth S.tmps 1,RX.nth S.tmps 5,RX.nth S.tmps 6,RX.nth S.tmps 21,RX.nth S.tmps 22,RX.nth S.tmps 23,RX.look S.heap 0,RX.look S.heap 1,RX.look S.heap 146 with
 | .slice (some ⟨0,op,none⟩) lp cp,.slice (some ⟨1,ob,none⟩) lb cb,.slice (some ⟨146,0,none⟩) n m,.int .u32 cr,.slice (some ⟨0,oa,none⟩) la ca,.int .i64 z,.int .i64 i,some (.is .u32 xs ta),some (.is .u32 ys tb),some (.is .u32 out tc)=>bif Nat.beq S.tmps.length 54 then some (add0.lt op lp cp ob lb cb n m cr oa la ca z i xs ta ys tb out tc S.nxt) else none
 |_,_,_,_,_,_,_,_,_,_=>none
theorem add0.lok {N:Nat→Prop} :LOKn Tryz.prog N (Ay Tryz.f189 0) (add0.t):=by
 refine FS fun S lt x S' ht hat=> ?_
 unfold add0.t at ht
 split at ht
 ·rename_i op lp cp ob lb cb n m cr oa la ca z i xs ta ys tb out tc h0 h1 h5 h6 h21 h22 h23 g0 g1 g146
  cases hb:Nat.beq S.tmps.length 54 with
  |false=>rw [hb] at ht; cases ht
  | true=>
   rw [hb] at ht
   injection ht with ht
   subst ht
   have hb:=zE hb
   exact .enter (fun h=>FW hb (.cons ⟨h0,bnth h h0⟩ (.cons ⟨h1,bnth h h1⟩ (.cons ⟨h5,bnth h h5⟩ (.cons ⟨h6,bnth h h6⟩ (.cons ⟨h21,bnth h h21⟩ (.cons ⟨h22,bnth h h22⟩ (.cons ⟨h23,bnth h h23⟩ .nil))))))) (.cons ⟨g0,bname h g0,rfl⟩ (.cons ⟨g1,bname h g1,rfl⟩ (.cons ⟨g146,bname h g146,rfl⟩ .nil)))) (add0.lp _ _ _ _ _ _ _ _ _ _ _ _ _ _ _ _ _ _ _ _ _ hat)
 ·cases ht
section
variable {N:Nat→Prop} {xe:X} {Se:St} (op lp cp ob lb cb n m:Nat) (cr:Int) (oa la ca:Nat) (z i:Int) (ys:List Int) (tb:TypeId) (xs:List Int) (ta:TypeId) (out:List Int) (tc:TypeId) (nx:Nat)
abbrev add1.st:St:=⟨gbuild [(0,.slice (some ⟨1,op,none⟩) lp cp),(1,.slice (some ⟨0,ob,none⟩) lb cb),(5,.slice (some ⟨210,0,none⟩) n m),(6,.int .u32 cr),(21,.slice (some ⟨1,oa,none⟩) la ca),(22,.int .i64 z),(23,.int .i64 i)] 0 54,[(0,.is .u32 ys tb),(1,.is .u32 xs ta),(210,.is .u32 out tc)],nx⟩
abbrev add1.lk:=RX.lk [0,1,5,6,21,22,23] [0,1,210]
theorem add1.rnd:rd Tryz.prog ⟨[],[(207,Tryz.f207)],[]⟩ [] 5 (Ay Tryz.f189 0) (add1.st op lp cp ob lb cb n m cr oa la ca z i ys tb xs ta out tc nx) 54 [0,1,5,6,21,22,23] [0,1,210]=
 bif decide (i<z) then bif decide (0≤i)&&decide (i<((la:Nat):Int)) then bif (oa+i.toNat*1).blt xs.length then bif decide (i<((lb:Nat):Int)) then bif decide (0≤i)&&decide (i<((lb:Nat):Int)) then bif (ob+i.toNat*1).blt ys.length then bif decide (0≤i)&&decide (i<((n:Nat):Int)) then bif (0+i.toNat*1).blt out.length then add1.lk .normal (add1.st op lp cp ob lb cb n m (u32.wrap ((u64.wrap (u64.wrap (u64.wrap (xs.getD (oa+i.toNat*1) 0)+u64.wrap (ys.getD (ob+i.toNat*1) 0))+u64.wrap cr)).fdiv (2^min (Int.toNat 32) u64.bits))) oa la ca z (i64.wrap (i+1)) ys tb xs ta (out.set (0+i.toNat*1) (u32.wrap (u64.wrap (u64.wrap (u64.wrap (xs.getD (oa+i.toNat*1) 0)+u64.wrap (ys.getD (ob+i.toNat*1) 0))+u64.wrap cr)))) tc nx) else none else none else none else none else bif decide (0≤i)&&decide (i<((n:Nat):Int)) then bif (0+i.toNat*1).blt out.length then add1.lk .normal (add1.st op lp cp ob lb cb n m (u32.wrap ((u64.wrap (u64.wrap (u64.wrap (xs.getD (oa+i.toNat*1) 0)+u64.wrap 0)+u64.wrap cr)).fdiv (2^min (Int.toNat 32) u64.bits))) oa la ca z (i64.wrap (i+1)) ys tb xs ta (out.set (0+i.toNat*1) (u32.wrap (u64.wrap (u64.wrap (u64.wrap (xs.getD (oa+i.toNat*1) 0)+u64.wrap 0)+u64.wrap cr)))) tc nx) else none else none else none else none else add1.lk (.exit 0) (add1.st op lp cp ob lb cb n m cr oa la ca z i ys tb xs ta out tc nx):=by kernel_rfl
def add1.step0:=fun h0 h1 h2 h3 h4 h5 h6 h7 (ih:Lq Tryz.prog N (Ay Tryz.f189 0) _ xe Se)=>Lq.toK (f:=5) ⟨Ac,Bu ⟨Tryz.func207,by decide,rfl⟩ Aq,Aj,Ap⟩ Bs (((((((((add1.rnd op lp cp ob lb cb n m cr oa la ca z i ys tb xs ta out tc nx).ct h0).ct h1).ct h2).ct h3).ct h4).ct h5).ct h6).ct h7) rfl rfl ih
def add1.step1:=fun h0 h1 h2 h3 h4 h5 (ih:Lq Tryz.prog N (Ay Tryz.f189 0) _ xe Se)=>Lq.toK (f:=5) ⟨Ac,Bu ⟨Tryz.func207,by decide,rfl⟩ Aq,Aj,Ap⟩ Bs (((((((add1.rnd op lp cp ob lb cb n m cr oa la ca z i ys tb xs ta out tc nx).ct h0).ct h1).ct h2).cf h3).ct h4).ct h5) rfl rfl ih
def add1.stop2:=fun h0=>Lq.endK (N:=N) (f:=5) ⟨Ac,Bu ⟨Tryz.func207,by decide,rfl⟩ Aq,Aj,Ap⟩ Bs ((add1.rnd op lp cp ob lb cb n m cr oa la ca z i ys tb xs ta out tc nx).cf h0) (fun q=>by cases q) rfl rfl
end
def add1.lt (op lp cp ob lb cb n m:Nat) (cr:Int) (oa la ca:Nat) (z i:Int) (ys:List Int) (tb:TypeId) (xs:List Int) (ta:TypeId) (out:List Int) (tc:TypeId) (nx:Nat):LT:= .got (H4 oa la ob lb n cr z i xs ys out) (.exit 0) (add1.st op lp cp ob lb cb n m (sm xs oa la ys ob lb la/pw la) oa la ca z z ys tb xs ta (ap la (sm xs oa la ys ob lb la) n) tc nx)
theorem add1.go {N:Nat→Prop} (op lp cp oa la ca ob lb cb n m:Nat) (xs:List Int) (ta:TypeId) (ys:List Int) (tb tc:TypeId) (nx:Nat) (h1:oa+la≤xs.length) (h2:ob+lb≤ys.length) (h3:la≤4294967296) (h4:lb≤4294967296) (hn:la≤n) (hx:dig xs) (hy:dig ys):∀(j k:Nat),k+j=la→Lq Tryz.prog N (Ay Tryz.f189 0) (add1.st op lp cp ob lb cb n m (sm xs oa la ys ob lb k/pw k) oa la ca (la:Int) (k:Int) ys tb xs ta (ap k (sm xs oa la ys ob lb k) n) tc nx) (.exit 0) (add1.st op lp cp ob lb cb n m (sm xs oa la ys ob lb la/pw la) oa la ca (la:Int) (la:Int) ys tb xs ta (ap la (sm xs oa la ys ob lb la) n) tc nx)
 | 0,k,h=>by
  obtain rfl:k=la:=by omega
  exact add1.stop2 _ _ _ _ _ _ _ _ _ _ _ _ _ _ _ _ _ _ _ _ _ (dfalse (by omega))
 | j +1,k,h=>by
  have e1:i64.wrap ((k:Int)+1)=((k+1:Nat):Int):=by rw [w64 (by omega) (by omega)]; omega
  have ea:oa+((k:Int)).toNat*1=oa+k:=by simp
  have eb:ob+((k:Int)).toNat*1=ob+k:=by simp
  have e0:0+((k:Int)).toNat*1=k:=by simp
  have hkn:k<n:=by omega
  have c1:(decide (0≤(k:Int))&&decide ((k:Int)<(la:Int)))=true:=dtrue2 (by omega) (by omega)
  have c2:(oa+((k:Int)).toNat*1).blt xs.length=true:=by rw [ea]; exact EM (by omega)
  have c5:(decide (0≤(k:Int))&&decide ((k:Int)<(n:Int)))=true:=dtrue2 (by omega) (by omega)
  have c6:(0+((k:Int)).toNat*1).blt (ap k (sm xs oa la ys ob lb k) n).length=true:=by rw [e0,Fc _ (by omega)]; exact EM (by omega)
  have hX:=EF hx (oa+k)
  have hY:=EF hy (ob+k)
  have hC:=Ki hx hy h1 h2 k
  have hs:=Ol (k:=k) h1 h2
  rw [if_pos (show k<la by omega)] at hs
  have ih:=add1.go (N:=N) op lp cp oa la ca ob lb cb n m xs ta ys tb tc nx h1 h2 h3 h4 hn hx hy j (k+1) (by omega)
  by_cases hk:k<lb
  ·rw [if_pos hk] at hs
   refine add1.step0 _ _ _ _ _ _ _ _ _ _ _ _ _ _ _ _ _ _ _ _ _ (dtrue (by omega)) c1 c2 (dtrue (by omega)) (dtrue2 (by omega) (by omega)) (by rw [eb]; exact EM (by omega)) c5 c6 ?_
   rw [ea,eb,e0,e1,Gg hX.1 hX.2 hY.1 hY.2 hC.1 hC.2,Hp (by omega) (by omega),wu32]
   rw [hs,FG,←Gr hkn] at ih
   rw [show xs.getD (oa+k) 0+ys.getD (ob+k) 0+sm xs oa la ys ob lb k/pw k=sm xs oa la ys ob lb k/pw k+(xs.getD (oa+k) 0+ys.getD (ob+k) 0) by omega]
   exact ih
  ·rw [if_neg hk] at hs
   refine add1.step1 _ _ _ _ _ _ _ _ _ _ _ _ _ _ _ _ _ _ _ _ _ (dtrue (by omega)) c1 c2 (dfalse (by omega)) c5 c6 ?_
   rw [ea,e0,e1,Gg hX.1 hX.2 (Int.le_refl 0) (by decide) hC.1 hC.2,Hp (by omega) (by omega),wu32]
   rw [hs,FG,←Gr hkn] at ih
   rw [show xs.getD (oa+k) 0+0+sm xs oa la ys ob lb k/pw k=sm xs oa la ys ob lb k/pw k+(xs.getD (oa+k) 0+0) by omega]
   exact ih
theorem add1.lp {N:Nat→Prop} (op lp cp ob lb cb n m:Nat) (cr:Int) (oa la ca:Nat) (z i:Int) (ys:List Int) (tb:TypeId) (xs:List Int) (ta:TypeId) (out:List Int) (tc:TypeId) (nx:Nat) {x:X} {S':St} (h:(add1.lt op lp cp ob lb cb n m cr oa la ca z i ys tb xs ta out tc nx).at=some (x,S')):Lq Tryz.prog N (Ay Tryz.f189 0) (add1.st op lp cp ob lb cb n m cr oa la ca z i ys tb xs ta out tc nx) x S':=by
 obtain ⟨h1,rfl,rfl⟩:=Ez h
 simp only [H4,zB,Nat.ble_eq,zD,Dy] at h1
 obtain ⟨rfl,rfl,rfl,rfl,h5,⟨h6,h7,h8⟩,h9,h10,h11⟩:=h1
 have e:sm xs oa la ys ob lb 0/pw 0=0:=by simp [sm,sg,FH,nv]
 have:=add1.go (N:=N) op lp cp oa la ca ob lb cb n m xs ta ys tb tc nx h6 h9 h7 h10 h5 h8 h11 la 0 (by omega)
 rw [e,Mo] at this
 exact this
def add1.t:LSpec:=fun S=>match RX.nth S.tmps 0,RX.nth S.tmps 1,RX.nth S.tmps 5,RX.nth S.tmps 6,RX.nth S.tmps 21,RX.nth S.tmps 22,RX.nth S.tmps 23,RX.look S.heap 0,RX.look S.heap 1,RX.look S.heap 210 with
 | .slice (some ⟨1,op,none⟩) lp cp,.slice (some ⟨0,ob,none⟩) lb cb,.slice (some ⟨210,0,none⟩) n m,.int .u32 cr,.slice (some ⟨1,oa,none⟩) la ca,.int .i64 z,.int .i64 i,some (.is .u32 ys tb),some (.is .u32 xs ta),some (.is .u32 out tc)=>bif Nat.beq S.tmps.length 54 then some (add1.lt op lp cp ob lb cb n m cr oa la ca z i ys tb xs ta out tc S.nxt) else none
 |_,_,_,_,_,_,_,_,_,_=>none
theorem add1.lok {N:Nat→Prop} :LOKn Tryz.prog N (Ay Tryz.f189 0) (add1.t):=by
 refine FS fun S lt x S' ht hat=> ?_
 unfold add1.t at ht
 split at ht
 ·rename_i op lp cp ob lb cb n m cr oa la ca z i ys tb xs ta out tc h0 h1 h5 h6 h21 h22 h23 g0 g1 g210
  cases hb:Nat.beq S.tmps.length 54 with
  |false=>rw [hb] at ht; cases ht
  | true=>
   rw [hb] at ht
   injection ht with ht
   subst ht
   have hb:=zE hb
   exact .enter (fun h=>FW hb (.cons ⟨h0,bnth h h0⟩ (.cons ⟨h1,bnth h h1⟩ (.cons ⟨h5,bnth h h5⟩ (.cons ⟨h6,bnth h h6⟩ (.cons ⟨h21,bnth h h21⟩ (.cons ⟨h22,bnth h h22⟩ (.cons ⟨h23,bnth h h23⟩ .nil))))))) (.cons ⟨g0,bname h g0,rfl⟩ (.cons ⟨g1,bname h g1,rfl⟩ (.cons ⟨g210,bname h g210,rfl⟩ .nil)))) (add1.lp _ _ _ _ _ _ _ _ _ _ _ _ _ _ _ _ _ _ _ _ _ hat)
 ·cases ht
section
variable {N:Nat→Prop} {xe:X} {Se:St} (ob lb cb n m:Nat) (cr:Int) (oa la ca:Nat) (z i:Int) (xs:List Int) (ta:TypeId) (ys:List Int) (tb:TypeId) (out:List Int) (tc:TypeId) (nx:Nat)
abbrev less.st:St:=⟨gbuild [(1,.slice (some ⟨1,ob,none⟩) lb cb),(5,.slice (some ⟨50,0,none⟩) n m),(6,.int .u32 cr),(13,.slice (some ⟨0,oa,none⟩) la ca),(14,.int .i64 z),(15,.int .i64 i)] 0 41,[(0,.is .u32 xs ta),(1,.is .u32 ys tb),(50,.is .u32 out tc)],nx⟩
abbrev less.lk:=RX.lk [1,5,6,13,14,15] [0,1,50]
theorem less.rnd:rd Tryz.prog ⟨[],[(208,Tryz.f208)],[]⟩ [] 5 (Ay Tryz.f191 0) (less.st ob lb cb n m cr oa la ca z i xs ta ys tb out tc nx) 41 [1,5,6,13,14,15] [0,1,50]=
 bif decide (i<z) then bif decide (0≤i)&&decide (i<((la:Nat):Int)) then bif (oa+i.toNat*1).blt xs.length then bif decide (i<((lb:Nat):Int)) then bif decide (0≤i)&&decide (i<((lb:Nat):Int)) then bif (ob+i.toNat*1).blt ys.length then bif decide (0≤i)&&decide (i<((n:Nat):Int)) then bif (0+i.toNat*1).blt out.length then less.lk .normal (less.st ob lb cb n m ((E6 BinOp.or u32 (E6 BinOp.and u32 (E6 BinOp.xor u32 (if u32.signed=true then -1 else u32.max) (xs.getD (oa+i.toNat*1) 0)) (ys.getD (ob+i.toNat*1) 0)) (E6 BinOp.and u32 (E6 BinOp.xor u32 (if u32.signed=true then -1 else u32.max) (E6 BinOp.xor u32 (xs.getD (oa+i.toNat*1) 0) (ys.getD (ob+i.toNat*1) 0))) (u32.wrap (u32.wrap (xs.getD (oa+i.toNat*1) 0-ys.getD (ob+i.toNat*1) 0)-cr)))).fdiv (2^min (Int.toNat 31) u32.bits)) oa la ca z (i64.wrap (i+1)) xs ta ys tb (out.set (0+i.toNat*1) (u32.wrap (u32.wrap (xs.getD (oa+i.toNat*1) 0-ys.getD (ob+i.toNat*1) 0)-cr))) tc nx) else none else none else none else none else bif decide (0≤i)&&decide (i<((n:Nat):Int)) then bif (0+i.toNat*1).blt out.length then less.lk .normal (less.st ob lb cb n m ((E6 BinOp.or u32 (E6 BinOp.and u32 (E6 BinOp.xor u32 (if u32.signed=true then -1 else u32.max) (xs.getD (oa+i.toNat*1) 0)) 0) (E6 BinOp.and u32 (E6 BinOp.xor u32 (if u32.signed=true then -1 else u32.max) (E6 BinOp.xor u32 (xs.getD (oa+i.toNat*1) 0) 0)) (u32.wrap (u32.wrap (xs.getD (oa+i.toNat*1) 0-0)-cr)))).fdiv (2^min (Int.toNat 31) u32.bits)) oa la ca z (i64.wrap (i+1)) xs ta ys tb (out.set (0+i.toNat*1) (u32.wrap (u32.wrap (xs.getD (oa+i.toNat*1) 0-0)-cr))) tc nx) else none else none else none else none else less.lk (.exit 0) (less.st ob lb cb n m cr oa la ca z i xs ta ys tb out tc nx):=by kernel_rfl
def less.step0:=fun h0 h1 h2 h3 h4 h5 h6 h7 (ih:Lq Tryz.prog N (Ay Tryz.f191 0) _ xe Se)=>Lq.toK (f:=5) ⟨Ac,Bu ⟨Tryz.func208,by decide,rfl⟩ Aq,Aj,Ap⟩ Bs (((((((((less.rnd ob lb cb n m cr oa la ca z i xs ta ys tb out tc nx).ct h0).ct h1).ct h2).ct h3).ct h4).ct h5).ct h6).ct h7) rfl rfl ih
def less.step1:=fun h0 h1 h2 h3 h4 h5 (ih:Lq Tryz.prog N (Ay Tryz.f191 0) _ xe Se)=>Lq.toK (f:=5) ⟨Ac,Bu ⟨Tryz.func208,by decide,rfl⟩ Aq,Aj,Ap⟩ Bs (((((((less.rnd ob lb cb n m cr oa la ca z i xs ta ys tb out tc nx).ct h0).ct h1).ct h2).cf h3).ct h4).ct h5) rfl rfl ih
def less.stop2:=fun h0=>Lq.endK (N:=N) (f:=5) ⟨Ac,Bu ⟨Tryz.func208,by decide,rfl⟩ Aq,Aj,Ap⟩ Bs ((less.rnd ob lb cb n m cr oa la ca z i xs ta ys tb out tc nx).cf h0) (fun q=>by cases q) rfl rfl
end
def less.lt (ob lb cb n m:Nat) (cr:Int) (oa la ca:Nat) (z i:Int) (xs:List Int) (ta:TypeId) (ys:List Int) (tb:TypeId) (out:List Int) (tc:TypeId) (nx:Nat):LT:= .got (H4 oa la ob lb n cr z i xs ys out) (.exit 0) (less.st ob lb cb n m (-(df xs oa la ys ob lb la/pw la)) oa la ca z z xs ta ys tb (ap la (df xs oa la ys ob lb la) n) tc nx)
theorem KF {x y b:Int} :u32.wrap (u32.wrap (x-y)-b)=(-b+(x-y))%4294967296:=by rw [wu32,wu32]; omega
theorem less.go {N:Nat→Prop} (oa la ca ob lb cb n m:Nat) (xs:List Int) (ta:TypeId) (ys:List Int) (tb tc:TypeId) (nx:Nat) (h1:oa+la≤xs.length) (h2:ob+lb≤ys.length) (h3:la≤4294967296) (h4:lb≤4294967296) (hn:la≤n) (hx:dig xs) (hy:dig ys):∀(j k:Nat),k+j=la→Lq Tryz.prog N (Ay Tryz.f191 0) (less.st ob lb cb n m (-(df xs oa la ys ob lb k/pw k)) oa la ca (la:Int) (k:Int) xs ta ys tb (ap k (df xs oa la ys ob lb k) n) tc nx) (.exit 0) (less.st ob lb cb n m (-(df xs oa la ys ob lb la/pw la)) oa la ca (la:Int) (la:Int) xs ta ys tb (ap la (df xs oa la ys ob lb la) n) tc nx)
 | 0,k,h=>by
  obtain rfl:k=la:=by omega
  exact less.stop2 _ _ _ _ _ _ _ _ _ _ _ _ _ _ _ _ _ _ (dfalse (by omega))
 | j +1,k,h=>by
  have e1:i64.wrap ((k:Int)+1)=((k+1:Nat):Int):=by rw [w64 (by omega) (by omega)]; omega
  have ea:oa+((k:Int)).toNat*1=oa+k:=by simp
  have eb:ob+((k:Int)).toNat*1=ob+k:=by simp
  have e0:0+((k:Int)).toNat*1=k:=by simp
  have hkn:k<n:=by omega
  have c1:(decide (0≤(k:Int))&&decide ((k:Int)<(la:Int)))=true:=dtrue2 (by omega) (by omega)
  have c2:(oa+((k:Int)).toNat*1).blt xs.length=true:=by rw [ea]; exact EM (by omega)
  have c5:(decide (0≤(k:Int))&&decide ((k:Int)<(n:Int)))=true:=dtrue2 (by omega) (by omega)
  have c6:(0+((k:Int)).toNat*1).blt (ap k (df xs oa la ys ob lb k) n).length=true:=by rw [e0,Fc _ (by omega)]; exact EM (by omega)
  have hX:=EF hx (oa+k)
  have hY:=EF hy (ob+k)
  have hC:=Q2 hx hy h1 h2 k
  have hs:=df_succ (k:=k) h1 h2
  rw [if_pos (show k<la by omega)] at hs
  have ih:=less.go (N:=N) oa la ca ob lb cb n m xs ta ys tb tc nx h1 h2 h3 h4 hn hx hy j (k+1) (by omega)
  by_cases hk:k<lb
  ·rw [if_pos hk] at hs
   refine less.step0 _ _ _ _ _ _ _ _ _ _ _ _ _ _ _ _ _ _ (dtrue (by omega)) c1 c2 (dtrue (by omega)) (dtrue2 (by omega) (by omega)) (by rw [eb]; exact EM (by omega)) c5 c6 ?_
   rw [ea,eb,e0,e1,borrow hX.1 hX.2 hY.1 hY.2 (by omega) (by omega),KF,Int.neg_neg]
   rw [hs,FG,←Gr hkn] at ih
   rw [show xs.getD (oa+k) 0-ys.getD (ob+k) 0- -(df xs oa la ys ob lb k/pw k)=df xs oa la ys ob lb k/pw k+(xs.getD (oa+k) 0-ys.getD (ob+k) 0) by omega]
   exact ih
  ·rw [if_neg hk] at hs
   refine less.step1 _ _ _ _ _ _ _ _ _ _ _ _ _ _ _ _ _ _ (dtrue (by omega)) c1 c2 (dfalse (by omega)) c5 c6 ?_
   rw [ea,e0,e1,borrow hX.1 hX.2 (Int.le_refl 0) (by decide) (by omega) (by omega),KF,Int.neg_neg]
   rw [hs,FG,←Gr hkn] at ih
   rw [show xs.getD (oa+k) 0-0- -(df xs oa la ys ob lb k/pw k)=df xs oa la ys ob lb k/pw k+(xs.getD (oa+k) 0-0) by omega]
   exact ih
theorem less.lp {N:Nat→Prop} (ob lb cb n m:Nat) (cr:Int) (oa la ca:Nat) (z i:Int) (xs:List Int) (ta:TypeId) (ys:List Int) (tb:TypeId) (out:List Int) (tc:TypeId) (nx:Nat) {x:X} {S':St} (h:(less.lt ob lb cb n m cr oa la ca z i xs ta ys tb out tc nx).at=some (x,S')):Lq Tryz.prog N (Ay Tryz.f191 0) (less.st ob lb cb n m cr oa la ca z i xs ta ys tb out tc nx) x S':=by
 obtain ⟨h1,rfl,rfl⟩:=Ez h
 simp only [H4,zB,Nat.ble_eq,zD,Dy] at h1
 obtain ⟨rfl,rfl,rfl,rfl,h5,⟨h6,h7,h8⟩,h9,h10,h11⟩:=h1
 have e: -(df xs oa la ys ob lb 0/pw 0)=0:=by simp [df,sg,FH,nv]
 have:=less.go (N:=N) oa la ca ob lb cb n m xs ta ys tb tc nx h6 h9 h7 h10 h5 h8 h11 la 0 (by omega)
 rw [e,Mo] at this
 exact this
def less.t:LSpec:=fun S=>match RX.nth S.tmps 1,RX.nth S.tmps 5,RX.nth S.tmps 6,RX.nth S.tmps 13,RX.nth S.tmps 14,RX.nth S.tmps 15,RX.look S.heap 0,RX.look S.heap 1,RX.look S.heap 50 with
 | .slice (some ⟨1,ob,none⟩) lb cb,.slice (some ⟨50,0,none⟩) n m,.int .u32 cr,.slice (some ⟨0,oa,none⟩) la ca,.int .i64 z,.int .i64 i,some (.is .u32 xs ta),some (.is .u32 ys tb),some (.is .u32 out tc)=>bif Nat.beq S.tmps.length 41 then some (less.lt ob lb cb n m cr oa la ca z i xs ta ys tb out tc S.nxt) else none
 |_,_,_,_,_,_,_,_,_=>none
theorem less.lok {N:Nat→Prop} :LOKn Tryz.prog N (Ay Tryz.f191 0) (less.t):=by
 refine FS fun S lt x S' ht hat=> ?_
 unfold less.t at ht
 split at ht
 ·rename_i ob lb cb n m cr oa la ca z i xs ta ys tb out tc h1 h5 h6 h13 h14 h15 g0 g1 g50
  cases hb:Nat.beq S.tmps.length 41 with
  |false=>rw [hb] at ht; cases ht
  | true=>
   rw [hb] at ht
   injection ht with ht
   subst ht
   have hb:=zE hb
   exact .enter (fun h=>FW hb (.cons ⟨h1,bnth h h1⟩ (.cons ⟨h5,bnth h h5⟩ (.cons ⟨h6,bnth h h6⟩ (.cons ⟨h13,bnth h h13⟩ (.cons ⟨h14,bnth h h14⟩ (.cons ⟨h15,bnth h h15⟩ .nil)))))) (.cons ⟨g0,bname h g0,rfl⟩ (.cons ⟨g1,bname h g1,rfl⟩ (.cons ⟨g50,bname h g50,rfl⟩ .nil)))) (less.lp _ _ _ _ _ _ _ _ _ _ _ _ _ _ _ _ _ _ hat)
 ·cases ht
def addL:LSpec:=fun S=>match add0.t S with|some lt=>some lt|none=>add1.t S
end Go.Proofs.YtpejalpgficopaaGreatDoor.G
end
