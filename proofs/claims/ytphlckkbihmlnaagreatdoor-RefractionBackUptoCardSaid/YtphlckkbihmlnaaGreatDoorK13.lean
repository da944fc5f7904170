/- A part of what the law's proof leans on. PACKED BY pack.py of this repo. -/
import Derived.Test.YtphlckkbihmlnaaGreatDoorK12
set_option linter.unusedVariables false
set_option linter.unusedSimpArgs false
set_option linter.unusedSectionVars false
set_option linter.defProp false
set_option maxRecDepth 100000
open Go.IntKind (i64 u64 u32)
section
namespace Go.Proofs.YtphlckkbihmlnaaGreatDoor.G
open Go Go.Proofs RX
def dig3B (xs:List Int):Bool:=xs.all fun x=>decide (0≤x)&&decide (x<16777216)
theorem KC {xs:List Int} :dig3B xs=true↔dig3 xs:=by simp [dig3B,dig3]
def bei (k:Nat) (v:Int):List Int:=(be k v).map fun b=>(b.toNat:Int)
theorem QO (k:Nat) (v:Int):(bei k v).length=k:=by rw [bei,List.length_map,I7]
theorem Th (k:Nat) (v:Int):bei (k+1) v=v/p8 k%256::bei k v:=by
 unfold bei
 rw [Nat.add_comm k 1,QP]
 simp [be,MW]
theorem TS:∀ {xs:List Int} (q:Nat),dig3 xs→nv3 xs/pw3 q%16777216=xs.getD q 0
 |[],q,_=>by simp [nv3]
 | x::r,0,h=>by
  have:=h x (by simp)
  rw [Ku,Int.ediv_one]
  simp only [nv3,List.getD_cons_zero]; omega
 | x::r,q+1,h=>by
  have h1:=h x (by simp)
  have ih:=TS (xs:=r) q fun y hy=>h y (by simp [hy])
  rw [Kv,show (16777216:Int)*pw3 q=16777216*pw3 q from rfl,←Int.ediv_ediv_of_nonneg (by decide)]
  simp only [nv3,List.getD_cons_succ]
  rw [show (x+16777216*nv3 r)/16777216=nv3 r by omega]
  exact ih
theorem byte_at {xs:List Int} (h:dig3 xs) (q r:Nat) (hr:r<3):IntKind.u8.wrap ((xs.getD q 0).fdiv (2^min (i64.wrap (8*(r:Int))).toNat i64.bits))=nv3 xs/p8 (3*q+r)%256:=by
 rw [PH r hr,←TS q h,Int.fdiv_eq_ediv_of_nonneg _ (Int.le_of_lt (Hk r)),wu8,LZ,Kx,←Int.ediv_ediv_of_nonneg (Int.le_of_lt (OF q))]
 generalize nv3 xs/pw3 q=w
 have:r=0∨r=1∨r=2:=by omega
 rcases this with rfl|rfl|rfl
 ·rw [Jz]; omega
 ·rw [show p8 1=256 from rfl]; omega
 ·rw [show p8 2=65536 from rfl]; omega
theorem set_rep (j:Nat) (b:Int) (R:List Int):(List.replicate (j+1) (0:Int)++R).set j b=List.replicate j 0++b::R:=by
 rw [List.replicate_succ',List.append_assoc,List.set_append_right _ _ (by simp)]
 simp
abbrev wby.st (oa:Nat) (la:Nat) (ca:Nat) (n:Nat) (m:Nat) (i:Int) (xs:List Int) (ta:TypeId) (out:List Int) (tc:TypeId) (nx:Nat):St:=⟨gbuild [(0,.slice (some ⟨0,oa,none⟩) la ca),(3,.slice (some ⟨65,0,none⟩) n m),(4,.int .i64 i)] 0 45,[(0,.is .i64 xs ta),(65,.is .u8 out tc)],nx⟩
theorem wby.rnd (oa:Nat) (la:Nat) (ca:Nat) (n:Nat) (m:Nat) (i:Int) (xs:List Int) (ta:TypeId) (out:List Int) (tc:TypeId) (nx:Nat):exec Tryz.prog ⟨[],[],[]⟩ [] (hs Tryz.prog ⟨[],[],[]⟩ 3).lf (hs Tryz.prog ⟨[],[],[]⟩ 3).cf (Ag Tryz.f110 0) (wby.st oa la ca n m i xs ta out tc nx) (pick 45 [0,3,4] [0,65])=
 bif decide (i<((n:Nat):Int)) then bif decide (0≤i64.wrap (i.tdiv 3))&&decide (i64.wrap (i.tdiv 3)<((la:Nat):Int)) then bif (oa+(i64.wrap (i.tdiv 3)).toNat*1).blt xs.length then bif decide (0≤i64.wrap (8*i.tmod 3)) then bif decide (0≤i64.wrap (i64.wrap (((n:Nat):Int)-1)-i))&&decide (i64.wrap (i64.wrap (((n:Nat):Int)-1)-i)<((n:Nat):Int)) then bif (0+(i64.wrap (i64.wrap (((n:Nat):Int)-1)-i)).toNat*1).blt out.length then lk [0,3,4] [0,65] .normal (wby.st oa la ca n m (i64.wrap (i+1)) xs ta (out.set (0+(i64.wrap (i64.wrap (((n:Nat):Int)-1)-i)).toNat*1) (IntKind.u8.wrap ((xs.getD (oa+(i64.wrap (i.tdiv 3)).toNat*1) 0).fdiv (2^min (i64.wrap (8*i.tmod 3)).toNat i64.bits)))) tc nx) else none else none else none else none else none else lk [0,3,4] [0,65] (.exit 0) (wby.st oa la ca n m i xs ta out tc nx):=by kernel_rfl
theorem wby.step0 {N:Nat→Prop} (oa:Nat) (la:Nat) (ca:Nat) (n:Nat) (m:Nat) (i:Int) (xs:List Int) (ta:TypeId) (out:List Int) (tc:TypeId) (nx:Nat) (h0:(decide (i<((n:Nat):Int)))=true) (h1:(decide (0≤i64.wrap (i.tdiv 3))&&decide (i64.wrap (i.tdiv 3)<((la:Nat):Int)))=true) (h2:((oa+(i64.wrap (i.tdiv 3)).toNat*1).blt xs.length)=true) (h3:(decide (0≤i64.wrap (8*i.tmod 3)))=true) (h4:(decide (0≤i64.wrap (i64.wrap (((n:Nat):Int)-1)-i))&&decide (i64.wrap (i64.wrap (((n:Nat):Int)-1)-i)<((n:Nat):Int)))=true) (h5:((0+(i64.wrap (i64.wrap (((n:Nat):Int)-1)-i)).toNat*1).blt out.length)=true) {x:X} {S':St} (ih:Lq Tryz.prog N (Ag Tryz.f110 0) (wby.st oa la ca n m (i64.wrap (i+1)) xs ta (out.set (0+(i64.wrap (i64.wrap (((n:Nat):Int)-1)-i)).toNat*1) (IntKind.u8.wrap ((xs.getD (oa+(i64.wrap (i.tdiv 3)).toNat*1) 0).fdiv (2^min (i64.wrap (8*i.tmod 3)).toNat i64.bits)))) tc nx) x (S')):Lq Tryz.prog N (Ag Tryz.f110 0) (wby.st oa la ca n m i xs ta out tc nx) x (S'):=
 .toK (f:=3) ⟨Ac,Ai,Ad,Ah⟩ Be (((((((wby.rnd oa la ca n m i xs ta out tc nx).trans (ct h0)).trans (ct h1)).trans (ct h2)).trans (ct h3)).trans (ct h4)).trans (ct h5)) rfl rfl ih
theorem wby.stop1 {N:Nat→Prop} (oa:Nat) (la:Nat) (ca:Nat) (n:Nat) (m:Nat) (i:Int) (xs:List Int) (ta:TypeId) (out:List Int) (tc:TypeId) (nx:Nat) (h0:(decide (i<((n:Nat):Int)))=false):Lq Tryz.prog N (Ag Tryz.f110 0) (wby.st oa la ca n m i xs ta out tc nx) (.exit 0) (wby.st oa la ca n m i xs ta out tc nx):=
 .endK (f:=3) ⟨Ac,Ai,Ad,Ah⟩ Be ((wby.rnd oa la ca n m i xs ta out tc nx).trans (cf h0)) (fun q=>by cases q) rfl rfl
theorem wby.enter {N:Nat→Prop} {S S':St} {x:X} {oa:Nat} {la:Nat} {ca:Nat} {n:Nat} {m:Nat} {i:Int} {xs:List Int} {ta:TypeId} {out:List Int} {tc:TypeId} (h0:RX.nth S.tmps 0= .slice (some ⟨0,oa,none⟩) la ca) (h3:RX.nth S.tmps 3= .slice (some ⟨65,0,none⟩) n m) (h4:RX.nth S.tmps 4= .int .i64 i) (g0:RX.look S.heap 0=some (.is .i64 xs ta)) (g65:RX.look S.heap 65=some (.is .u8 out tc)) (hl:S.tmps.length=45) (hk:Lq Tryz.prog N (Ag Tryz.f110 0) (wby.st oa la ca n m i xs ta out tc S.nxt) x (S')):Lq Tryz.prog N (Ag Tryz.f110 0) (S) x (S'):=by
 obtain ⟨T,H,n⟩:=S
 exact .enter (fun h=>Gr hl (.cons ⟨h0,bnth h h0⟩ (.cons ⟨h3,bnth h h3⟩ (.cons ⟨h4,bnth h h4⟩ .nil))) (.cons ⟨g0,bname h g0,rfl⟩ (.cons ⟨g65,bname h g65,rfl⟩ .nil))) hk
def wby.ok (oa la n:Nat) (i:Int) (xs out:List Int):Bool:=decide (i=0)&&(decide (out=List.replicate n 0)&&(Nat.beq n (3*la)&&(Nat.ble (oa+la) xs.length&&(Nat.ble la 4611686018427387&&dig3B (seg xs oa la)))))
def wby.lt (oa la ca n m:Nat) (i:Int) (xs:List Int) (ta:TypeId) (out:List Int) (tc:TypeId) (nx:Nat):LT:= .got (wby.ok oa la n i xs out) (.exit 0) (wby.st oa la ca n m (n:Int) xs ta (bei n (nv3 (seg xs oa la))) tc nx)
theorem wby.go {N:Nat→Prop} (oa la ca m:Nat) (xs:List Int) (ta tc:TypeId) (nx:Nat) (h1:oa+la≤xs.length) (h2:la≤4611686018427387) (hd:dig3 (seg xs oa la)):∀(d k:Nat),k+d=3*la→Lq Tryz.prog N (Ag Tryz.f110 0) (wby.st oa la ca (3*la) m (k:Int) xs ta (List.replicate d 0++bei k (nv3 (seg xs oa la))) tc nx) (.exit 0) (wby.st oa la ca (3*la) m ((3*la:Nat):Int) xs ta (bei (3*la) (nv3 (seg xs oa la))) tc nx)
 | 0,k,h=>by
  have e:k=3*la:=by omega
  subst e
  exact wby.stop1 oa la ca (3*la) m _ xs ta _ tc nx (dfalse (by omega))
 | d+1,k,h=>by
  obtain ⟨q,r,hr,rfl⟩:∃q r,r<3∧k=3*q+r:=⟨k/3,k%3,by omega,by omega⟩
  have hq:(((3*q+r:Nat):Int)).tdiv 3=(q:Int):=by rw [Int.tdiv_eq_ediv_of_nonneg (by omega)]; omega
  have hm:(((3*q+r:Nat):Int)).tmod 3=(r:Int):=by rw [Int.tmod_eq_emod_of_nonneg (by omega)]; omega
  have w1:i64.wrap (q:Int)=(q:Int):=w64 (by omega) (by omega)
  have w2:i64.wrap (((3*la:Nat):Int)-1)=((3*la:Nat):Int)-1:=w64 (by omega) (by omega)
  have w3:i64.wrap (((3*la:Nat):Int)-1-((3*q+r:Nat):Int))=(d:Int):=by rw [w64 (by omega) (by omega)]; omega
  have w4:i64.wrap (((3*q+r:Nat):Int)+1)=((3*q+r+1:Nat):Int):=by rw [w64 (by omega) (by omega)]; omega
  have hw:0≤i64.wrap (8*(r:Int)):=by rw [w64 (by omega) (by omega)]; omega
  have iq:oa+((q:Int)).toNat*1=oa+q:=by simp
  have id':0+((d:Int)).toNat*1=d:=by simp
  refine wby.step0 oa la ca (3*la) m _ xs ta _ tc nx (dtrue (by omega)) (by rw [hq,w1]; exact dtrue2 (by omega) (by omega)) (by rw [hq,w1,iq]; exact Fi (by omega)) (by rw [hm]; exact dtrue hw) (by rw [w2,w3]; exact dtrue2 (by omega) (by omega)) (by rw [w2,w3,id']; exact Fi (by rw [List.length_append,List.length_replicate]; omega)) ?_
  rw [hq,hm,w1,w2,w3,w4,iq,id',←TA (show q<la by omega),byte_at hd q r hr,set_rep,←Th]
  exact wby.go oa la ca m xs ta tc nx h1 h2 hd d (3*q+r+1) (by omega)
theorem wby.lp {N:Nat→Prop} (oa la ca n m:Nat) (i:Int) (xs:List Int) (ta:TypeId) (out:List Int) (tc:TypeId) (nx:Nat) {x:X} {S':St} (h:(wby.lt oa la ca n m i xs ta out tc nx).at=some (x,S')):Lq Tryz.prog N (Ag Tryz.f110 0) (wby.st oa la ca n m i xs ta out tc nx) x S':=by
 obtain ⟨h1,rfl,rfl⟩:=Fw h
 simp only [wby.ok,zB,Nat.ble_eq,zD,KC] at h1
 obtain ⟨rfl,rfl,hn,h2,h3,h4⟩:=h1
 have hn:=zE hn
 subst hn
 have:=wby.go (N:=N) oa la ca m xs ta tc nx h2 h3 h4 (3*la) 0 (by omega)
 rw [show bei 0 (nv3 (seg xs oa la))=[] from rfl,List.append_nil] at this
 exact this
def wby.t:LSpec:=fun S=>match RX.nth S.tmps 0,RX.nth S.tmps 3,RX.nth S.tmps 4,RX.look S.heap 0,RX.look S.heap 65 with
 | .slice (some ⟨0,oa,none⟩) la ca,.slice (some ⟨65,0,none⟩) n m,.int .i64 i,some (.is .i64 xs ta),some (.is .u8 out tc)=>bif Nat.beq S.tmps.length 45 then some (wby.lt oa la ca n m i xs ta out tc S.nxt) else none
 |_,_,_,_,_=>none
theorem wby.lok {N:Nat→Prop} :LOKn Tryz.prog N (Ag Tryz.f110 0) (wby.t):=by
 refine Ge fun S lt x S' ht hat=> ?_
 unfold wby.t at ht
 split at ht
 ·rename_i oa la ca n m i xs ta out tc h0 h3 h4 g0 g65
  cases hb:Nat.beq S.tmps.length 45 with
  |false=>rw [hb] at ht; cases ht
  | true=>
   rw [hb] at ht
   injection ht with ht
   subst ht
   have hb:=zE hb
   exact wby.enter h0 h3 h4 g0 g65 hb (wby.lp _ _ _ _ _ _ _ _ _ _ _ hat)
 ·cases ht
abbrev wbz.st (o:Nat) (n:Nat) (m:Nat) (out:List Int) (tc:TypeId) (xs:List Int) (ta:TypeId) (nx:Nat):St:=⟨gbuild [(3,.slice (some ⟨65,o,none⟩) n m)] 0 45,[(65,.is .u8 out tc),(0,.is .i64 xs ta)],nx⟩
theorem wbz.rnd (o:Nat) (n:Nat) (m:Nat) (out:List Int) (tc:TypeId) (xs:List Int) (ta:TypeId) (nx:Nat):exec Tryz.prog ⟨[],[],[]⟩ [] (hs Tryz.prog ⟨[],[],[]⟩ 3).lf (hs Tryz.prog ⟨[],[],[]⟩ 3).cf (Ag Tryz.f110 2) (wbz.st o n m out tc xs ta nx) (pick 45 [3] [65,0])=
 bif decide (((n:Nat):Int)>0) then bif decide (0≤0)&&decide (0<((n:Nat):Int)) then bif (o+Int.toNat 0*1).blt out.length then bif out.getD (o+Int.toNat 0*1) 0==0 then bif true&&(decide (0≤1)&&decide (1≤((n:Nat):Int))) then lk [3] [65,0] .normal (wbz.st (bif m.beq (Int.toNat 1) then o else o+Int.toNat 1*1) (n-Int.toNat 1) (m-Int.toNat 1) out tc xs ta nx) else none else lk [3] [65,0] (.exit 2) (wbz.st o n m out tc xs ta nx) else none else none else lk [3] [65,0] (.exit 2) (wbz.st o n m out tc xs ta nx):=by kernel_rfl
theorem wbz.step0 {N:Nat→Prop} (o:Nat) (n:Nat) (m:Nat) (out:List Int) (tc:TypeId) (xs:List Int) (ta:TypeId) (nx:Nat) (h0:(decide (((n:Nat):Int)>0))=true) (h1:(decide (0≤0)&&decide (0<((n:Nat):Int)))=true) (h2:((o+Int.toNat 0*1).blt out.length)=true) (h3:(out.getD (o+Int.toNat 0*1) 0==0)=true) (h4:(true&&(decide (0≤1)&&decide (1≤((n:Nat):Int))))=true) {x:X} {S':St} (ih:Lq Tryz.prog N (Ag Tryz.f110 2) (wbz.st (bif m.beq (Int.toNat 1) then o else o+Int.toNat 1*1) (n-Int.toNat 1) (m-Int.toNat 1) out tc xs ta nx) x (S')):Lq Tryz.prog N (Ag Tryz.f110 2) (wbz.st o n m out tc xs ta nx) x (S'):=
 .toK (f:=3) ⟨Ac,Ai,Ad,Ah⟩ Be ((((((wbz.rnd o n m out tc xs ta nx).trans (ct h0)).trans (ct h1)).trans (ct h2)).trans (ct h3)).trans (ct h4)) rfl rfl ih
theorem wbz.stop1 {N:Nat→Prop} (o:Nat) (n:Nat) (m:Nat) (out:List Int) (tc:TypeId) (xs:List Int) (ta:TypeId) (nx:Nat) (h0:(decide (((n:Nat):Int)>0))=true) (h1:(decide (0≤0)&&decide (0<((n:Nat):Int)))=true) (h2:((o+Int.toNat 0*1).blt out.length)=true) (h3:(out.getD (o+Int.toNat 0*1) 0==0)=false):Lq Tryz.prog N (Ag Tryz.f110 2) (wbz.st o n m out tc xs ta nx) (.exit 2) (wbz.st o n m out tc xs ta nx):=
 .endK (f:=3) ⟨Ac,Ai,Ad,Ah⟩ Be (((((wbz.rnd o n m out tc xs ta nx).trans (ct h0)).trans (ct h1)).trans (ct h2)).trans (cf h3)) (fun q=>by cases q) rfl rfl
theorem wbz.stop2 {N:Nat→Prop} (o:Nat) (n:Nat) (m:Nat) (out:List Int) (tc:TypeId) (xs:List Int) (ta:TypeId) (nx:Nat) (h0:(decide (((n:Nat):Int)>0))=false):Lq Tryz.prog N (Ag Tryz.f110 2) (wbz.st o n m out tc xs ta nx) (.exit 2) (wbz.st o n m out tc xs ta nx):=
 .endK (f:=3) ⟨Ac,Ai,Ad,Ah⟩ Be ((wbz.rnd o n m out tc xs ta nx).trans (cf h0)) (fun q=>by cases q) rfl rfl
theorem wbz.enter {N:Nat→Prop} {S S':St} {x:X} {o:Nat} {n:Nat} {m:Nat} {out:List Int} {tc:TypeId} {xs:List Int} {ta:TypeId} (h3:RX.nth S.tmps 3= .slice (some ⟨65,o,none⟩) n m) (g65:RX.look S.heap 65=some (.is .u8 out tc)) (g0:RX.look S.heap 0=some (.is .i64 xs ta)) (hl:S.tmps.length=45) (hk:Lq Tryz.prog N (Ag Tryz.f110 2) (wbz.st o n m out tc xs ta S.nxt) x (S')):Lq Tryz.prog N (Ag Tryz.f110 2) (S) x (S'):=by
 obtain ⟨T,H,n⟩:=S
 exact .enter (fun h=>Gr hl (.cons ⟨h3,bnth h h3⟩ .nil) (.cons ⟨g65,bname h g65,rfl⟩ (.cons ⟨g0,bname h g0,rfl⟩ .nil))) hk
def fz (out:List Int):Nat→Nat→Nat→Nat×Nat×Nat
 |0,o,m=>(o,0,m)
 |n+1,o,m=>bif out.getD o 0==0 then fz out n (bif Nat.beq m 1 then o else o+1) (m-1) else (o,n+1,m)
def wbz.ok (o n m:Nat) (out:List Int):Bool:=Nat.ble (o+n) out.length&&Nat.ble n m
def wbz.lt (o n m:Nat) (out:List Int) (tc:TypeId) (xs:List Int) (ta:TypeId) (nx:Nat):LT:= .got (wbz.ok o n m out) (.exit 2) (wbz.st (fz out n o m).1 (fz out n o m).2.1 (fz out n o m).2.2 out tc xs ta nx)
theorem wbz.go {N:Nat→Prop} (out:List Int) (tc:TypeId) (xs:List Int) (ta:TypeId) (nx:Nat):∀(n o m:Nat),(n=0∨o+n≤out.length)→n≤m→Lq Tryz.prog N (Ag Tryz.f110 2) (wbz.st o n m out tc xs ta nx) (.exit 2) (wbz.st (fz out n o m).1 (fz out n o m).2.1 (fz out n o m).2.2 out tc xs ta nx)
 |0,o,m,_,_=>wbz.stop2 o 0 m out tc xs ta nx rfl
 | n +1,o,m,h,h'=>by
  have hl:o+(n+1)≤out.length:=h.resolve_left (by omega)
  have c0:decide ((((n+1:Nat):Nat):Int)>0)=true:=dtrue (by omega)
  have c1:(decide (0≤0)&&decide (0<(((n+1:Nat):Nat):Int)))=true:=dtrue2 (by omega) (by omega)
  have c2:(o+Int.toNat 0*1).blt out.length=true:=Fi (by simp; omega)
  have e0:o+Int.toNat 0*1=o:=by simp
  unfold fz
  cases hx:out.getD o 0==0 with
  | true=>
   refine wbz.step0 o (n+1) m out tc xs ta nx c0 c1 c2 (by rw [e0]; exact hx) (by simp; omega) ?_
   rw [show (Int.toNat 1)=1 from rfl,show n+1-1=n by omega,show o+1*1=o+1 by omega]
   refine wbz.go out tc xs ta nx n _ (m-1) ?_ (by omega)
   cases hm:Nat.beq m 1 with
   |true=>have:=zE hm; exact .inl (by omega)
   |false=>exact .inr (by simp only [cond_false]; omega)
  |false=>exact wbz.stop1 o (n+1) m out tc xs ta nx c0 c1 c2 (by rw [e0]; exact hx)
theorem wbz.lp {N:Nat→Prop} (o n m:Nat) (out:List Int) (tc:TypeId) (xs:List Int) (ta:TypeId) (nx:Nat) {x:X} {S':St} (h:(wbz.lt o n m out tc xs ta nx).at=some (x,S')):Lq Tryz.prog N (Ag Tryz.f110 2) (wbz.st o n m out tc xs ta nx) x S':=by
 obtain ⟨h1,rfl,rfl⟩:=Fw h
 simp only [wbz.ok,zB,Nat.ble_eq] at h1
 exact wbz.go out tc xs ta nx n o m (.inr h1.1) h1.2
def wbz.t:LSpec:=fun S=>match RX.nth S.tmps 3,RX.look S.heap 65,RX.look S.heap 0 with
 | .slice (some ⟨65,o,none⟩) n m,some (.is .u8 out tc),some (.is .i64 xs ta)=>bif Nat.beq S.tmps.length 45 then some (wbz.lt o n m out tc xs ta S.nxt) else none
 |_,_,_=>none
theorem wbz.lok {N:Nat→Prop} :LOKn Tryz.prog N (Ag Tryz.f110 2) (wbz.t):=by
 refine Ge fun S lt x S' ht hat=> ?_
 unfold wbz.t at ht
 split at ht
 ·rename_i o n m out tc xs ta h3 g65 g0
  cases hb:Nat.beq S.tmps.length 45 with
  |false=>rw [hb] at ht; cases ht
  | true=>
   rw [hb] at ht
   injection ht with ht
   subst ht
   have hb:=zE hb
   exact wbz.enter h3 g65 g0 hb (wbz.lp _ _ _ _ _ _ _ _ hat)
 ·cases ht
theorem fz_tz:∀(n o m:Nat) (bs:List UInt8),o+n≤bs.length→n≤m→(((bs.map fun b=>(b.toNat:Int)).drop (fz (bs.map fun b=>(b.toNat:Int)) n o m).1).take (fz (bs.map fun b=>(b.toNat:Int)) n o m).2.1)=(tz ((bs.drop o).take n)).map fun b=>(b.toNat:Int)
 |0,o,m,bs,h,h'=>by simp [fz,tz]
 | n + 1,o,m,bs,h,h'=>by
  have e:(bs.drop o).take (n+1)=bs[o]::(bs.drop (o+1)).take n:=by
   rw [List.drop_eq_getElem_cons (by omega),List.take_succ_cons]
  have g:(bs.map fun b=>(b.toNat:Int)).getD o 0=(bs[o].toNat:Int):=by
   rw [List.getD_eq_getElem?_getD,List.getElem?_map,List.getElem?_eq_getElem (by omega)]; rfl
  unfold fz
  rw [g,e]
  have hz:(((bs[o].toNat:Nat):Int)==0)=(bs[o].toNat==0):=by
   cases hh:bs[o].toNat==0 with
   |true=>simpa using hh
   |false=>simp at hh ⊢; exact hh
  rw [hz]
  unfold tz
  cases hb:bs[o].toNat==0 with
  | true=>
   simp only [cond_true]
   cases hm:Nat.beq m 1 with
   | true=>
    have:=zE hm
    have hn:n=0:=by omega
    subst hn
    simp [fz,tz]
   |false=>exact fz_tz n (o+1) (m-1) bs (by omega) (by omega)
  | false=>
   simp only [cond_false]
   rw [←e,List.map_take,List.map_drop]
def n3 (s:ByteArray):Nat:=(s.size+2)/3
def digits.sp:HSpec
 |[.string s],[]=>some (Nat.ble s.size 8589934592,.slice (some ⟨0,0,none⟩) (n3 s) (n3 s),[.is .i64 (dg3 (n3 s) (bv s.data.toList)) 3])
 |_,_=>none
theorem wrdg.run (s:ByteArray):xfnN Tryz.prog ⟨[],[],[]⟩ [(0,wdg.t)] 10 Tryz.f88 [.string s] [] [80]=
 bif decide (0≤i64.wrap ((i64.wrap (((s.size:Nat):Int)+2)).tdiv 3))&&(decide (i64.wrap ((i64.wrap (((s.size:Nat):Int)+2)).tdiv 3)≤i64.wrap ((i64.wrap (((s.size:Nat):Int)+2)).tdiv 3))&&(decide (i64.wrap ((i64.wrap (((s.size:Nat):Int)+2)).tdiv 3)≤140737488355328)&&decide (((7+1:Nat):Int)*i64.wrap ((i64.wrap (((s.size:Nat):Int)+2)).tdiv 3)≤140737488355328))) then bif wdg.ok s (i64.wrap ((i64.wrap (((s.size:Nat):Int)+2)).tdiv 3)).toNat 0 (List.replicate ((i64.wrap ((i64.wrap (((s.size:Nat):Int)+2)).tdiv 3)).toNat*1) 0) then some ((Value.slice (some {block:=80,off:=0}) (i64.wrap ((i64.wrap (((s.size:Nat):Int)+2)).tdiv 3)).toNat (i64.wrap ((i64.wrap (((s.size:Nat):Int)+2)).tdiv 3)).toNat,[Blk.is i64 (dg3 (i64.wrap ((i64.wrap (((s.size:Nat):Int)+2)).tdiv 3)).toNat (bv s.data.toList)) 3])) else none else none:=by kernel_rfl
theorem digits.ok:SOK Tryz.prog 88 digits.sp:=by
 refine Hg (E:=⟨[],[],[]⟩) (L:=[(0,wdg.t)]) ⟨Ac,Ai,Ad,Ah⟩ 10 Tryz.func88 (by decide) rfl (Ga rfl rfl wdg.lok) fun vs bl v bl' h=> ?_
 unfold digits.sp at h
 split at h
 ·rename_i s
  simp only [zS,zP] at h
  obtain ⟨h1,rfl,rfl⟩:=h
  have h1:=zL h1
  have e1:i64.wrap ((i64.wrap ((s.size:Int)+2)).tdiv 3)=((n3 s:Nat):Int):=by
   unfold n3
   rw [w64 (n:=(s.size:Int)+2) (by omega) (by omega),Int.tdiv_eq_ediv_of_nonneg (by omega),w64 (by omega) (by omega)]; omega
  have hn:n3 s≤8589934592:=by unfold n3; omega
  refine ⟨[80],(wrdg.run s).trans ?_,by simp [okV,Nat.blt],rfl,Ay rfl,List.nodup_cons.2 ⟨by simp,List.nodup_nil⟩,by simp⟩
  rw [e1,Int.toNat_natCast,ct,ct]
  ·rfl
  ·simp only [wdg.ok,zB,Nat.ble_eq,zD]
   exact ⟨trivial,by rw [Nat.mul_one],by unfold n3; omega,by omega⟩
  ·simp only [zB,zD]; omega
 ·cases h
def w3ok (o l:Nat) (xs:List Int):Bool:=Nat.ble (o+l) xs.length&&(Nat.ble l 8589934592&&dig3B xs)
def rbytes.sp:HSpec
 |[.slice (some ⟨0,o,none⟩) l c],[.is .i64 xs ty]=>some (w3ok o l xs,.string (str (enc (nv3 (seg xs o l)))),[.is .i64 xs ty])
 |_,_=>none
theorem fz_le (out:List Int):∀(n o m:Nat),o+n≤out.length→n≤m→(fz out n o m).1+(fz out n o m).2.1≤out.length
 |0,o,m,h,_=>by simpa [fz] using h
 | n +1,o,m,h,h'=>by
  unfold fz
  cases out.getD o 0==0 with
  | true=>
   simp only [cond_true]
   refine fz_le out n _ (m-1) ?_ (by omega)
   cases Nat.beq m 1<;>simp only [cond_true,cond_false]<;>omega
  |false=>exact h
theorem wrby.run (o l c:Nat) (xs:List Int) (ty:TypeId):xfn Tryz.prog ⟨[],[],[]⟩ [(0,wby.t),(2,wbz.t)] 10 Tryz.f110 [.slice (some ⟨0,o,none⟩) l c] [.is .i64 xs ty]=
 bif decide (0≤i64.wrap (3*((l:Nat):Int)))&&(decide (i64.wrap (3*((l:Nat):Int))≤i64.wrap (3*((l:Nat):Int)))&&(decide (i64.wrap (3*((l:Nat):Int))≤140737488355328)&&decide (((0+1:Nat):Int)*i64.wrap (3*((l:Nat):Int))≤140737488355328))) then bif wby.ok o l (i64.wrap (3*((l:Nat):Int))).toNat 0 xs (List.replicate ((i64.wrap (3*((l:Nat):Int))).toNat*1) 0) then bif wbz.ok 0 (i64.wrap (3*((l:Nat):Int))).toNat (i64.wrap (3*((l:Nat):Int))).toNat (bei (i64.wrap (3*((l:Nat):Int))).toNat (nv3 (seg xs o l))) then bif ((fz (bei (i64.wrap (3*((l:Nat):Int))).toNat (nv3 (seg xs o l))) (i64.wrap (3*((l:Nat):Int))).toNat 0 (i64.wrap (3*((l:Nat):Int))).toNat).fst+(fz (bei (i64.wrap (3*((l:Nat):Int))).toNat (nv3 (seg xs o l))) (i64.wrap (3*((l:Nat):Int))).toNat 0 (i64.wrap (3*((l:Nat):Int))).toNat).snd.fst).ble (bei (i64.wrap (3*((l:Nat):Int))).toNat (nv3 (seg xs o l))).length then some ((Value.string {data:=⟨List.map (fun n=>UInt8.ofNat n.toNat) (List.take (fz (bei (i64.wrap (3*((l:Nat):Int))).toNat (nv3 (seg xs o l))) (i64.wrap (3*((l:Nat):Int))).toNat 0 (i64.wrap (3*((l:Nat):Int))).toNat).snd.fst (List.drop (fz (bei (i64.wrap (3*((l:Nat):Int))).toNat (nv3 (seg xs o l))) (i64.wrap (3*((l:Nat):Int))).toNat 0 (i64.wrap (3*((l:Nat):Int))).toNat).fst (bei (i64.wrap (3*((l:Nat):Int))).toNat (nv3 (seg xs o l)))))⟩},[Blk.is i64 xs ty])) else none else none else none else none:=by kernel_rfl
theorem rbytes.ok:SOK Tryz.prog 110 rbytes.sp:=by
 refine Cu (E:=⟨[],[],[]⟩) (L:=[(0,wby.t),(2,wbz.t)]) ⟨Ac,Ai,Ad,Ah⟩ 10 Tryz.func110 (by decide) rfl (Hm rfl (Fv rfl wby.lok (Fv rfl wbz.lok Be))) fun vs bl v bl' h=> ?_
 unfold rbytes.sp at h
 split at h
 ·rename_i o l c xs ty
  simp only [zS,zP] at h
  obtain ⟨h1,rfl,rfl⟩:=h
  simp only [w3ok,zB,Nat.ble_eq,KC] at h1
  obtain ⟨h1,h2,h3⟩:=h1
  have h3:=J8 h3 o l
  have hw:i64.wrap (3*((l:Nat):Int))=((3*l:Nat):Int):=by rw [w64 (by omega) (by omega)]; omega
  have hL:(bei (3*l) (nv3 (seg xs o l))).length=3*l:=QO _ _
  have hV0:=IX h3
  have hV:nv3 (seg xs o l)<p8 (3*l):=by
   have:=OI h3
   rw [Fh h1] at this
   rw [Kx]; exact this
  refine ⟨(wrby.run o l c xs ty).trans ?_,by simp [okV],clo_spec 8 _ rfl,Ay rfl⟩
  rw [hw,Int.toNat_natCast,ct,ct,ct,ct]
  ·have hz:=fz_tz (3*l) 0 (3*l) (be (3*l) (nv3 (seg xs o l))) (by rw [I7]; omega) (Nat.le_refl _)
   have e0:(be (3*l) (nv3 (seg xs o l))).take (3*l)=be (3*l) (nv3 (seg xs o l)):=List.take_of_length_le (by rw [I7]; exact Nat.le_refl _)
   rw [List.drop_zero,e0] at hz
   change List.take _ (List.drop _ (bei (3*l) (nv3 (seg xs o l))))=_ at hz
   change some (Value.string ⟨⟨_⟩⟩,_)=_
   have e:List.map (fun n:Int=>UInt8.ofNat n.toNat) (List.take (fz (bei (3*l) (nv3 (seg xs o l))) (3*l) 0 (3*l)).2.1 (List.drop (fz (bei (3*l) (nv3 (seg xs o l))) (3*l) 0 (3*l)).1 (bei (3*l) (nv3 (seg xs o l)))))=enc (nv3 (seg xs o l)):=by
    refine (congrArg (List.map (fun n:Int=>UInt8.ofNat n.toNat)) hz).trans ?_
    rw [List.map_map,OW hV0 hV]
    calc List.map _ (enc (nv3 (seg xs o l)))=List.map id (enc (nv3 (seg xs o l))):=List.map_congr_left fun b _=>by simp
     _=_:=by simp
   rw [e]; rfl
  ·rw [Nat.ble_eq]; exact fz_le _ _ _ _ (by rw [hL]; omega) (Nat.le_refl _)
  ·simp only [wbz.ok,zB,Nat.ble_eq,hL]; omega
  ·simp only [wby.ok,zB,Nat.ble_eq,zD,Nat.beq_eq,KC]
   exact ⟨trivial,by rw [Nat.mul_one],trivial,h1,by omega,h3⟩
  ·simp only [zB,zD]; omega
 ·cases h
theorem Ix {o l:Nat} {xs:List Int} :w3ok o l xs=true↔o+l≤xs.length∧l≤8589934592∧dig3 xs:=by
 simp only [w3ok,zB,Nat.ble_eq,KC]
theorem Kz {xs:List Int} {o l:Nat} (h:o+l<xs.length):nv3 (seg xs o (l+1))=nv3 (seg xs o l)+pw3 l*xs.getD (o+l) 0:=by
 rw [Kn h,Mx,Fh (by omega)]
 simp [nv3]
abbrev wor.st (oa:Nat) (la:Nat) (ca:Nat) (ob:Nat) (lb:Nat) (cb:Nat) (i:Int) (xs:List Int) (ta:TypeId) (ys:List Int) (tb:TypeId) (nx:Nat):St:=⟨gbuild [(0,.slice (some ⟨0,oa,none⟩) la ca),(1,.slice (some ⟨1,ob,none⟩) lb cb),(5,.int .i64 i)] 0 41,[(0,.is .i64 xs ta),(1,.is .i64 ys tb)],nx⟩
theorem wor.rnd (oa:Nat) (la:Nat) (ca:Nat) (ob:Nat) (lb:Nat) (cb:Nat) (i:Int) (xs:List Int) (ta:TypeId) (ys:List Int) (tb:TypeId) (nx:Nat):exec Tryz.prog ⟨[],[],[]⟩ [] (hs Tryz.prog ⟨[],[],[]⟩ 3).lf (hs Tryz.prog ⟨[],[],[]⟩ 3).cf (Ag Tryz.f89 0) (wor.st oa la ca ob lb cb i xs ta ys tb nx) (pick 41 [0,1,4,5] [0,1])=
 bif decide (i≥0) then bif decide (0≤i)&&decide (i<((la:Nat):Int)) then bif (oa+i.toNat*1).blt xs.length then bif decide (0≤i)&&decide (i<((lb:Nat):Int)) then bif (ob+i.toNat*1).blt ys.length then bif xs.getD (oa+i.toNat*1) 0 !=ys.getD (ob+i.toNat*1) 0 then bif decide (0≤i)&&decide (i<((la:Nat):Int)) then bif (oa+i.toNat*1).blt xs.length then bif decide (0≤i)&&decide (i<((lb:Nat):Int)) then bif (ob+i.toNat*1).blt ys.length then bif decide (xs.getD (oa+i.toNat*1) 0<ys.getD (ob+i.toNat*1) 0) then some ((X.ret,[Value.slice (some {block:=0,off:=oa}) la ca,Value.slice (some {block:=1,off:=ob}) lb cb,Value.int i64 (-1),Value.int i64 i],[some (Blk.is i64 xs ta),some (Blk.is i64 ys tb)])) else some ((X.ret,[Value.slice (some {block:=0,off:=oa}) la ca,Value.slice (some {block:=1,off:=ob}) lb cb,Value.int i64 1,Value.int i64 i],[some (Blk.is i64 xs ta),some (Blk.is i64 ys tb)])) else none else none else none else none else lk [0,1,4,5] [0,1] .normal (wor.st oa la ca ob lb cb (i64.wrap (i-1)) xs ta ys tb nx) else none else none else none else none else lk [0,1,4,5] [0,1] (.exit 0) (wor.st oa la ca ob lb cb i xs ta ys tb nx):=by kernel_rfl
theorem wor.stop0 {N:Nat→Prop} (oa:Nat) (la:Nat) (ca:Nat) (ob:Nat) (lb:Nat) (cb:Nat) (i:Int) (xs:List Int) (ta:TypeId) (ys:List Int) (tb:TypeId) (nx:Nat) (h0:(decide (i≥0))=true) (h1:(decide (0≤i)&&decide (i<((la:Nat):Int)))=true) (h2:((oa+i.toNat*1).blt xs.length)=true) (h3:(decide (0≤i)&&decide (i<((lb:Nat):Int)))=true) (h4:((ob+i.toNat*1).blt ys.length)=true) (h5:(xs.getD (oa+i.toNat*1) 0 !=ys.getD (ob+i.toNat*1) 0)=true) (h6:(decide (0≤i)&&decide (i<((la:Nat):Int)))=true) (h7:((oa+i.toNat*1).blt xs.length)=true) (h8:(decide (0≤i)&&decide (i<((lb:Nat):Int)))=true) (h9:((ob+i.toNat*1).blt ys.length)=true) (h10:(decide (xs.getD (oa+i.toNat*1) 0<ys.getD (ob+i.toNat*1) 0))=true):Lq Tryz.prog N (Ag Tryz.f89 0) (wor.st oa la ca ob lb cb i xs ta ys tb nx) (.ret) (⟨gbuild [(4,Value.int i64 (-1))] 0 41,[(0,Blk.is i64 xs ta),(1,Blk.is i64 ys tb)],nx⟩):=
 .stop (f:=3) ⟨Ac,Ai,Ad,Ah⟩ Be ((((((((((((wor.rnd oa la ca ob lb cb i xs ta ys tb nx).trans (ct h0)).trans (ct h1)).trans (ct h2)).trans (ct h3)).trans (ct h4)).trans (ct h5)).trans (ct h6)).trans (ct h7)).trans (ct h8)).trans (ct h9)).trans (ct h10)) (fun q=>by cases q) (fun h=>q_of (.cons ⟨rfl,bint⟩ .nil) (.cons ⟨rfl,(bname h (m:=0) rfl),rfl⟩ (.cons ⟨rfl,(bname h (m:=1) rfl),rfl⟩ .nil)))
theorem wor.stop1 {N:Nat→Prop} (oa:Nat) (la:Nat) (ca:Nat) (ob:Nat) (lb:Nat) (cb:Nat) (i:Int) (xs:List Int) (ta:TypeId) (ys:List Int) (tb:TypeId) (nx:Nat) (h0:(decide (i≥0))=true) (h1:(decide (0≤i)&&decide (i<((la:Nat):Int)))=true) (h2:((oa+i.toNat*1).blt xs.length)=true) (h3:(decide (0≤i)&&decide (i<((lb:Nat):Int)))=true) (h4:((ob+i.toNat*1).blt ys.length)=true) (h5:(xs.getD (oa+i.toNat*1) 0 !=ys.getD (ob+i.toNat*1) 0)=true) (h6:(decide (0≤i)&&decide (i<((la:Nat):Int)))=true) (h7:((oa+i.toNat*1).blt xs.length)=true) (h8:(decide (0≤i)&&decide (i<((lb:Nat):Int)))=true) (h9:((ob+i.toNat*1).blt ys.length)=true) (h10:(decide (xs.getD (oa+i.toNat*1) 0<ys.getD (ob+i.toNat*1) 0))=false):Lq Tryz.prog N (Ag Tryz.f89 0) (wor.st oa la ca ob lb cb i xs ta ys tb nx) (.ret) (⟨gbuild [(4,Value.int i64 1)] 0 41,[(0,Blk.is i64 xs ta),(1,Blk.is i64 ys tb)],nx⟩):=
 .stop (f:=3) ⟨Ac,Ai,Ad,Ah⟩ Be ((((((((((((wor.rnd oa la ca ob lb cb i xs ta ys tb nx).trans (ct h0)).trans (ct h1)).trans (ct h2)).trans (ct h3)).trans (ct h4)).trans (ct h5)).trans (ct h6)).trans (ct h7)).trans (ct h8)).trans (ct h9)).trans (cf h10)) (fun q=>by cases q) (fun h=>q_of (.cons ⟨rfl,bint⟩ .nil) (.cons ⟨rfl,(bname h (m:=0) rfl),rfl⟩ (.cons ⟨rfl,(bname h (m:=1) rfl),rfl⟩ .nil)))
theorem wor.step2 {N:Nat→Prop} (oa:Nat) (la:Nat) (ca:Nat) (ob:Nat) (lb:Nat) (cb:Nat) (i:Int) (xs:List Int) (ta:TypeId) (ys:List Int) (tb:TypeId) (nx:Nat) (h0:(decide (i≥0))=true) (h1:(decide (0≤i)&&decide (i<((la:Nat):Int)))=true) (h2:((oa+i.toNat*1).blt xs.length)=true) (h3:(decide (0≤i)&&decide (i<((lb:Nat):Int)))=true) (h4:((ob+i.toNat*1).blt ys.length)=true) (h5:(xs.getD (oa+i.toNat*1) 0 !=ys.getD (ob+i.toNat*1) 0)=false) {x:X} {S':St} (ih:Lq Tryz.prog N (Ag Tryz.f89 0) (wor.st oa la ca ob lb cb (i64.wrap (i-1)) xs ta ys tb nx) x (S')):Lq Tryz.prog N (Ag Tryz.f89 0) (wor.st oa la ca ob lb cb i xs ta ys tb nx) x (S'):=
 .toK (f:=3) ⟨Ac,Ai,Ad,Ah⟩ Be (((((((wor.rnd oa la ca ob lb cb i xs ta ys tb nx).trans (ct h0)).trans (ct h1)).trans (ct h2)).trans (ct h3)).trans (ct h4)).trans (cf h5)) rfl rfl ih
theorem wor.stop3 {N:Nat→Prop} (oa:Nat) (la:Nat) (ca:Nat) (ob:Nat) (lb:Nat) (cb:Nat) (i:Int) (xs:List Int) (ta:TypeId) (ys:List Int) (tb:TypeId) (nx:Nat) (h0:(decide (i≥0))=false):Lq Tryz.prog N (Ag Tryz.f89 0) (wor.st oa la ca ob lb cb i xs ta ys tb nx) (.exit 0) (wor.st oa la ca ob lb cb i xs ta ys tb nx):=
 .endK (f:=3) ⟨Ac,Ai,Ad,Ah⟩ Be ((wor.rnd oa la ca ob lb cb i xs ta ys tb nx).trans (cf h0)) (fun q=>by cases q) rfl rfl
theorem wor.enter {N:Nat→Prop} {S S':St} {x:X} {oa:Nat} {la:Nat} {ca:Nat} {ob:Nat} {lb:Nat} {cb:Nat} {i:Int} {xs:List Int} {ta:TypeId} {ys:List Int} {tb:TypeId} (h0:RX.nth S.tmps 0= .slice (some ⟨0,oa,none⟩) la ca) (h1:RX.nth S.tmps 1= .slice (some ⟨1,ob,none⟩) lb cb) (h5:RX.nth S.tmps 5= .int .i64 i) (g0:RX.look S.heap 0=some (.is .i64 xs ta)) (g1:RX.look S.heap 1=some (.is .i64 ys tb)) (hl:S.tmps.length=41) (hk:Lq Tryz.prog N (Ag Tryz.f89 0) (wor.st oa la ca ob lb cb i xs ta ys tb S.nxt) x (S')):Lq Tryz.prog N (Ag Tryz.f89 0) (S) x (S'):=by
 obtain ⟨T,H,n⟩:=S
 exact .enter (fun h=>Gr hl (.cons ⟨h0,bnth h h0⟩ (.cons ⟨h1,bnth h h1⟩ (.cons ⟨h5,bnth h h5⟩ .nil))) (.cons ⟨g0,bname h g0,rfl⟩ (.cons ⟨g1,bname h g1,rfl⟩ .nil))) hk
def wor.ok (oa la ob lb:Nat) (i:Int) (xs ys:List Int):Bool:=decide (i+1=(la:Int))&&(decide (la=lb)&&(w3ok oa la xs&&w3ok ob lb ys))
def wor.r (v:Int) (xs:List Int) (ta:TypeId) (ys:List Int) (tb:TypeId) (nx:Nat):St:=⟨gbuild [(4,.int .i64 v)] 0 41,[(0,.is .i64 xs ta),(1,.is .i64 ys tb)],nx⟩
def wor.tr (ok:Bool) (oa la ca ob lb cb k:Nat) (xs:List Int) (ta:TypeId) (ys:List Int) (tb:TypeId) (nx:Nat):LT:=
 .br (decide (nv3 (seg xs oa k)<nv3 (seg ys ob k))) (.got ok .ret (wor.r (-1) xs ta ys tb nx)) (.br (decide (nv3 (seg xs oa k)>nv3 (seg ys ob k))) (.got ok .ret (wor.r 1 xs ta ys tb nx)) (.got ok (.exit 0) (wor.st oa la ca ob lb cb (-1) xs ta ys tb nx)))
def wor.lt (oa la ca ob lb cb:Nat) (i:Int) (xs:List Int) (ta:TypeId) (ys:List Int) (tb:TypeId) (nx:Nat):LT:=wor.tr (wor.ok oa la ob lb i xs ys) oa la ca ob lb cb la xs ta ys tb nx
theorem wor.go {N:Nat→Prop} (oa la ca ob lb cb:Nat) (xs:List Int) (ta:TypeId) (ys:List Int) (tb:TypeId) (nx:Nat) (h1:oa+la≤xs.length) (h2:ob+lb≤ys.length) (h3:la=lb) (h4:la≤8589934592) (hx:dig3 xs) (hy:dig3 ys):∀(k:Nat),k≤la→∀(x:X) (S':St),(wor.tr true oa la ca ob lb cb k xs ta ys tb nx).at=some (x,S')→Lq Tryz.prog N (Ag Tryz.f89 0) (wor.st oa la ca ob lb cb ((k:Int)-1) xs ta ys tb nx) x S'
 | 0,_,x,S',h=>by
  simp only [wor.tr,Gw,nv,LT.at,Int.lt_irrefl,gt_iff_lt,decide_false,cond_false,cond_true,zS,zP] at h
  obtain ⟨rfl,rfl⟩:=h
  exact wor.stop3 _ _ _ _ _ _ _ _ _ _ _ _ rfl
 | k + 1,hk,x,S',h=>by
  have e0:(((k+1:Nat):Int)-1)=(k:Int):=by omega
  have e1:i64.wrap ((k:Int)-1)=(k:Int)-1:=w64 (by omega) (by omega)
  have ea:oa+((k:Int)).toNat*1=oa+k:=by simp
  have eb:ob+((k:Int)).toNat*1=ob+k:=by simp
  have c1:(decide (0≤(k:Int))&&decide ((k:Int)<(la:Int)))=true:=dtrue2 (by omega) (by omega)
  have c2:(oa+((k:Int)).toNat*1).blt xs.length=true:=by rw [ea]; exact Fi (by omega)
  have c3:(decide (0≤(k:Int))&&decide ((k:Int)<(lb:Int)))=true:=dtrue2 (by omega) (by omega)
  have c4:(ob+((k:Int)).toNat*1).blt ys.length=true:=by rw [eb]; exact Fi (by omega)
  have hA0:=IX (J8 hx oa k)
  have hB0:=IX (J8 hy ob k)
  have hA:=OI (J8 hx oa k)
  have hB:=OI (J8 hy ob k)
  rw [Fh (by omega)] at hA hB
  have hp:=OF k
  unfold wor.tr at h
  rw [Kz (by omega),Kz (by omega)] at h
  have ih:=wor.go (N:=N) oa la ca ob lb cb xs ta ys tb nx h1 h2 h3 h4 hx hy k (by omega) x S'
  unfold wor.tr at ih
  rw [e0]
  rcases Int.lt_trichotomy (xs.getD (oa+k) 0) (ys.getD (ob+k) 0) with hc|hc|hc
  ·have hm:pw3 k*(xs.getD (oa+k) 0+1)≤pw3 k*ys.getD (ob+k) 0:=Int.mul_le_mul_of_nonneg_left (by omega) (by omega)
   rw [Int.mul_add,Int.mul_one] at hm
   rw [decide_eq_true (show nv3 (seg xs oa k)+pw3 k*xs.getD (oa+k) 0<nv3 (seg ys ob k)+pw3 k*ys.getD (ob+k) 0 by omega)] at h
   simp only [LT.at,cond_true,zS,zP] at h
   obtain ⟨rfl,rfl⟩:=h
   exact wor.stop0 _ _ _ _ _ _ _ _ _ _ _ _ (dtrue (by omega)) c1 c2 c3 c4 (by rw [ea,eb]; exact Em (by omega)) c1 c2 c3 c4 (by rw [ea,eb]; exact dtrue hc)
  ·rw [hc] at h
   have q1:decide (nv3 (seg xs oa k)+pw3 k*ys.getD (ob+k) 0<nv3 (seg ys ob k)+pw3 k*ys.getD (ob+k) 0)=decide (nv3 (seg xs oa k)<nv3 (seg ys ob k)):=by
    by_cases hq:nv3 (seg xs oa k)<nv3 (seg ys ob k)
    ·rw [dtrue hq]; exact dtrue (by omega)
    ·rw [dfalse hq]; exact dfalse (by omega)
   have q2:decide (nv3 (seg xs oa k)+pw3 k*ys.getD (ob+k) 0>nv3 (seg ys ob k)+pw3 k*ys.getD (ob+k) 0)=decide (nv3 (seg xs oa k)>nv3 (seg ys ob k)):=by
    by_cases hq:nv3 (seg xs oa k)>nv3 (seg ys ob k)
    ·rw [dtrue hq]; exact dtrue (by omega)
    ·rw [dfalse hq]; exact dfalse (by omega)
   rw [q1,q2] at h
   refine wor.step2 _ _ _ _ _ _ _ _ _ _ _ _ (dtrue (by omega)) c1 c2 c3 c4 (by rw [ea,eb,hc]; exact bne_self_eq_false _) ?_
   rw [e1]
   exact ih h
  ·have hm:pw3 k*(ys.getD (ob+k) 0+1)≤pw3 k*xs.getD (oa+k) 0:=Int.mul_le_mul_of_nonneg_left (by omega) (by omega)
   rw [Int.mul_add,Int.mul_one] at hm
   rw [decide_eq_false (show ¬nv3 (seg xs oa k)+pw3 k*xs.getD (oa+k) 0<nv3 (seg ys ob k)+pw3 k*ys.getD (ob+k) 0 by omega),decide_eq_true (show nv3 (seg xs oa k)+pw3 k*xs.getD (oa+k) 0>nv3 (seg ys ob k)+pw3 k*ys.getD (ob+k) 0 by omega)] at h
   simp only [LT.at,cond_true,cond_false,zS,zP] at h
   obtain ⟨rfl,rfl⟩:=h
   exact wor.stop1 _ _ _ _ _ _ _ _ _ _ _ _ (dtrue (by omega)) c1 c2 c3 c4 (by rw [ea,eb]; exact Em (by omega)) c1 c2 c3 c4 (by rw [ea,eb]; exact dfalse (by omega))
theorem wor.lp {N:Nat→Prop} (oa la ca ob lb cb:Nat) (i:Int) (xs:List Int) (ta:TypeId) (ys:List Int) (tb:TypeId) (nx:Nat) {x:X} {S':St} (h:(wor.lt oa la ca ob lb cb i xs ta ys tb nx).at=some (x,S')):Lq Tryz.prog N (Ag Tryz.f89 0) (wor.st oa la ca ob lb cb i xs ta ys tb nx) x S':=by
 unfold wor.lt at h
 cases hok:wor.ok oa la ob lb i xs ys with
 | false=>
  exfalso
  rw [hok] at h
  unfold wor.tr at h
  simp only [LT.at] at h
  revert h
  cases decide (nv3 (seg xs oa la)<nv3 (seg ys ob la))<;>cases decide (nv3 (seg xs oa la)>nv3 (seg ys ob la))<;>simp
 | true=>
  rw [hok] at h
  simp only [wor.ok,zB,zD,Ix] at hok
  obtain ⟨h1,h2,⟨h3,h4,h5⟩,h6,h7,h8⟩:=hok
  have:i=((la:Nat):Int)-1:=by omega
  subst this
  exact wor.go oa la ca ob lb cb xs ta ys tb nx h3 h6 h2 h4 h5 h8 la (Nat.le_refl _) x S' h
def wor.t:LSpec:=fun S=>match RX.nth S.tmps 0,RX.nth S.tmps 1,RX.nth S.tmps 5,RX.look S.heap 0,RX.look S.heap 1 with
 | .slice (some ⟨0,oa,none⟩) la ca,.slice (some ⟨1,ob,none⟩) lb cb,.int .i64 i,some (.is .i64 xs ta),some (.is .i64 ys tb)=>bif Nat.beq S.tmps.length 41 then some (wor.lt oa la ca ob lb cb i xs ta ys tb S.nxt) else none
 |_,_,_,_,_=>none
theorem wor.lok {N:Nat→Prop} :LOKn Tryz.prog N (Ag Tryz.f89 0) (wor.t):=by
 refine Ge fun S lt x S' ht hat=> ?_
 unfold wor.t at ht
 split at ht
 ·rename_i oa la ca ob lb cb i xs ta ys tb h0 h1 h5 g0 g1
  cases hb:Nat.beq S.tmps.length 41 with
  |false=>rw [hb] at ht; cases ht
  | true=>
   rw [hb] at ht
   injection ht with ht
   subst ht
   have hb:=zE hb
   exact wor.enter h0 h1 h5 g0 g1 hb (wor.lp _ _ _ _ _ _ _ _ _ _ _ _ hat)
 ·cases ht
def ordI (la lb:Nat) (a b:Int):Int:=if la=lb then (if a<b then -1 else if a>b then 1 else 0) else if la<lb then -1 else 1
def order.sp:HSpec
 |[.slice (some ⟨0,oa,none⟩) la ca,.slice (some ⟨1,ob,none⟩) lb cb],[.is .i64 xs 3,.is .i64 ys 3]=>some (w3ok oa la xs&&w3ok ob lb ys,.int .i64 (ordI la lb (nv3 (seg xs oa la)) (nv3 (seg ys ob lb))),[.is .i64 xs 3,.is .i64 ys 3])
 |_,_=>none
theorem order.run (oa la ca ob lb cb:Nat) (xs ys:List Int):xfn Tryz.prog ⟨[],[],[]⟩ [(0,wor.t)] 10 Tryz.f89 [.slice (some ⟨0,oa,none⟩) la ca,.slice (some ⟨1,ob,none⟩) lb cb] [.is .i64 xs 3,.is .i64 ys 3]=
 bif (la:Int) !=(lb:Int) then bif decide ((la:Int)<(lb:Int)) then some (.int .i64 (-1),[.is .i64 xs 3,.is .i64 ys 3]) else some (.int .i64 1,[.is .i64 xs 3,.is .i64 ys 3]) else bif decide (nv3 (seg xs oa la)<nv3 (seg ys ob la)) then bif wor.ok oa la ob lb (i64.wrap ((la:Int)-1)) xs ys then some (.int .i64 (-1),[.is .i64 xs 3,.is .i64 ys 3]) else none else bif decide (nv3 (seg xs oa la)>nv3 (seg ys ob la)) then bif wor.ok oa la ob lb (i64.wrap ((la:Int)-1)) xs ys then some (.int .i64 1,[.is .i64 xs 3,.is .i64 ys 3]) else none else bif wor.ok oa la ob lb (i64.wrap ((la:Int)-1)) xs ys then some (.int .i64 0,[.is .i64 xs 3,.is .i64 ys 3]) else none:=by kernel_rfl
theorem order.ok:SOK Tryz.prog 89 order.sp:=by
 refine Cu (E:=⟨[],[],[]⟩) (L:=[(0,wor.t)]) ⟨Ac,Ai,Ad,Ah⟩ 10 Tryz.func89 (by decide) rfl (Ga rfl rfl wor.lok) fun vs bl v bl' h=> ?_
 unfold order.sp at h
 split at h
 ·rename_i oa la ca ob lb cb xs ys
  simp only [zS,zP,zB,Ix] at h
  obtain ⟨⟨⟨h1,h2,h3⟩,h4,h5,h6⟩,rfl,rfl⟩:=h
  refine ⟨(order.run oa la ca ob lb cb xs ys).trans ?_,by simp [okV,Nat.blt],clo_spec 8 _ rfl,Ay rfl⟩
  unfold ordI
  by_cases hl:la=lb
  ·subst hl
   have hok:wor.ok oa la ob la (i64.wrap ((la:Int)-1)) xs ys=true:=by
    rw [w64 (by omega) (by omega)]
    simp only [wor.ok,zB,zD,Ix]
    exact ⟨by omega,trivial,⟨h1,h2,h3⟩,h4,h5,h6⟩
   rw [bne_self_eq_false,cond_false,hok,if_pos rfl]
   by_cases q1:nv3 (seg xs oa la)<nv3 (seg ys ob la)
   ·rw [dtrue q1,if_pos q1]; rfl
   ·by_cases q2:nv3 (seg xs oa la)>nv3 (seg ys ob la)
    ·rw [dfalse q1,dtrue q2,if_neg q1,if_pos q2]; rfl
    ·rw [dfalse q1,dfalse q2,if_neg q1,if_neg q2]; rfl
  ·rw [Em (show (la:Int)≠lb by omega),cond_true,if_neg hl]
   by_cases q:la<lb
   ·rw [dtrue (show (la:Int)<lb by omega),if_pos q]; rfl
   ·rw [dfalse (show ¬(la:Int)<lb by omega),if_neg q]; rfl
 ·cases h
def bsig (b:Blk):List Value×TypeId:=(b.cells,b.ty)
theorem SJ {P:Program} {f:FuncId} {s s':HSpec} (h:SOK P f s) (hs:∀vs bl v bl',s' vs bl=some (true,v,bl')→∃bl2 bl2',s vs bl2=some (true,v,bl2')∧bl2.map bsig=bl.map bsig∧bl2'.map bsig=bl'.map bsig):SOK P f s':=by
 refine ⟨h.enter,fun vs bl v bl' e hc g w hb hi ht hT=> ?_⟩
 obtain ⟨bl2,bl2',e1,e2,e3⟩:=hs vs bl v bl' e
 have hl:bl2.length=bl.length:=by have:=congrArg List.length e2; simpa using this
 have hl':bl2'.length=bl'.length:=by have:=congrArg List.length e3; simpa using this
 have at2:∀ {x y:List Blk},x.map bsig=y.map bsig→∀(i:Nat) b,x[i]? =some b→∃c,y[i]? =some c∧b.cells=c.cells∧b.ty=c.ty:=fun e i b hb=>by
  have:=congrArg (fun l=>l[i]?) e
  simp only [List.getElem?_map,hb,Option.map_some] at this
  cases hc:(_:List Blk)[i]? with
  |none=>rw [hc] at this; cases this
  | some c=>
   rw [hc] at this
   simp only [Option.map_some,zS,bsig,zP] at this
   exact ⟨c,rfl,this.1,this.2⟩
 have r:=h.run vs bl2 v bl2' e1 (fun b hb c hcc=>by
  obtain ⟨i,hi',rfl⟩:=List.getElem_of_mem hb
  obtain ⟨c',h1,h2,_⟩:=at2 e2 i _ (List.getElem?_eq_getElem hi')
  exact hc c' (List.mem_of_getElem? h1) c (h2▸hcc)) g w (fun i b hb'=>by
  obtain ⟨c',h1,h2,h3⟩:=at2 e2 i b hb'
  rw [h2,h3]; exact hb i c' h1) (fun i j h1 h2=>hi i j (by omega) (by omega)) ht (fun i h1=>hT i (by omega))
 refine r.mono fun e' w' ⟨g',k1,k2,k3,k4,k5,k6⟩=>⟨g',fun i hi'=>k1 i (by omega),k2,fun i b hb'=> ?_,fun i h1 h2=>k4 i (by omega) (by omega),fun i j h1 h2 h3 h4=>k5 i j (by omega) (by omega) (by omega) (by omega),by rw [←hl]; exact k6⟩
 obtain ⟨c',h1,h2,h3⟩:=at2 e3.symm i b hb'
 rw [h2,h3]; exact k3 i c' h1
def rsigned0.sp:HSpec
 |[.bool b,.slice (some ⟨0,o,none⟩) l c],[.is .i64 xs 3]=>some (w3ok o l xs,iv b (nv3 (seg xs o l)),[.is .i64 xs 3])
 |_,_=>none
theorem wrsg.run (b:Bool) (o l c:Nat) (xs:List Int):xfn Tryz.prog ⟨[(110,rbytes.sp)],[],[]⟩ [] 10 Tryz.f85 [.bool b,.slice (some ⟨0,o,none⟩) l c] [.is .i64 xs 3]=
 bif w3ok o l xs then bif b then some ((Value.agg ⟨[Value.bool !(str (enc (nv3 (seg xs o l)))).toList==(⟨#[]⟩:ByteArray).toList,Value.string (str (enc (nv3 (seg xs o l))))]⟩,[Blk.is i64 xs 3])) else some ((Value.agg ⟨[Value.bool false,Value.string (str (enc (nv3 (seg xs o l))))]⟩,[Blk.is i64 xs 3])) else none:=by kernel_rfl
theorem rsigned0.ok:SOK Tryz.prog 85 rsigned0.sp:=by
 refine Cu (E:=⟨[(110,rbytes.sp)],[],[]⟩) (L:=[]) ⟨Aa rbytes.ok Ac,Ai,Ad,Ah⟩ 10 Tryz.func85 (by decide) rfl Bv fun vs bl v bl' h=> ?_
 unfold rsigned0.sp at h
 split at h
 ·rename_i b o l c xs
  simp only [zS,zP] at h
  obtain ⟨h1,rfl,rfl⟩:=h
  refine ⟨(wrsg.run b o l c xs).trans ?_,by simp [okV],clo_spec 8 _ rfl,Ay rfl⟩
  have hd:=(Ix.1 h1).2.2
  have h0:=IX (J8 hd o l)
  rw [ct h1,HY,HI h0]
  cases b<;>rfl
 ·cases h
def rsigned.sp:HSpec
 |[.bool b,.slice (some ⟨0,o,none⟩) l c],[.is .i64 xs 3]=>some (w3ok o l xs,iv b (nv3 (seg xs o l)),[.is .i64 xs 3])
 |[.bool b,.slice (some ⟨0,0,none⟩) 3 3],[.cs [.int .i64 x,.int .i64 y,.int .i64 z] 3]=>some (w3ok 0 3 [x,y,z],iv b (nv3 [x,y,z]),[.cs [.int .i64 x,.int .i64 y,.int .i64 z] 3])
 |_,_=>none
theorem rsigned.ok:SOK Tryz.prog 85 rsigned.sp:=SJ rsigned0.ok fun vs bl v bl' h=>by
 unfold rsigned.sp at h
 split at h
 ·rename_i b o l c xs
  exact ⟨[.is .i64 xs 3],_,h,rfl,rfl⟩
 ·rename_i b x y z
  simp only [zS,zP] at h
  obtain ⟨h1,rfl,rfl⟩:=h
  refine ⟨[.is .i64 [x,y,z] 3],[.is .i64 [x,y,z] 3],?_,rfl,rfl⟩
  show some (w3ok 0 3 [x,y,z],iv b (nv3 (seg [x,y,z] 0 3)),_)=_
  rw [h1]; rfl
 ·cases h
abbrev wq (m:Int):List Int:=[i64.wrap (m.tmod 16777216),i64.wrap ((u64.wrap (m.tdiv 16777216)).tmod 16777216),i64.wrap (u64.wrap ((u64.wrap (m.tdiv 16777216)).tdiv 16777216))]
def rOf.sp:HSpec
 |[.int .i64 n],[]=>some (decide (-9223372036854775808≤n)&&decide (n≤9223372036854775807),iI n,[])
 |_,_=>none
theorem wrof.run (n:Int):xfn Tryz.prog ⟨[(85,rsigned.sp)],[],[]⟩ [] 10 Tryz.f55 [.int .i64 n] []=
 bif decide (n<0) then bif w3ok 0 3 (wq (u64.wrap (0-u64.wrap n))) then some (iv (decide (n<0)) (nv3 (wq (u64.wrap (0-u64.wrap n)))),[]) else none else bif w3ok 0 3 (wq (u64.wrap n)) then some (iv (decide (n<0)) (nv3 (wq (u64.wrap n))),[]) else none:=by kernel_rfl
theorem S9 {m:Int} (h:0≤m) (h':m<18446744073709551616):w3ok 0 3 (wq m)=true∧nv3 (wq m)=m:=by
 have e1:m.tmod 16777216=m%16777216:=Int.tmod_eq_emod_of_nonneg h
 have e2:m.tdiv 16777216=m/16777216:=Int.tdiv_eq_ediv_of_nonneg h
 have e3:u64.wrap (m/16777216)=m/16777216:=u64of (by omega) (by omega)
 have e4:(m/16777216).tmod 16777216=m/16777216%16777216:=Int.tmod_eq_emod_of_nonneg (by omega)
 have e5:(m/16777216).tdiv 16777216=m/16777216/16777216:=Int.tdiv_eq_ediv_of_nonneg (by omega)
 have e6:u64.wrap (m/16777216/16777216)=m/16777216/16777216:=u64of (by omega) (by omega)
 have e7:i64.wrap (m%16777216)=m%16777216:=w64 (by omega) (by omega)
 have e8:i64.wrap (m/16777216%16777216)=m/16777216%16777216:=w64 (by omega) (by omega)
 have e9:i64.wrap (m/16777216/16777216)=m/16777216/16777216:=w64 (by omega) (by omega)
 unfold wq
 rw [e1,e2,e3,e4,e5,e6,e7,e8,e9]
 refine ⟨Ix.2 ⟨Nat.le_refl _,by decide,fun x hx=> ?_⟩,?_⟩
 ·simp only [List.mem_cons,List.not_mem_nil,or_false] at hx
  rcases hx with rfl|rfl|rfl<;>omega
 ·simp only [nv3]; omega
theorem rOf.ok:SOK Tryz.prog 55 rOf.sp:=by
 refine Cu (E:=⟨[(85,rsigned.sp)],[],[]⟩) (L:=[]) ⟨Aa rsigned.ok Ac,Ai,Ad,Ah⟩ 10 Tryz.func55 (by decide) rfl Bv fun vs bl v bl' h=> ?_
 unfold rOf.sp at h
 split at h
 ·rename_i n
  simp only [zS,zP,zB,zD] at h
  obtain ⟨⟨h1,h2⟩,rfl,rfl⟩:=h
  refine ⟨(wrof.run n).trans ?_,by simp [okV],clo_spec 8 _ rfl,Ay rfl⟩
  by_cases hn:n<0
  ·have e:u64.wrap (0-u64.wrap n)= -n:=by rw [wu64,wu64]; omega
   obtain ⟨g1,g2⟩:=S9 (m:= -n) (by omega) (by omega)
   rw [dtrue hn,cond_true,e,g1,g2,cond_true,IA _ (by omega)]
   simp only [cond_true,Int.neg_neg]
  ·have e:u64.wrap n=n:=u64of (by omega) (by omega)
   obtain ⟨g1,g2⟩:=S9 (m:=n) (by omega) (by omega)
   rw [dfalse hn,cond_false,e,g1,g2,cond_true,IA _ (by omega)]
   rfl
 ·cases h
theorem wrva.run (na:Bool) (sa:ByteArray):xfn Tryz.prog ⟨[],[],[]⟩ [] 10 Tryz.f86 [.agg ⟨[.bool na,.string sa]⟩] []=
 bif sa.toList==(⟨#[]⟩:ByteArray).toList then some ((Value.bool !na,[])) else bif decide (0≤0)&&decide (0<((sa.size:Nat):Int)) then some ((Value.bool ((((sa.data.toList.getD (Int.toNat 0) 0).toNat:Nat):Int) !=0),[])) else none:=by kernel_rfl
def wrva.run0:=fun na sa h0=>((wrva.run na sa).ct h0)
def wrva.run1:=fun na sa h0 h1=>(((wrva.run na sa).cf h0).ct h1)
theorem Id.ok :SOK Tryz.prog 86 Valid.sp:=by
  refine Cu (E:=⟨[],[],[]⟩) (L:=[]) ⟨Ac,Ai,Ad,Ah⟩ 10 Tryz.func86 (by decide) rfl Bv fun vs bl v bl' h=> ?_
  unfold Valid.sp at h
  split at h
  · rename_i n s
    simp only [zS,zP,true_and] at h
    obtain ⟨rfl,rfl⟩:=h
    refine ⟨?_,by simp [okV],clo_spec 8 _ rfl,Ay rfl⟩
    obtain ⟨⟨l⟩⟩:=s
    have hs:((⟨⟨l⟩⟩:ByteArray).toList==(⟨#[]⟩:ByteArray).toList)=l.isEmpty:=HY l
    cases l with
    |nil=>exact wrva.run0 n _ hs
    | cons b r=>
      refine (wrva.run1 n _ hs (dtrue2 (by omega) (by show (0:Int)<(((b::r).length:Nat):Int); rw [List.length_cons]; omega))).trans ?_
      have:((((((b::r:List UInt8).getD (Int.toNat 0) 0).toNat:Nat):Int) !=0))= !(b.toNat==0):=by
        show ((((b.toNat:Nat):Int)) !=0)=_
        cases hb:b.toNat==0 with
        | true => have:b.toNat=0:=by simpa using hb
                  rw [this]; rfl
        | false => have:b.toNat≠0:=by simpa using hb
                   simp only [Bool.not_false]; exact Em (by omega)
      show some (Value.bool _,_)=some (Value.bool _,_)
      rw [this]
      rfl
  · cases h
theorem wrsi.run (na:Bool) (sa:ByteArray):xfn Tryz.prog ⟨[(86,Valid.sp)],[],[]⟩ [] 10 Tryz.f87 [.agg ⟨[.bool na,.string sa]⟩] []=
 bif !vld na sa then some ((Value.int i64 0,[])) else bif sa.toList==(⟨#[]⟩:ByteArray).toList then some ((Value.int i64 0,[])) else bif na then some ((Value.int i64 (-1),[])) else some ((Value.int i64 1,[])):=by kernel_rfl
def wrsi.run0:=fun na sa h0=>((wrsi.run na sa).ct h0)
def wrsi.run1:=fun na sa h0 h1=>(((wrsi.run na sa).cf h0).ct h1)
def wrsi.run2:=fun na sa h0 h1 h2=>((((wrsi.run na sa).cf h0).cf h1).ct h2)
def wrsi.run3:=fun na sa h0 h1 h2=>((((wrsi.run na sa).cf h0).cf h1).cf h2)
theorem Pu.ok:SOK Tryz.prog 87 Sign.sp:=by
 refine Cu (E:=⟨[(86,Valid.sp)],[],[]⟩) (L:=[]) ⟨Aa Id.ok Ac,Ai,Ad,Ah⟩ 10 Tryz.func87 (by decide) rfl Bv fun vs bl v bl' h=> ?_
 unfold Sign.sp at h
 split at h
 ·rename_i n s
  simp only [zS,zP,true_and] at h
  obtain ⟨rfl,rfl⟩:=h
  refine ⟨?_,by simp [okV],clo_spec 8 _ rfl,Ay rfl⟩
  cases va:vld n s with
  |false=>exact wrsi.run0 n s (GU va)
  | true=>
   have ht:=JY va
   have hb:=Fd s.data.toList
   have hnil:(s.toList==(⟨#[]⟩:ByteArray).toList)=(bv s.data.toList==0):=by
    have h1:=HY s.data.toList
    have h2:=HI hb
    rw [JL ht] at h2
    rw [←h2]; exact h1
   simp only [cond_true]
   cases h0:bv s.data.toList==0 with
   | true=>
    have h0':bv s.data.toList=0:=by simpa using h0
    refine (wrsi.run1 n s (Dp va) (by rw [hnil]; exact h0)).trans ?_
    unfold vl
    rw [h0']
    cases n<;>rfl
   | false=>
    have h0':bv s.data.toList≠0:=by simpa using h0
    cases n with
    | true=>
     refine (wrsi.run2 true s (Dp va) (by rw [hnil]; exact h0) rfl).trans ?_
     have:sgn (vl true s)= -1:=by unfold sgn vl; simp only [cond_true]; rw [if_pos (by omega)]
     rw [this]
    | false=>
     refine (wrsi.run3 false s (Dp va) (by rw [hnil]; exact h0) rfl).trans ?_
     have:sgn (vl false s)=1:=by unfold sgn vl; simp only [cond_false]; rw [if_neg (by omega),if_neg h0']
     rw [this]
 ·cases h
def Abs.sp:HSpec
 |[.agg ⟨[.bool n,.string s]⟩],[]=>some (true,iI (bif vld n s then ((vl n s).natAbs:Int) else 0),[])
 |_,_=>none
theorem abs_iI {n:Bool} {s:ByteArray} (h:vld n s=true):iI ((vl n s).natAbs:Int)= .agg ⟨[.bool false,.string s]⟩:=by
 have h1:vld false s=true:=by
  obtain ⟨⟨l⟩⟩:=s
  cases l with
  |nil=>rfl
  |cons b r=>exact h
 rw [LO,←iI_vl h1]; rfl
theorem wrab.run (na:Bool) (sa:ByteArray):xfn Tryz.prog ⟨[(86,Valid.sp)],[],[]⟩ [] 10 Tryz.f57 [.agg ⟨[.bool na,.string sa]⟩] []=
 bif !vld na sa then some ((Value.agg ⟨[Value.bool false,Value.string (⟨#[]⟩:ByteArray)]⟩,[])) else some ((Value.agg ⟨[Value.bool false,Value.string sa]⟩,[])):=by kernel_rfl
theorem rAbsR.ok:SOK Tryz.prog 57 Abs.sp:=by
 refine Cu (E:=⟨[(86,Valid.sp)],[],[]⟩) (L:=[]) ⟨Aa Id.ok Ac,Ai,Ad,Ah⟩ 10 Tryz.func57 (by decide) rfl Bv fun vs bl v bl' h=> ?_
 unfold Abs.sp at h
 split at h
 ·rename_i n s
  simp only [zS,zP,true_and] at h
  obtain ⟨rfl,rfl⟩:=h
  refine ⟨(wrab.run n s).trans ?_,by simp [okV],clo_spec 8 _ rfl,Ay rfl⟩
  cases va:vld n s with
  |false=>simp only [Bool.not_false,cond_true,cond_false,Gm]
  |true=>simp only [zN,cond_false,cond_true,abs_iI va]
 ·cases h
theorem n3_lt (s:ByteArray):bv s.data.toList<pw3 (n3 s):=by
 rw [←Kx]
 refine Int.lt_of_lt_of_le (Jp _) (HA ?_)
 show s.size≤3*n3 s
 unfold n3; omega
theorem SR (n:Nat) (v:Int):seg (dg3 n v) 0 n=dg3 n v:=by
 unfold seg
 rw [List.drop_zero,List.take_of_length_le (by rw [JP]; exact Nat.le_refl _)]
theorem Mw (s:ByteArray):nv3 (seg (dg3 (n3 s) (bv s.data.toList)) 0 (n3 s))=bv s.data.toList:=by
 rw [SR]; exact So _ _ (Fd _) (n3_lt s)
theorem Ly {s:ByteArray} (h:s.size≤8589934592):w3ok 0 (n3 s) (dg3 (n3 s) (bv s.data.toList))=true:=
 Ix.2 ⟨by rw [JP]; omega,by unfold n3; omega,OY _ _⟩
theorem R9 {m n:Bool} {s t:ByteArray} (ht:vld n t=true) (h:n3 s<n3 t):bv s.data.toList<bv t.data.toList:=by
 obtain ⟨⟨l⟩⟩:=t
 have hl:(({data:= {toList:=l}} :ByteArray)).size=l.length:=rfl
 unfold n3 at h
 rw [hl] at h
 cases l with
 |nil=>simp only [List.length_nil] at h; omega
 | cons b r=>
  have hb:(b.toNat==0)=false:=by simpa [vld,vldL] using ht
  have h1:=Jo (r:=r) hb
  have h2:=n3_lt s
  rw [←Kx] at h2
  simp only [List.length_cons] at h
  have h3:p8 (3*n3 s)≤p8 r.length:=HA (by unfold n3; omega)
  show bv s.data.toList<bv (b::r)
  omega
theorem ord_sgn {m n:Bool} {s t:ByteArray} (hs:vld m s=true) (ht:vld n t=true):ordI (n3 s) (n3 t) (bv s.data.toList) (bv t.data.toList)=sgn (bv s.data.toList-bv t.data.toList):=by
 unfold ordI sgn
 by_cases hl:n3 s=n3 t
 ·rw [if_pos hl]
  split
  ·rw [if_pos (by omega)]
  ·split
   ·rw [if_neg (by omega),if_neg (by omega)]
   ·rw [if_neg (by omega),if_pos (by omega)]
 ·rw [if_neg hl]
  by_cases h1:n3 s<n3 t
  ·have:=R9 (m:=m) ht h1
   rw [if_pos h1,if_pos (by omega)]
  ·have:=R9 (m:=m) hs (show n3 t<n3 s by omega)
   rw [if_neg h1,if_neg (by omega),if_neg (by omega)]
theorem wrcm.run (na:Bool) (sa:ByteArray) (nb:Bool) (sb:ByteArray):xfn Tryz.prog ⟨[(86,Valid.sp),(87,Sign.sp),(88,digits.sp),(89,order.sp)],[],[]⟩ [] 10 Tryz.f56 [.agg ⟨[.bool na,.string sa]⟩,.agg ⟨[.bool nb,.string sb]⟩] []=
 bif !vld na sa then some ((Value.int i64 0,[])) else bif !vld nb sb then some ((Value.int i64 0,[])) else bif sgn (bif vld na sa then vl na sa else 0) !=sgn (bif vld nb sb then vl nb sb else 0) then bif decide (sgn (bif vld na sa then vl na sa else 0)<sgn (bif vld nb sb then vl nb sb else 0)) then some ((Value.int i64 (-1),[])) else some ((Value.int i64 1,[])) else bif sa.size.ble 8589934592 then bif sb.size.ble 8589934592 then bif w3ok 0 (n3 sa) (dg3 (n3 sa) (bv sa.data.toList))&&w3ok 0 (n3 sb) (dg3 (n3 sb) (bv sb.data.toList)) then some ((Value.int i64 (i64.wrap (sgn (bif vld na sa then vl na sa else 0)*ordI (n3 sa) (n3 sb) (nv3 (seg (dg3 (n3 sa) (bv sa.data.toList)) 0 (n3 sa))) (nv3 (seg (dg3 (n3 sb) (bv sb.data.toList)) 0 (n3 sb))))),[])) else none else none else none:=by kernel_rfl
theorem SO (a b:Int):i64.wrap (sgn a*sgn b)=sgn a*sgn b:=by
 have h1:sgn a= -1∨sgn a=0∨sgn a=1:=by unfold sgn; split; exact .inl rfl; split; exact .inr (.inl rfl); exact .inr (.inr rfl)
 have h2:sgn b= -1∨sgn b=0∨sgn b=1:=by unfold sgn; split; exact .inl rfl; split; exact .inr (.inl rfl); exact .inr (.inr rfl)
 rcases h1 with h1|h1|h1<;>rcases h2 with h2|h2|h2<;>rw [h1,h2]<;>rfl
theorem rCmpR.ok:SOK Tryz.prog 56 Cmp.sp:=by
 refine Cu (E:=⟨[(86,Valid.sp),(87,Sign.sp),(88,digits.sp),(89,order.sp)],[],[]⟩) (L:=[]) ⟨Aa Id.ok (Aa Pu.ok (Aa digits.ok (Aa order.ok Ac))),Ai,Ad,Ah⟩ 10 Tryz.func56 (by decide) rfl Bv fun vs bl v bl' h=> ?_
 unfold Cmp.sp at h
 split at h
 ·rename_i na sa nb sb
  simp only [zS,zP,zB,szOk,Nat.ble_eq] at h
  obtain ⟨⟨h1,h2⟩,rfl,rfl⟩:=h
  refine ⟨(wrcm.run na sa nb sb).trans ?_,by simp [okV],clo_spec 8 _ rfl,Ay rfl⟩
  cases va:vld na sa with
  |false=>rfl
  |true=>
  cases vb:vld nb sb with
  |false=>rfl
  |true=>
  simp only [zN,cond_false,cond_true,Bool.and_self]
  have ha:=Fd sa.data.toList
  have hb:=Fd sb.data.toList
  by_cases hs:sgn (vl na sa)=sgn (vl nb sb)
  ·rw [show (sgn (vl na sa) !=sgn (vl nb sb))=false by rw [hs]; exact bne_self_eq_false _,cond_false,Nat.ble_eq_true_of_le h1,Nat.ble_eq_true_of_le h2,Ly h1,Ly h2,Mw,Mw,ord_sgn va vb,SO]
   simp only [cond_true,Bool.and_self]
   congr 4
   have hz:∀ {n:Bool} {x:Int},0≤x→(bif n then -x else x)=0→x=0:=fun hx h=>by
    rename_i n x
    cases n<;>simp at h<;>omega
   unfold vl at hs ⊢
   revert hs
   generalize bv sa.data.toList=a at*
   generalize bv sb.data.toList=b at*
   unfold sgn
   cases na<;>cases nb<;>simp only [cond_true,cond_false]<;>(repeat' split)<;>omega
  ·rw [Em hs,cond_true]
   have:∀x y:Int,sgn x≠sgn y→(bif decide (sgn x<sgn y) then some (Value.int i64 (-1),([]:List Blk)) else some (Value.int i64 1,[]))=some (Value.int i64 (sgn (x-y)),[]):=fun x y hxy=>by
    unfold sgn at hxy ⊢
    repeat' split
    all_goals first|omega|rfl
   exact this _ _ hs
 ·cases h
structure WdS where
 (n0:Bool) (n1:Bool) (n2:Bool) (n3:Bool) (n4:Bool)
 (s0:ByteArray) (s1:ByteArray) (s2:ByteArray) (s3:ByteArray) (s4:ByteArray)
def wdx (s:ByteArray) (x k:Int):Int:=i64.wrap (i64.wrap (x*2^min (Int.toNat 8) i64.bits)+i64.wrap (((s.data.toList.getD k.toNat 0).toNat:Nat):Int))
theorem MV {s:ByteArray} {k:Nat} (h:k<s.size) (h':s.size≤3):wdx s (bv (s.data.toList.take k)) (k:Int)=bv (s.data.toList.take (k+1)):=by
 have hs:s.data.toList.length=s.size:=rfl
 have h1:s.data.toList.take (k+1)=s.data.toList.take k++[s.data.toList.getD k 0]:=by
  rw [List.take_add_one,List.getD_eq_getElem?_getD,List.getElem?_eq_getElem (by omega)]; rfl
 have h2:=Jp (s.data.toList.take k)
 have h3:=Fd (s.data.toList.take k)
 have h4:p8 (s.data.toList.take k).length≤65536:=Int.le_trans (HA (show (s.data.toList.take k).length≤2 by rw [List.length_take]; omega)) (by decide)
 have hb:(s.data.toList.getD k 0).toNat<256:=(s.data.toList.getD k 0).toNat_lt
 unfold wdx
 rw [h1,Ob,Int.toNat_natCast,show ((2:Int)^min (Int.toNat 8) i64.bits)=256 from rfl]
 generalize bv (s.data.toList.take k)=x at*
 generalize (s.data.toList.getD k 0).toNat=b at*
 rw [w64 (n:=x*256) (by omega) (by omega),w64 (n:=((b:Nat):Int)) (by omega) (by omega),w64 (by omega) (by omega)]
 omega
noncomputable abbrev wd.code:Code:=Jl (Ag Tryz.f90 0) 2
noncomputable abbrev wd.ex:=exec (R:=X×List Value×List (Option Blk)) Tryz.prog ⟨[],[],[]⟩ [] (hs Tryz.prog ⟨[],[],[]⟩ 3).lf (hs Tryz.prog ⟨[],[],[]⟩ 3).cf wd.code
abbrev wd0.st (z:WdS) (y0 y1 y2 y3 y4:Int) (b:Bool) (t:ByteArray) (k:Int):St:=⟨gbuild [(1,.pointer (some ⟨0,0,none⟩)),(2,.pointer (some ⟨16,0,none⟩)),(3,.bool false),(4,.pointer (some ⟨48,0,none⟩)),(5,.int .i64 0),(6,.pointer (some ⟨144,0,none⟩)),(7,.int .i64 k)] 0 58,[(0,.cs [.bool z.n0,.string z.s0,.bool z.n1,.string z.s1,.bool z.n2,.string z.s2,.bool z.n3,.string z.s3,.bool z.n4,.string z.s4] 27),(16,.cs [.int .i64 0,.int .i64 0,.int .i64 0,.int .i64 0,.int .i64 0] 108),(48,.cs [.int .i64 y0,.int .i64 y1,.int .i64 y2,.int .i64 y3,.int .i64 y4] 108),(144,.cs [.bool b,.string t] 24)],448⟩
theorem wd0.rnd (z:WdS) (y0 y1 y2 y3 y4:Int) (b:Bool) (t:ByteArray) (k:Int):wd.ex (wd0.st z y0 y1 y2 y3 y4 b t k) (pick 58 [1,2,3,4,5,6,7] [0,16,48,144])=
 bif decide (k<((t.size:Nat):Int)) then bif decide (0≤k)&&decide (k<((t.size:Nat):Int)) then RX.lk [1,2,3,4,5,6,7] [0,16,48,144] .normal (wd0.st z (wdx t y0 k) y1 y2 y3 y4 b t (i64.wrap (k+1))) else none else RX.lk [1,2,3,4,5,6,7] [0,16,48,144] (.exit 2) (wd0.st z y0 y1 y2 y3 y4 b t k):=by kernel_rfl
theorem wd0.go {N:Nat→Prop} (z:WdS) (y1 y2 y3 y4:Int) (b:Bool) (t:ByteArray) (h3:t.size≤3):∀(d k:Nat),k+d=t.size→Lq Tryz.prog N wd.code (wd0.st z (bv (t.data.toList.take k)) y1 y2 y3 y4 b t (k:Int)) (.exit 2) (wd0.st z (bv t.data.toList) y1 y2 y3 y4 b t (t.size:Int))
 | 0,k,h=>by
  have e:k=t.size:=by omega
  subst e
  rw [show t.data.toList.take t.size=t.data.toList from List.take_of_length_le (Nat.le_refl _)]
  exact .endK (f:=3) ⟨Ac,Ai,Ad,Ah⟩ Be ((wd0.rnd z _ _ _ _ _ b t _).cf (dfalse (by omega))) (fun q=>by cases q) rfl rfl
 | d+1,k,h=>by
  have w:i64.wrap ((k:Int)+1)=((k+1:Nat):Int):=by rw [w64 (by omega) (by omega)]; omega
  have r:=((wd0.rnd z (bv (t.data.toList.take k)) y1 y2 y3 y4 b t (k:Int)).ct (dtrue (by omega))).ct (dtrue2 (by omega) (by omega))
  rw [w,MV (by omega) h3] at r
  exact .toK (f:=3) ⟨Ac,Ai,Ad,Ah⟩ Be r rfl rfl (wd0.go z y1 y2 y3 y4 b t h3 d (k+1) (by omega))
def wd0.lt (z:WdS) (y1 y2 y3 y4:Int) (b:Bool) (t:ByteArray):LT:= .got (Nat.ble t.size 3) (.exit 2) (wd0.st z (bv t.data.toList) y1 y2 y3 y4 b t (t.size:Int))
def wd0.t:LSpec:=fun S=>match RX.nth S.tmps 1,RX.nth S.tmps 2,RX.nth S.tmps 3,RX.nth S.tmps 4,RX.nth S.tmps 5,RX.nth S.tmps 6,RX.nth S.tmps 7,RX.look S.heap 0,RX.look S.heap 16,RX.look S.heap 48,RX.look S.heap 144 with
 | .pointer (some ⟨0,0,none⟩),.pointer (some ⟨16,0,none⟩),.bool false,.pointer (some ⟨48,0,none⟩),.int .i64 i,.pointer (some ⟨144,0,none⟩),.int .i64 k,some (.cs [.bool n0,.string s0,.bool n1,.string s1,.bool n2,.string s2,.bool n3,.string s3,.bool n4,.string s4] 27),some (.cs [.int .i64 0,.int .i64 0,.int .i64 0,.int .i64 0,.int .i64 0] 108),some (.cs [.int .i64 y0,.int .i64 y1,.int .i64 y2,.int .i64 y3,.int .i64 y4] 108),some (.cs [.bool b,.string t] 24)=>bif Nat.beq S.tmps.length 58&&(Nat.beq S.nxt 448&&(ieq k 0&&(ieq i 0&&ieq y0 0))) then some (wd0.lt ⟨n0,n1,n2,n3,n4,s0,s1,s2,s3,s4⟩ y1 y2 y3 y4 b t) else none
 |_,_,_,_,_,_,_,_,_,_,_=>none
theorem wd0.lok {N:Nat→Prop} :LOKn Tryz.prog N wd.code wd0.t:=by
 refine Ge fun S lt x' S' ht hat=> ?_
 unfold wd0.t at ht
 split at ht
 ·rename_i i k n0 s0 n1 s1 n2 s2 n3 s3 n4 s4 y0 y1 y2 y3 y4 b t h1 h2 h3 h4 h5 h6 h7 g0 g16 g48 g6
  cases hb:Nat.beq S.tmps.length 58&&(Nat.beq S.nxt 448&&(ieq k 0&&(ieq i 0&&ieq y0 0))) with
  |false=>rw [hb] at ht; cases ht
  | true=>
   rw [hb] at ht
   injection ht with ht
   subst ht
   simp only [zB,HT] at hb
   obtain ⟨hb,hnx,rfl,rfl,rfl⟩:=hb
   unfold wd0.lt LT.at at hat
   cases ho:Nat.ble t.size 3 with
   |false=>rw [ho] at hat; cases hat
   | true=>
    rw [ho] at hat
    injection hat with hat
    injection hat with hx hs
    subst hx hs
    refine Lq.into 58 [1,2,3,4,5,6,7] [0,16,48,144] hb (zE hnx) (by simp only [List.map_cons,List.map_nil,h1,h2,h3,h4,h5,h6,h7]; rfl) (by simp only [List.map_cons,List.map_nil,g0,g16,g48,g6]; rfl) (S2:=wd0.st ⟨n0,n1,n2,n3,n4,s0,s1,s2,s3,s4⟩ (0) y1 y2 y3 y4 b t 0) rfl ?_
    exact wd0.go ⟨n0,n1,n2,n3,n4,s0,s1,s2,s3,s4⟩ y1 y2 y3 y4 b t (zL ho) t.size 0 (Nat.zero_add _)
 ·cases ht
abbrev wd1.st (z:WdS) (y0 y1 y2 y3 y4:Int) (b:Bool) (t:ByteArray) (k:Int):St:=⟨gbuild [(1,.pointer (some ⟨0,0,none⟩)),(2,.pointer (some ⟨16,0,none⟩)),(3,.bool false),(4,.pointer (some ⟨48,0,none⟩)),(5,.int .i64 1),(6,.pointer (some ⟨144,0,none⟩)),(7,.int .i64 k)] 0 58,[(0,.cs [.bool z.n0,.string z.s0,.bool z.n1,.string z.s1,.bool z.n2,.string z.s2,.bool z.n3,.string z.s3,.bool z.n4,.string z.s4] 27),(16,.cs [.int .i64 0,.int .i64 0,.int .i64 0,.int .i64 0,.int .i64 0] 108),(48,.cs [.int .i64 y0,.int .i64 y1,.int .i64 y2,.int .i64 y3,.int .i64 y4] 108),(144,.cs [.bool b,.string t] 24)],448⟩
theorem wd1.rnd (z:WdS) (y0 y1 y2 y3 y4:Int) (b:Bool) (t:ByteArray) (k:Int):wd.ex (wd1.st z y0 y1 y2 y3 y4 b t k) (pick 58 [1,2,3,4,5,6,7] [0,16,48,144])=
 bif decide (k<((t.size:Nat):Int)) then bif decide (0≤k)&&decide (k<((t.size:Nat):Int)) then RX.lk [1,2,3,4,5,6,7] [0,16,48,144] .normal (wd1.st z y0 (wdx t y1 k) y2 y3 y4 b t (i64.wrap (k+1))) else none else RX.lk [1,2,3,4,5,6,7] [0,16,48,144] (.exit 2) (wd1.st z y0 y1 y2 y3 y4 b t k):=by kernel_rfl
theorem wd1.go {N:Nat→Prop} (z:WdS) (y0 y2 y3 y4:Int) (b:Bool) (t:ByteArray) (h3:t.size≤3):∀(d k:Nat),k+d=t.size→Lq Tryz.prog N wd.code (wd1.st z y0 (bv (t.data.toList.take k)) y2 y3 y4 b t (k:Int)) (.exit 2) (wd1.st z y0 (bv t.data.toList) y2 y3 y4 b t (t.size:Int))
 | 0,k,h=>by
  have e:k=t.size:=by omega
  subst e
  rw [show t.data.toList.take t.size=t.data.toList from List.take_of_length_le (Nat.le_refl _)]
  exact .endK (f:=3) ⟨Ac,Ai,Ad,Ah⟩ Be ((wd1.rnd z _ _ _ _ _ b t _).cf (dfalse (by omega))) (fun q=>by cases q) rfl rfl
 | d+1,k,h=>by
  have w:i64.wrap ((k:Int)+1)=((k+1:Nat):Int):=by rw [w64 (by omega) (by omega)]; omega
  have r:=((wd1.rnd z y0 (bv (t.data.toList.take k)) y2 y3 y4 b t (k:Int)).ct (dtrue (by omega))).ct (dtrue2 (by omega) (by omega))
  rw [w,MV (by omega) h3] at r
  exact .toK (f:=3) ⟨Ac,Ai,Ad,Ah⟩ Be r rfl rfl (wd1.go z y0 y2 y3 y4 b t h3 d (k+1) (by omega))
def wd1.lt (z:WdS) (y0 y2 y3 y4:Int) (b:Bool) (t:ByteArray):LT:= .got (Nat.ble t.size 3) (.exit 2) (wd1.st z y0 (bv t.data.toList) y2 y3 y4 b t (t.size:Int))
def wd1.t:LSpec:=fun S=>match RX.nth S.tmps 1,RX.nth S.tmps 2,RX.nth S.tmps 3,RX.nth S.tmps 4,RX.nth S.tmps 5,RX.nth S.tmps 6,RX.nth S.tmps 7,RX.look S.heap 0,RX.look S.heap 16,RX.look S.heap 48,RX.look S.heap 144 with
 | .pointer (some ⟨0,0,none⟩),.pointer (some ⟨16,0,none⟩),.bool false,.pointer (some ⟨48,0,none⟩),.int .i64 i,.pointer (some ⟨144,0,none⟩),.int .i64 k,some (.cs [.bool n0,.string s0,.bool n1,.string s1,.bool n2,.string s2,.bool n3,.string s3,.bool n4,.string s4] 27),some (.cs [.int .i64 0,.int .i64 0,.int .i64 0,.int .i64 0,.int .i64 0] 108),some (.cs [.int .i64 y0,.int .i64 y1,.int .i64 y2,.int .i64 y3,.int .i64 y4] 108),some (.cs [.bool b,.string t] 24)=>bif Nat.beq S.tmps.length 58&&(Nat.beq S.nxt 448&&(ieq k 0&&(ieq i 1&&ieq y1 0))) then some (wd1.lt ⟨n0,n1,n2,n3,n4,s0,s1,s2,s3,s4⟩ y0 y2 y3 y4 b t) else none
 |_,_,_,_,_,_,_,_,_,_,_=>none
theorem wd1.lok {N:Nat→Prop} :LOKn Tryz.prog N wd.code wd1.t:=by
 refine Ge fun S lt x' S' ht hat=> ?_
 unfold wd1.t at ht
 split at ht
 ·rename_i i k n0 s0 n1 s1 n2 s2 n3 s3 n4 s4 y0 y1 y2 y3 y4 b t h1 h2 h3 h4 h5 h6 h7 g0 g16 g48 g6
  cases hb:Nat.beq S.tmps.length 58&&(Nat.beq S.nxt 448&&(ieq k 0&&(ieq i 1&&ieq y1 0))) with
  |false=>rw [hb] at ht; cases ht
  | true=>
   rw [hb] at ht
   injection ht with ht
   subst ht
   simp only [zB,HT] at hb
   obtain ⟨hb,hnx,rfl,rfl,rfl⟩:=hb
   unfold wd1.lt LT.at at hat
   cases ho:Nat.ble t.size 3 with
   |false=>rw [ho] at hat; cases hat
   | true=>
    rw [ho] at hat
    injection hat with hat
    injection hat with hx hs
    subst hx hs
    refine Lq.into 58 [1,2,3,4,5,6,7] [0,16,48,144] hb (zE hnx) (by simp only [List.map_cons,List.map_nil,h1,h2,h3,h4,h5,h6,h7]; rfl) (by simp only [List.map_cons,List.map_nil,g0,g16,g48,g6]; rfl) (S2:=wd1.st ⟨n0,n1,n2,n3,n4,s0,s1,s2,s3,s4⟩ y0 (0) y2 y3 y4 b t 0) rfl ?_
    exact wd1.go ⟨n0,n1,n2,n3,n4,s0,s1,s2,s3,s4⟩ y0 y2 y3 y4 b t (zL ho) t.size 0 (Nat.zero_add _)
 ·cases ht
abbrev wd2.st (z:WdS) (y0 y1 y2 y3 y4:Int) (b:Bool) (t:ByteArray) (k:Int):St:=⟨gbuild [(1,.pointer (some ⟨0,0,none⟩)),(2,.pointer (some ⟨16,0,none⟩)),(3,.bool false),(4,.pointer (some ⟨48,0,none⟩)),(5,.int .i64 2),(6,.pointer (some ⟨144,0,none⟩)),(7,.int .i64 k)] 0 58,[(0,.cs [.bool z.n0,.string z.s0,.bool z.n1,.string z.s1,.bool z.n2,.string z.s2,.bool z.n3,.string z.s3,.bool z.n4,.string z.s4] 27),(16,.cs [.int .i64 0,.int .i64 0,.int .i64 0,.int .i64 0,.int .i64 0] 108),(48,.cs [.int .i64 y0,.int .i64 y1,.int .i64 y2,.int .i64 y3,.int .i64 y4] 108),(144,.cs [.bool b,.string t] 24)],448⟩
theorem wd2.rnd (z:WdS) (y0 y1 y2 y3 y4:Int) (b:Bool) (t:ByteArray) (k:Int):wd.ex (wd2.st z y0 y1 y2 y3 y4 b t k) (pick 58 [1,2,3,4,5,6,7] [0,16,48,144])=
 bif decide (k<((t.size:Nat):Int)) then bif decide (0≤k)&&decide (k<((t.size:Nat):Int)) then RX.lk [1,2,3,4,5,6,7] [0,16,48,144] .normal (wd2.st z y0 y1 (wdx t y2 k) y3 y4 b t (i64.wrap (k+1))) else none else RX.lk [1,2,3,4,5,6,7] [0,16,48,144] (.exit 2) (wd2.st z y0 y1 y2 y3 y4 b t k):=by kernel_rfl
theorem wd2.go {N:Nat→Prop} (z:WdS) (y0 y1 y3 y4:Int) (b:Bool) (t:ByteArray) (h3:t.size≤3):∀(d k:Nat),k+d=t.size→Lq Tryz.prog N wd.code (wd2.st z y0 y1 (bv (t.data.toList.take k)) y3 y4 b t (k:Int)) (.exit 2) (wd2.st z y0 y1 (bv t.data.toList) y3 y4 b t (t.size:Int))
 | 0,k,h=>by
  have e:k=t.size:=by omega
  subst e
  rw [show t.data.toList.take t.size=t.data.toList from List.take_of_length_le (Nat.le_refl _)]
  exact .endK (f:=3) ⟨Ac,Ai,Ad,Ah⟩ Be ((wd2.rnd z _ _ _ _ _ b t _).cf (dfalse (by omega))) (fun q=>by cases q) rfl rfl
 | d+1,k,h=>by
  have w:i64.wrap ((k:Int)+1)=((k+1:Nat):Int):=by rw [w64 (by omega) (by omega)]; omega
  have r:=((wd2.rnd z y0 y1 (bv (t.data.toList.take k)) y3 y4 b t (k:Int)).ct (dtrue (by omega))).ct (dtrue2 (by omega) (by omega))
  rw [w,MV (by omega) h3] at r
  exact .toK (f:=3) ⟨Ac,Ai,Ad,Ah⟩ Be r rfl rfl (wd2.go z y0 y1 y3 y4 b t h3 d (k+1) (by omega))
def wd2.lt (z:WdS) (y0 y1 y3 y4:Int) (b:Bool) (t:ByteArray):LT:= .got (Nat.ble t.size 3) (.exit 2) (wd2.st z y0 y1 (bv t.data.toList) y3 y4 b t (t.size:Int))
def wd2.t:LSpec:=fun S=>match RX.nth S.tmps 1,RX.nth S.tmps 2,RX.nth S.tmps 3,RX.nth S.tmps 4,RX.nth S.tmps 5,RX.nth S.tmps 6,RX.nth S.tmps 7,RX.look S.heap 0,RX.look S.heap 16,RX.look S.heap 48,RX.look S.heap 144 with
 | .pointer (some ⟨0,0,none⟩),.pointer (some ⟨16,0,none⟩),.bool false,.pointer (some ⟨48,0,none⟩),.int .i64 i,.pointer (some ⟨144,0,none⟩),.int .i64 k,some (.cs [.bool n0,.string s0,.bool n1,.string s1,.bool n2,.string s2,.bool n3,.string s3,.bool n4,.string s4] 27),some (.cs [.int .i64 0,.int .i64 0,.int .i64 0,.int .i64 0,.int .i64 0] 108),some (.cs [.int .i64 y0,.int .i64 y1,.int .i64 y2,.int .i64 y3,.int .i64 y4] 108),some (.cs [.bool b,.string t] 24)=>bif Nat.beq S.tmps.length 58&&(Nat.beq S.nxt 448&&(ieq k 0&&(ieq i 2&&ieq y2 0))) then some (wd2.lt ⟨n0,n1,n2,n3,n4,s0,s1,s2,s3,s4⟩ y0 y1 y3 y4 b t) else none
 |_,_,_,_,_,_,_,_,_,_,_=>none
theorem wd2.lok {N:Nat→Prop} :LOKn Tryz.prog N wd.code wd2.t:=by
 refine Ge fun S lt x' S' ht hat=> ?_
 unfold wd2.t at ht
 split at ht
 ·rename_i i k n0 s0 n1 s1 n2 s2 n3 s3 n4 s4 y0 y1 y2 y3 y4 b t h1 h2 h3 h4 h5 h6 h7 g0 g16 g48 g6
  cases hb:Nat.beq S.tmps.length 58&&(Nat.beq S.nxt 448&&(ieq k 0&&(ieq i 2&&ieq y2 0))) with
  |false=>rw [hb] at ht; cases ht
  | true=>
   rw [hb] at ht
   injection ht with ht
   subst ht
   simp only [zB,HT] at hb
   obtain ⟨hb,hnx,rfl,rfl,rfl⟩:=hb
   unfold wd2.lt LT.at at hat
   cases ho:Nat.ble t.size 3 with
   |false=>rw [ho] at hat; cases hat
   | true=>
    rw [ho] at hat
    injection hat with hat
    injection hat with hx hs
    subst hx hs
    refine Lq.into 58 [1,2,3,4,5,6,7] [0,16,48,144] hb (zE hnx) (by simp only [List.map_cons,List.map_nil,h1,h2,h3,h4,h5,h6,h7]; rfl) (by simp only [List.map_cons,List.map_nil,g0,g16,g48,g6]; rfl) (S2:=wd2.st ⟨n0,n1,n2,n3,n4,s0,s1,s2,s3,s4⟩ y0 y1 (0) y3 y4 b t 0) rfl ?_
    exact wd2.go ⟨n0,n1,n2,n3,n4,s0,s1,s2,s3,s4⟩ y0 y1 y3 y4 b t (zL ho) t.size 0 (Nat.zero_add _)
 ·cases ht
abbrev wd3.st (z:WdS) (y0 y1 y2 y3 y4:Int) (b:Bool) (t:ByteArray) (k:Int):St:=⟨gbuild [(1,.pointer (some ⟨0,0,none⟩)),(2,.pointer (some ⟨16,0,none⟩)),(3,.bool false),(4,.pointer (some ⟨48,0,none⟩)),(5,.int .i64 3),(6,.pointer (some ⟨144,0,none⟩)),(7,.int .i64 k)] 0 58,[(0,.cs [.bool z.n0,.string z.s0,.bool z.n1,.string z.s1,.bool z.n2,.string z.s2,.bool z.n3,.string z.s3,.bool z.n4,.string z.s4] 27),(16,.cs [.int .i64 0,.int .i64 0,.int .i64 0,.int .i64 0,.int .i64 0] 108),(48,.cs [.int .i64 y0,.int .i64 y1,.int .i64 y2,.int .i64 y3,.int .i64 y4] 108),(144,.cs [.bool b,.string t] 24)],448⟩
theorem wd3.rnd (z:WdS) (y0 y1 y2 y3 y4:Int) (b:Bool) (t:ByteArray) (k:Int):wd.ex (wd3.st z y0 y1 y2 y3 y4 b t k) (pick 58 [1,2,3,4,5,6,7] [0,16,48,144])=
 bif decide (k<((t.size:Nat):Int)) then bif decide (0≤k)&&decide (k<((t.size:Nat):Int)) then RX.lk [1,2,3,4,5,6,7] [0,16,48,144] .normal (wd3.st z y0 y1 y2 (wdx t y3 k) y4 b t (i64.wrap (k+1))) else none else RX.lk [1,2,3,4,5,6,7] [0,16,48,144] (.exit 2) (wd3.st z y0 y1 y2 y3 y4 b t k):=by kernel_rfl
theorem wd3.go {N:Nat→Prop} (z:WdS) (y0 y1 y2 y4:Int) (b:Bool) (t:ByteArray) (h3:t.size≤3):∀(d k:Nat),k+d=t.size→Lq Tryz.prog N wd.code (wd3.st z y0 y1 y2 (bv (t.data.toList.take k)) y4 b t (k:Int)) (.exit 2) (wd3.st z y0 y1 y2 (bv t.data.toList) y4 b t (t.size:Int))
 | 0,k,h=>by
  have e:k=t.size:=by omega
  subst e
  rw [show t.data.toList.take t.size=t.data.toList from List.take_of_length_le (Nat.le_refl _)]
  exact .endK (f:=3) ⟨Ac,Ai,Ad,Ah⟩ Be ((wd3.rnd z _ _ _ _ _ b t _).cf (dfalse (by omega))) (fun q=>by cases q) rfl rfl
 | d+1,k,h=>by
  have w:i64.wrap ((k:Int)+1)=((k+1:Nat):Int):=by rw [w64 (by omega) (by omega)]; omega
  have r:=((wd3.rnd z y0 y1 y2 (bv (t.data.toList.take k)) y4 b t (k:Int)).ct (dtrue (by omega))).ct (dtrue2 (by omega) (by omega))
  rw [w,MV (by omega) h3] at r
  exact .toK (f:=3) ⟨Ac,Ai,Ad,Ah⟩ Be r rfl rfl (wd3.go z y0 y1 y2 y4 b t h3 d (k+1) (by omega))
def wd3.lt (z:WdS) (y0 y1 y2 y4:Int) (b:Bool) (t:ByteArray):LT:= .got (Nat.ble t.size 3) (.exit 2) (wd3.st z y0 y1 y2 (bv t.data.toList) y4 b t (t.size:Int))
def wd3.t:LSpec:=fun S=>match RX.nth S.tmps 1,RX.nth S.tmps 2,RX.nth S.tmps 3,RX.nth S.tmps 4,RX.nth S.tmps 5,RX.nth S.tmps 6,RX.nth S.tmps 7,RX.look S.heap 0,RX.look S.heap 16,RX.look S.heap 48,RX.look S.heap 144 with
 | .pointer (some ⟨0,0,none⟩),.pointer (some ⟨16,0,none⟩),.bool false,.pointer (some ⟨48,0,none⟩),.int .i64 i,.pointer (some ⟨144,0,none⟩),.int .i64 k,some (.cs [.bool n0,.string s0,.bool n1,.string s1,.bool n2,.string s2,.bool n3,.string s3,.bool n4,.string s4] 27),some (.cs [.int .i64 0,.int .i64 0,.int .i64 0,.int .i64 0,.int .i64 0] 108),some (.cs [.int .i64 y0,.int .i64 y1,.int .i64 y2,.int .i64 y3,.int .i64 y4] 108),some (.cs [.bool b,.string t] 24)=>bif Nat.beq S.tmps.length 58&&(Nat.beq S.nxt 448&&(ieq k 0&&(ieq i 3&&ieq y3 0))) then some (wd3.lt ⟨n0,n1,n2,n3,n4,s0,s1,s2,s3,s4⟩ y0 y1 y2 y4 b t) else none
 |_,_,_,_,_,_,_,_,_,_,_=>none
theorem wd3.lok {N:Nat→Prop} :LOKn Tryz.prog N wd.code wd3.t:=by
 refine Ge fun S lt x' S' ht hat=> ?_
 unfold wd3.t at ht
 split at ht
 ·rename_i i k n0 s0 n1 s1 n2 s2 n3 s3 n4 s4 y0 y1 y2 y3 y4 b t h1 h2 h3 h4 h5 h6 h7 g0 g16 g48 g6
  cases hb:Nat.beq S.tmps.length 58&&(Nat.beq S.nxt 448&&(ieq k 0&&(ieq i 3&&ieq y3 0))) with
  |false=>rw [hb] at ht; cases ht
  | true=>
   rw [hb] at ht
   injection ht with ht
   subst ht
   simp only [zB,HT] at hb
   obtain ⟨hb,hnx,rfl,rfl,rfl⟩:=hb
   unfold wd3.lt LT.at at hat
   cases ho:Nat.ble t.size 3 with
   |false=>rw [ho] at hat; cases hat
   | true=>
    rw [ho] at hat
    injection hat with hat
    injection hat with hx hs
    subst hx hs
    refine Lq.into 58 [1,2,3,4,5,6,7] [0,16,48,144] hb (zE hnx) (by simp only [List.map_cons,List.map_nil,h1,h2,h3,h4,h5,h6,h7]; rfl) (by simp only [List.map_cons,List.map_nil,g0,g16,g48,g6]; rfl) (S2:=wd3.st ⟨n0,n1,n2,n3,n4,s0,s1,s2,s3,s4⟩ y0 y1 y2 (0) y4 b t 0) rfl ?_
    exact wd3.go ⟨n0,n1,n2,n3,n4,s0,s1,s2,s3,s4⟩ y0 y1 y2 y4 b t (zL ho) t.size 0 (Nat.zero_add _)
 ·cases ht
abbrev wd4.st (z:WdS) (y0 y1 y2 y3 y4:Int) (b:Bool) (t:ByteArray) (k:Int):St:=⟨gbuild [(1,.pointer (some ⟨0,0,none⟩)),(2,.pointer (some ⟨16,0,none⟩)),(3,.bool false),(4,.pointer (some ⟨48,0,none⟩)),(5,.int .i64 4),(6,.pointer (some ⟨144,0,none⟩)),(7,.int .i64 k)] 0 58,[(0,.cs [.bool z.n0,.string z.s0,.bool z.n1,.string z.s1,.bool z.n2,.string z.s2,.bool z.n3,.string z.s3,.bool z.n4,.string z.s4] 27),(16,.cs [.int .i64 0,.int .i64 0,.int .i64 0,.int .i64 0,.int .i64 0] 108),(48,.cs [.int .i64 y0,.int .i64 y1,.int .i64 y2,.int .i64 y3,.int .i64 y4] 108),(144,.cs [.bool b,.string t] 24)],368⟩
theorem wd4.rnd (z:WdS) (y0 y1 y2 y3 y4:Int) (b:Bool) (t:ByteArray) (k:Int):wd.ex (wd4.st z y0 y1 y2 y3 y4 b t k) (pick 58 [1,2,3,4,5,6,7] [0,16,48,144])=
 bif decide (k<((t.size:Nat):Int)) then bif decide (0≤k)&&decide (k<((t.size:Nat):Int)) then RX.lk [1,2,3,4,5,6,7] [0,16,48,144] .normal (wd4.st z y0 y1 y2 y3 (wdx t y4 k) b t (i64.wrap (k+1))) else none else RX.lk [1,2,3,4,5,6,7] [0,16,48,144] (.exit 2) (wd4.st z y0 y1 y2 y3 y4 b t k):=by kernel_rfl
theorem wd4.go {N:Nat→Prop} (z:WdS) (y0 y1 y2 y3:Int) (b:Bool) (t:ByteArray) (h3:t.size≤3):∀(d k:Nat),k+d=t.size→Lq Tryz.prog N wd.code (wd4.st z y0 y1 y2 y3 (bv (t.data.toList.take k)) b t (k:Int)) (.exit 2) (wd4.st z y0 y1 y2 y3 (bv t.data.toList) b t (t.size:Int))
 | 0,k,h=>by
  have e:k=t.size:=by omega
  subst e
  rw [show t.data.toList.take t.size=t.data.toList from List.take_of_length_le (Nat.le_refl _)]
  exact .endK (f:=3) ⟨Ac,Ai,Ad,Ah⟩ Be ((wd4.rnd z _ _ _ _ _ b t _).cf (dfalse (by omega))) (fun q=>by cases q) rfl rfl
 | d+1,k,h=>by
  have w:i64.wrap ((k:Int)+1)=((k+1:Nat):Int):=by rw [w64 (by omega) (by omega)]; omega
  have r:=((wd4.rnd z y0 y1 y2 y3 (bv (t.data.toList.take k)) b t (k:Int)).ct (dtrue (by omega))).ct (dtrue2 (by omega) (by omega))
  rw [w,MV (by omega) h3] at r
  exact .toK (f:=3) ⟨Ac,Ai,Ad,Ah⟩ Be r rfl rfl (wd4.go z y0 y1 y2 y3 b t h3 d (k+1) (by omega))
def wd4.lt (z:WdS) (y0 y1 y2 y3:Int) (b:Bool) (t:ByteArray):LT:= .got (Nat.ble t.size 3) (.exit 2) (wd4.st z y0 y1 y2 y3 (bv t.data.toList) b t (t.size:Int))
def wd4.t:LSpec:=fun S=>match RX.nth S.tmps 1,RX.nth S.tmps 2,RX.nth S.tmps 3,RX.nth S.tmps 4,RX.nth S.tmps 5,RX.nth S.tmps 6,RX.nth S.tmps 7,RX.look S.heap 0,RX.look S.heap 16,RX.look S.heap 48,RX.look S.heap 144 with
 | .pointer (some ⟨0,0,none⟩),.pointer (some ⟨16,0,none⟩),.bool false,.pointer (some ⟨48,0,none⟩),.int .i64 i,.pointer (some ⟨144,0,none⟩),.int .i64 k,some (.cs [.bool n0,.string s0,.bool n1,.string s1,.bool n2,.string s2,.bool n3,.string s3,.bool n4,.string s4] 27),some (.cs [.int .i64 0,.int .i64 0,.int .i64 0,.int .i64 0,.int .i64 0] 108),some (.cs [.int .i64 y0,.int .i64 y1,.int .i64 y2,.int .i64 y3,.int .i64 y4] 108),some (.cs [.bool b,.string t] 24)=>bif Nat.beq S.tmps.length 58&&(Nat.beq S.nxt 368&&(ieq k 0&&(ieq i 4&&ieq y4 0))) then some (wd4.lt ⟨n0,n1,n2,n3,n4,s0,s1,s2,s3,s4⟩ y0 y1 y2 y3 b t) else none
 |_,_,_,_,_,_,_,_,_,_,_=>none
theorem wd4.lok {N:Nat→Prop} :LOKn Tryz.prog N wd.code wd4.t:=by
 refine Ge fun S lt x' S' ht hat=> ?_
 unfold wd4.t at ht
 split at ht
 ·rename_i i k n0 s0 n1 s1 n2 s2 n3 s3 n4 s4 y0 y1 y2 y3 y4 b t h1 h2 h3 h4 h5 h6 h7 g0 g16 g48 g6
  cases hb:Nat.beq S.tmps.length 58&&(Nat.beq S.nxt 368&&(ieq k 0&&(ieq i 4&&ieq y4 0))) with
  |false=>rw [hb] at ht; cases ht
  | true=>
   rw [hb] at ht
   injection ht with ht
   subst ht
   simp only [zB,HT] at hb
   obtain ⟨hb,hnx,rfl,rfl,rfl⟩:=hb
   unfold wd4.lt LT.at at hat
   cases ho:Nat.ble t.size 3 with
   |false=>rw [ho] at hat; cases hat
   | true=>
    rw [ho] at hat
    injection hat with hat
    injection hat with hx hs
    subst hx hs
    refine Lq.into 58 [1,2,3,4,5,6,7] [0,16,48,144] hb (zE hnx) (by simp only [List.map_cons,List.map_nil,h1,h2,h3,h4,h5,h6,h7]; rfl) (by simp only [List.map_cons,List.map_nil,g0,g16,g48,g6]; rfl) (S2:=wd4.st ⟨n0,n1,n2,n3,n4,s0,s1,s2,s3,s4⟩ y0 y1 y2 y3 (0) b t 0) rfl ?_
    exact wd4.go ⟨n0,n1,n2,n3,n4,s0,s1,s2,s3,s4⟩ y0 y1 y2 y3 b t (zL ho) t.size 0 (Nat.zero_add _)
 ·cases ht
def wdok (n:Bool) (s:ByteArray):Bool:=Nat.ble s.size 3&&vld n s
abbrev wdT:LSpec:=fun S=>match wd0.t S with|some lt=>some lt|none=>match wd1.t S with|some lt=>some lt|none=>match wd2.t S with|some lt=>some lt|none=>match wd3.t S with|some lt=>some lt|none=>wd4.t S
theorem wdT.lok {N:Nat→Prop} :LOKn Tryz.prog N wd.code wdT:=Lk wd0.lok (Lk wd1.lok (Lk wd2.lok (Lk wd3.lok wd4.lok)))
noncomputable abbrev wo.code:Code:=Ag Tryz.f90 0
noncomputable abbrev wo.E:Env:=⟨[(86,Valid.sp)],[],[]⟩
theorem wo.E_ok:EnvOk Tryz.prog wo.E:=⟨Aa Id.ok Ac,Ai,Ad,Ah⟩
noncomputable abbrev wo.ex:=exec (R:=X×List Value×List (Option Blk)) Tryz.prog wo.E [(2,wdT)] (hs Tryz.prog wo.E 5).lf (hs Tryz.prog wo.E 5).cf wo.code
abbrev wo0.st (z:WdS):St:=⟨gbuild [(1,.pointer (some ⟨0,0,none⟩)),(2,.pointer (some ⟨16,0,none⟩)),(3,.bool false),(4,.pointer (some ⟨48,0,none⟩)),(5,.int .i64 0)] 0 58,[(0,.cs [.bool z.n0,.string z.s0,.bool z.n1,.string z.s1,.bool z.n2,.string z.s2,.bool z.n3,.string z.s3,.bool z.n4,.string z.s4] 27),(16,.cs [.int .i64 0,.int .i64 0,.int .i64 0,.int .i64 0,.int .i64 0] 108),(48,.cs [.int .i64 0,.int .i64 0,.int .i64 0,.int .i64 0,.int .i64 0] 108)],80⟩
abbrev wo0.rt (z:WdS):St:=⟨gbuild [(1,.pointer (some ⟨0,0,none⟩)),(2,.pointer (some ⟨16,0,none⟩)),(3,.bool false),(4,.pointer (some ⟨48,0,none⟩)),(5,.int .i64 0)] 0 58,[(0,.cs [.bool z.n0,.string z.s0,.bool z.n1,.string z.s1,.bool z.n2,.string z.s2,.bool z.n3,.string z.s3,.bool z.n4,.string z.s4] 27),(16,.cs [.int .i64 0,.int .i64 0,.int .i64 0,.int .i64 0,.int .i64 0] 108),(48,.cs [.int .i64 0,.int .i64 0,.int .i64 0,.int .i64 0,.int .i64 0] 108)],80⟩
abbrev wo1.st (z:WdS):St:=⟨gbuild [(1,.pointer (some ⟨0,0,none⟩)),(2,.pointer (some ⟨16,0,none⟩)),(3,.bool false),(4,.pointer (some ⟨48,0,none⟩)),(5,.int .i64 1)] 0 58,[(0,.cs [.bool z.n0,.string z.s0,.bool z.n1,.string z.s1,.bool z.n2,.string z.s2,.bool z.n3,.string z.s3,.bool z.n4,.string z.s4] 27),(16,.cs [.int .i64 0,.int .i64 0,.int .i64 0,.int .i64 0,.int .i64 0] 108),(48,.cs [.int .i64 (vl z.n0 z.s0),.int .i64 0,.int .i64 0,.int .i64 0,.int .i64 0] 108)],80⟩
abbrev wo1.sx (z:WdS) (x:Int):St:=⟨gbuild [(1,.pointer (some ⟨0,0,none⟩)),(2,.pointer (some ⟨16,0,none⟩)),(3,.bool false),(4,.pointer (some ⟨48,0,none⟩)),(5,.int .i64 1)] 0 58,[(0,.cs [.bool z.n0,.string z.s0,.bool z.n1,.string z.s1,.bool z.n2,.string z.s2,.bool z.n3,.string z.s3,.bool z.n4,.string z.s4] 27),(16,.cs [.int .i64 0,.int .i64 0,.int .i64 0,.int .i64 0,.int .i64 0] 108),(48,.cs [.int .i64 x,.int .i64 0,.int .i64 0,.int .i64 0,.int .i64 0] 108)],80⟩
abbrev wo1.rt (z:WdS):St:=⟨gbuild [(1,.pointer (some ⟨0,0,none⟩)),(2,.pointer (some ⟨16,0,none⟩)),(3,.bool false),(4,.pointer (some ⟨48,0,none⟩)),(5,.int .i64 1)] 0 58,[(0,.cs [.bool z.n0,.string z.s0,.bool z.n1,.string z.s1,.bool z.n2,.string z.s2,.bool z.n3,.string z.s3,.bool z.n4,.string z.s4] 27),(16,.cs [.int .i64 (vl z.n0 z.s0),.int .i64 0,.int .i64 0,.int .i64 0,.int .i64 0] 108),(48,.cs [.int .i64 (vl z.n0 z.s0),.int .i64 0,.int .i64 0,.int .i64 0,.int .i64 0] 108)],80⟩
abbrev wo2.st (z:WdS):St:=⟨gbuild [(1,.pointer (some ⟨0,0,none⟩)),(2,.pointer (some ⟨16,0,none⟩)),(3,.bool false),(4,.pointer (some ⟨48,0,none⟩)),(5,.int .i64 2)] 0 58,[(0,.cs [.bool z.n0,.string z.s0,.bool z.n1,.string z.s1,.bool z.n2,.string z.s2,.bool z.n3,.string z.s3,.bool z.n4,.string z.s4] 27),(16,.cs [.int .i64 0,.int .i64 0,.int .i64 0,.int .i64 0,.int .i64 0] 108),(48,.cs [.int .i64 (vl z.n0 z.s0),.int .i64 (vl z.n1 z.s1),.int .i64 0,.int .i64 0,.int .i64 0] 108)],80⟩
abbrev wo2.sx (z:WdS) (x:Int):St:=⟨gbuild [(1,.pointer (some ⟨0,0,none⟩)),(2,.pointer (some ⟨16,0,none⟩)),(3,.bool false),(4,.pointer (some ⟨48,0,none⟩)),(5,.int .i64 2)] 0 58,[(0,.cs [.bool z.n0,.string z.s0,.bool z.n1,.string z.s1,.bool z.n2,.string z.s2,.bool z.n3,.string z.s3,.bool z.n4,.string z.s4] 27),(16,.cs [.int .i64 0,.int .i64 0,.int .i64 0,.int .i64 0,.int .i64 0] 108),(48,.cs [.int .i64 (vl z.n0 z.s0),.int .i64 x,.int .i64 0,.int .i64 0,.int .i64 0] 108)],80⟩
abbrev wo2.rt (z:WdS):St:=⟨gbuild [(1,.pointer (some ⟨0,0,none⟩)),(2,.pointer (some ⟨16,0,none⟩)),(3,.bool false),(4,.pointer (some ⟨48,0,none⟩)),(5,.int .i64 2)] 0 58,[(0,.cs [.bool z.n0,.string z.s0,.bool z.n1,.string z.s1,.bool z.n2,.string z.s2,.bool z.n3,.string z.s3,.bool z.n4,.string z.s4] 27),(16,.cs [.int .i64 (vl z.n0 z.s0),.int .i64 (vl z.n1 z.s1),.int .i64 0,.int .i64 0,.int .i64 0] 108),(48,.cs [.int .i64 (vl z.n0 z.s0),.int .i64 (vl z.n1 z.s1),.int .i64 0,.int .i64 0,.int .i64 0] 108)],80⟩
abbrev wo3.st (z:WdS):St:=⟨gbuild [(1,.pointer (some ⟨0,0,none⟩)),(2,.pointer (some ⟨16,0,none⟩)),(3,.bool false),(4,.pointer (some ⟨48,0,none⟩)),(5,.int .i64 3)] 0 58,[(0,.cs [.bool z.n0,.string z.s0,.bool z.n1,.string z.s1,.bool z.n2,.string z.s2,.bool z.n3,.string z.s3,.bool z.n4,.string z.s4] 27),(16,.cs [.int .i64 0,.int .i64 0,.int .i64 0,.int .i64 0,.int .i64 0] 108),(48,.cs [.int .i64 (vl z.n0 z.s0),.int .i64 (vl z.n1 z.s1),.int .i64 (vl z.n2 z.s2),.int .i64 0,.int .i64 0] 108)],80⟩
abbrev wo3.sx (z:WdS) (x:Int):St:=⟨gbuild [(1,.pointer (some ⟨0,0,none⟩)),(2,.pointer (some ⟨16,0,none⟩)),(3,.bool false),(4,.pointer (some ⟨48,0,none⟩)),(5,.int .i64 3)] 0 58,[(0,.cs [.bool z.n0,.string z.s0,.bool z.n1,.string z.s1,.bool z.n2,.string z.s2,.bool z.n3,.string z.s3,.bool z.n4,.string z.s4] 27),(16,.cs [.int .i64 0,.int .i64 0,.int .i64 0,.int .i64 0,.int .i64 0] 108),(48,.cs [.int .i64 (vl z.n0 z.s0),.int .i64 (vl z.n1 z.s1),.int .i64 x,.int .i64 0,.int .i64 0] 108)],80⟩
abbrev wo3.rt (z:WdS):St:=⟨gbuild [(1,.pointer (some ⟨0,0,none⟩)),(2,.pointer (some ⟨16,0,none⟩)),(3,.bool false),(4,.pointer (some ⟨48,0,none⟩)),(5,.int .i64 3)] 0 58,[(0,.cs [.bool z.n0,.string z.s0,.bool z.n1,.string z.s1,.bool z.n2,.string z.s2,.bool z.n3,.string z.s3,.bool z.n4,.string z.s4] 27),(16,.cs [.int .i64 (vl z.n0 z.s0),.int .i64 (vl z.n1 z.s1),.int .i64 (vl z.n2 z.s2),.int .i64 0,.int .i64 0] 108),(48,.cs [.int .i64 (vl z.n0 z.s0),.int .i64 (vl z.n1 z.s1),.int .i64 (vl z.n2 z.s2),.int .i64 0,.int .i64 0] 108)],80⟩
abbrev wo4.st (z:WdS):St:=⟨gbuild [(1,.pointer (some ⟨0,0,none⟩)),(2,.pointer (some ⟨16,0,none⟩)),(3,.bool false),(4,.pointer (some ⟨48,0,none⟩)),(5,.int .i64 4)] 0 58,[(0,.cs [.bool z.n0,.string z.s0,.bool z.n1,.string z.s1,.bool z.n2,.string z.s2,.bool z.n3,.string z.s3,.bool z.n4,.string z.s4] 27),(16,.cs [.int .i64 0,.int .i64 0,.int .i64 0,.int .i64 0,.int .i64 0] 108),(48,.cs [.int .i64 (vl z.n0 z.s0),.int .i64 (vl z.n1 z.s1),.int .i64 (vl z.n2 z.s2),.int .i64 (vl z.n3 z.s3),.int .i64 0] 108)],80⟩
abbrev wo4.sx (z:WdS) (x:Int):St:=⟨gbuild [(1,.pointer (some ⟨0,0,none⟩)),(2,.pointer (some ⟨16,0,none⟩)),(3,.bool false),(4,.pointer (some ⟨48,0,none⟩)),(5,.int .i64 4)] 0 58,[(0,.cs [.bool z.n0,.string z.s0,.bool z.n1,.string z.s1,.bool z.n2,.string z.s2,.bool z.n3,.string z.s3,.bool z.n4,.string z.s4] 27),(16,.cs [.int .i64 0,.int .i64 0,.int .i64 0,.int .i64 0,.int .i64 0] 108),(48,.cs [.int .i64 (vl z.n0 z.s0),.int .i64 (vl z.n1 z.s1),.int .i64 (vl z.n2 z.s2),.int .i64 x,.int .i64 0] 108)],80⟩
abbrev wo4.rt (z:WdS):St:=⟨gbuild [(1,.pointer (some ⟨0,0,none⟩)),(2,.pointer (some ⟨16,0,none⟩)),(3,.bool false),(4,.pointer (some ⟨48,0,none⟩)),(5,.int .i64 4)] 0 58,[(0,.cs [.bool z.n0,.string z.s0,.bool z.n1,.string z.s1,.bool z.n2,.string z.s2,.bool z.n3,.string z.s3,.bool z.n4,.string z.s4] 27),(16,.cs [.int .i64 (vl z.n0 z.s0),.int .i64 (vl z.n1 z.s1),.int .i64 (vl z.n2 z.s2),.int .i64 (vl z.n3 z.s3),.int .i64 0] 108),(48,.cs [.int .i64 (vl z.n0 z.s0),.int .i64 (vl z.n1 z.s1),.int .i64 (vl z.n2 z.s2),.int .i64 (vl z.n3 z.s3),.int .i64 0] 108)],80⟩
abbrev wo5.st (z:WdS):St:=⟨gbuild [(1,.pointer (some ⟨0,0,none⟩)),(2,.pointer (some ⟨16,0,none⟩)),(3,.bool false),(4,.pointer (some ⟨48,0,none⟩)),(5,.int .i64 5)] 0 58,[(0,.cs [.bool z.n0,.string z.s0,.bool z.n1,.string z.s1,.bool z.n2,.string z.s2,.bool z.n3,.string z.s3,.bool z.n4,.string z.s4] 27),(16,.cs [.int .i64 0,.int .i64 0,.int .i64 0,.int .i64 0,.int .i64 0] 108),(48,.cs [.int .i64 (vl z.n0 z.s0),.int .i64 (vl z.n1 z.s1),.int .i64 (vl z.n2 z.s2),.int .i64 (vl z.n3 z.s3),.int .i64 (vl z.n4 z.s4)] 108)],80⟩
abbrev wo5.sx (z:WdS) (x:Int):St:=⟨gbuild [(1,.pointer (some ⟨0,0,none⟩)),(2,.pointer (some ⟨16,0,none⟩)),(3,.bool false),(4,.pointer (some ⟨48,0,none⟩)),(5,.int .i64 5)] 0 58,[(0,.cs [.bool z.n0,.string z.s0,.bool z.n1,.string z.s1,.bool z.n2,.string z.s2,.bool z.n3,.string z.s3,.bool z.n4,.string z.s4] 27),(16,.cs [.int .i64 0,.int .i64 0,.int .i64 0,.int .i64 0,.int .i64 0] 108),(48,.cs [.int .i64 (vl z.n0 z.s0),.int .i64 (vl z.n1 z.s1),.int .i64 (vl z.n2 z.s2),.int .i64 (vl z.n3 z.s3),.int .i64 x] 108)],80⟩
theorem wo0.rnd (z:WdS):wo.ex (wo0.st z) (pick 58 [1,2,3,4,5] [0,16,48])=
 bif decide (((z.s0.size:Nat):Int)>3) then RX.lk [1,2,3,4,5] [0,16,48] .ret (wo0.rt z) else bif !vld z.n0 z.s0 then RX.lk [1,2,3,4,5] [0,16,48] .ret (wo0.rt z) else bif Nat.ble z.s0.size 3 then bif z.n0 then RX.lk [1,2,3,4,5] [0,16,48] .normal (wo1.sx z (i64.wrap (0-bv z.s0.data.toList))) else RX.lk [1,2,3,4,5] [0,16,48] .normal (wo1.sx z (bv z.s0.data.toList)) else none:=by kernel_rfl
theorem wo1.rnd (z:WdS):wo.ex (wo1.st z) (pick 58 [1,2,3,4,5] [0,16,48])=
 bif decide (((z.s1.size:Nat):Int)>3) then RX.lk [1,2,3,4,5] [0,16,48] .ret (wo1.rt z) else bif !vld z.n1 z.s1 then RX.lk [1,2,3,4,5] [0,16,48] .ret (wo1.rt z) else bif Nat.ble z.s1.size 3 then bif z.n1 then RX.lk [1,2,3,4,5] [0,16,48] .normal (wo2.sx z (i64.wrap (0-bv z.s1.data.toList))) else RX.lk [1,2,3,4,5] [0,16,48] .normal (wo2.sx z (bv z.s1.data.toList)) else none:=by kernel_rfl
theorem wo2.rnd (z:WdS):wo.ex (wo2.st z) (pick 58 [1,2,3,4,5] [0,16,48])=
 bif decide (((z.s2.size:Nat):Int)>3) then RX.lk [1,2,3,4,5] [0,16,48] .ret (wo2.rt z) else bif !vld z.n2 z.s2 then RX.lk [1,2,3,4,5] [0,16,48] .ret (wo2.rt z) else bif Nat.ble z.s2.size 3 then bif z.n2 then RX.lk [1,2,3,4,5] [0,16,48] .normal (wo3.sx z (i64.wrap (0-bv z.s2.data.toList))) else RX.lk [1,2,3,4,5] [0,16,48] .normal (wo3.sx z (bv z.s2.data.toList)) else none:=by kernel_rfl
theorem wo3.rnd (z:WdS):wo.ex (wo3.st z) (pick 58 [1,2,3,4,5] [0,16,48])=
 bif decide (((z.s3.size:Nat):Int)>3) then RX.lk [1,2,3,4,5] [0,16,48] .ret (wo3.rt z) else bif !vld z.n3 z.s3 then RX.lk [1,2,3,4,5] [0,16,48] .ret (wo3.rt z) else bif Nat.ble z.s3.size 3 then bif z.n3 then RX.lk [1,2,3,4,5] [0,16,48] .normal (wo4.sx z (i64.wrap (0-bv z.s3.data.toList))) else RX.lk [1,2,3,4,5] [0,16,48] .normal (wo4.sx z (bv z.s3.data.toList)) else none:=by kernel_rfl
theorem wo4.rnd (z:WdS):wo.ex (wo4.st z) (pick 58 [1,2,3,4,5] [0,16,48])=
 bif decide (((z.s4.size:Nat):Int)>3) then RX.lk [1,2,3,4,5] [0,16,48] .ret (wo4.rt z) else bif !vld z.n4 z.s4 then RX.lk [1,2,3,4,5] [0,16,48] .ret (wo4.rt z) else bif Nat.ble z.s4.size 3 then bif z.n4 then RX.lk [1,2,3,4,5] [0,16,48] .normal (wo5.sx z (i64.wrap (0-bv z.s4.data.toList))) else RX.lk [1,2,3,4,5] [0,16,48] .normal (wo5.sx z (bv z.s4.data.toList)) else none:=by kernel_rfl
def wo5.lt (z:WdS):LT:= .got true (.exit 0) (wo5.st z)
def wo4.lt (z:WdS):LT:= .br (wdok z.n4 z.s4) (wo5.lt z) (.got true .ret (wo4.rt z))
def wo3.lt (z:WdS):LT:= .br (wdok z.n3 z.s3) (wo4.lt z) (.got true .ret (wo3.rt z))
def wo2.lt (z:WdS):LT:= .br (wdok z.n2 z.s2) (wo3.lt z) (.got true .ret (wo2.rt z))
def wo1.lt (z:WdS):LT:= .br (wdok z.n1 z.s1) (wo2.lt z) (.got true .ret (wo1.rt z))
def wo0.lt (z:WdS):LT:= .br (wdok z.n0 z.s0) (wo1.lt z) (.got true .ret (wo0.rt z))
theorem wo5.rnd (z:WdS):wo.ex (wo5.st z) (pick 58 [1,2,3,4,5] [0,16,48])=RX.lk [1,2,3,4,5] [0,16,48] (.exit 0) (wo5.st z):=by kernel_rfl
theorem wo.ls {N:Nat→Prop} :LsOkn Tryz.prog N [(2,wdT)] wo.code:=Fv rfl wdT.lok Be
theorem wo5.lp {N:Nat→Prop} (z:WdS) {x:X} {S':St} (h:(wo5.lt z).at=some (x,S')):Lq Tryz.prog N wo.code (wo5.st z) x S':=by
 obtain ⟨_,rfl,rfl⟩:=Fw h
 exact .end (f:=5) wo.E_ok wo.ls (wo5.rnd z) (fun q=>by cases q) rfl
theorem Ol {n:Bool} {s:ByteArray} (h:s.size≤3):i64.wrap (0-bv s.data.toList)= -bv s.data.toList:=by
 have h1:=Fd s.data.toList
 have h2:=Jp s.data.toList
 have h3:p8 s.data.toList.length≤16777216:=Int.le_trans (HA (show s.data.toList.length≤3 from h)) (by decide)
 rw [w64 (by omega) (by omega)]; omega
theorem wo4.lp {N:Nat→Prop} (z:WdS) {x:X} {S':St} (h:(wo4.lt z).at=some (x,S')):Lq Tryz.prog N wo.code (wo4.st z) x S':=by
 unfold wo4.lt LT.at at h
 cases hw:wdok z.n4 z.s4 with
 | false=>
  rw [hw,cond_false] at h
  obtain ⟨_,rfl,rfl⟩:=Fw h
  by_cases hs:((z.s4.size:Nat):Int)>3
  ·exact .end (f:=5) wo.E_ok wo.ls ((wo4.rnd z).ct (dtrue hs)) (fun q=>by cases q) rfl
  ·have hv:vld z.n4 z.s4=false:=by
    rw [wdok,Nat.ble_eq_true_of_le (by omega),Bool.true_and] at hw
    exact hw
   exact .end (f:=5) wo.E_ok wo.ls (((wo4.rnd z).cf (dfalse hs)).ct (by rw [hv]; rfl)) (fun q=>by cases q) rfl
 | true=>
  rw [hw,cond_true] at h
  simp only [wdok,zB,Nat.ble_eq] at hw
  have r:=(((wo4.rnd z).cf (dfalse (by omega))).cf (by rw [hw.2]; rfl)).ct (Nat.ble_eq_true_of_le hw.1)
  cases hn:z.n4 with
  | true=>
   have r:=r.ct hn
   rw [Ol (n:=true) hw.1,show -bv z.s4.data.toList=vl z.n4 z.s4 by unfold vl; rw [hn]; rfl] at r
   exact .to (f:=5) wo.E_ok wo.ls r rfl (wo5.lp z h)
  | false=>
   have r:=r.cf hn
   rw [show bv z.s4.data.toList=vl z.n4 z.s4 by unfold vl; rw [hn]; rfl] at r
   exact .to (f:=5) wo.E_ok wo.ls r rfl (wo5.lp z h)
theorem wo3.lp {N:Nat→Prop} (z:WdS) {x:X} {S':St} (h:(wo3.lt z).at=some (x,S')):Lq Tryz.prog N wo.code (wo3.st z) x S':=by
 unfold wo3.lt LT.at at h
 cases hw:wdok z.n3 z.s3 with
 | false=>
  rw [hw,cond_false] at h
  obtain ⟨_,rfl,rfl⟩:=Fw h
  by_cases hs:((z.s3.size:Nat):Int)>3
  ·exact .end (f:=5) wo.E_ok wo.ls ((wo3.rnd z).ct (dtrue hs)) (fun q=>by cases q) rfl
  ·have hv:vld z.n3 z.s3=false:=by
    rw [wdok,Nat.ble_eq_true_of_le (by omega),Bool.true_and] at hw
    exact hw
   exact .end (f:=5) wo.E_ok wo.ls (((wo3.rnd z).cf (dfalse hs)).ct (by rw [hv]; rfl)) (fun q=>by cases q) rfl
 | true=>
  rw [hw,cond_true] at h
  simp only [wdok,zB,Nat.ble_eq] at hw
  have r:=(((wo3.rnd z).cf (dfalse (by omega))).cf (by rw [hw.2]; rfl)).ct (Nat.ble_eq_true_of_le hw.1)
  cases hn:z.n3 with
  | true=>
   have r:=r.ct hn
   rw [Ol (n:=true) hw.1,show -bv z.s3.data.toList=vl z.n3 z.s3 by unfold vl; rw [hn]; rfl] at r
   exact .to (f:=5) wo.E_ok wo.ls r rfl (wo4.lp z h)
  | false=>
   have r:=r.cf hn
   rw [show bv z.s3.data.toList=vl z.n3 z.s3 by unfold vl; rw [hn]; rfl] at r
   exact .to (f:=5) wo.E_ok wo.ls r rfl (wo4.lp z h)
theorem wo2.lp {N:Nat→Prop} (z:WdS) {x:X} {S':St} (h:(wo2.lt z).at=some (x,S')):Lq Tryz.prog N wo.code (wo2.st z) x S':=by
 unfold wo2.lt LT.at at h
 cases hw:wdok z.n2 z.s2 with
 | false=>
  rw [hw,cond_false] at h
  obtain ⟨_,rfl,rfl⟩:=Fw h
  by_cases hs:((z.s2.size:Nat):Int)>3
  ·exact .end (f:=5) wo.E_ok wo.ls ((wo2.rnd z).ct (dtrue hs)) (fun q=>by cases q) rfl
  ·have hv:vld z.n2 z.s2=false:=by
    rw [wdok,Nat.ble_eq_true_of_le (by omega),Bool.true_and] at hw
    exact hw
   exact .end (f:=5) wo.E_ok wo.ls (((wo2.rnd z).cf (dfalse hs)).ct (by rw [hv]; rfl)) (fun q=>by cases q) rfl
 | true=>
  rw [hw,cond_true] at h
  simp only [wdok,zB,Nat.ble_eq] at hw
  have r:=(((wo2.rnd z).cf (dfalse (by omega))).cf (by rw [hw.2]; rfl)).ct (Nat.ble_eq_true_of_le hw.1)
  cases hn:z.n2 with
  | true=>
   have r:=r.ct hn
   rw [Ol (n:=true) hw.1,show -bv z.s2.data.toList=vl z.n2 z.s2 by unfold vl; rw [hn]; rfl] at r
   exact .to (f:=5) wo.E_ok wo.ls r rfl (wo3.lp z h)
  | false=>
   have r:=r.cf hn
   rw [show bv z.s2.data.toList=vl z.n2 z.s2 by unfold vl; rw [hn]; rfl] at r
   exact .to (f:=5) wo.E_ok wo.ls r rfl (wo3.lp z h)
theorem wo1.lp {N:Nat→Prop} (z:WdS) {x:X} {S':St} (h:(wo1.lt z).at=some (x,S')):Lq Tryz.prog N wo.code (wo1.st z) x S':=by
 unfold wo1.lt LT.at at h
 cases hw:wdok z.n1 z.s1 with
 | false=>
  rw [hw,cond_false] at h
  obtain ⟨_,rfl,rfl⟩:=Fw h
  by_cases hs:((z.s1.size:Nat):Int)>3
  ·exact .end (f:=5) wo.E_ok wo.ls ((wo1.rnd z).ct (dtrue hs)) (fun q=>by cases q) rfl
  ·have hv:vld z.n1 z.s1=false:=by
    rw [wdok,Nat.ble_eq_true_of_le (by omega),Bool.true_and] at hw
    exact hw
   exact .end (f:=5) wo.E_ok wo.ls (((wo1.rnd z).cf (dfalse hs)).ct (by rw [hv]; rfl)) (fun q=>by cases q) rfl
 | true=>
  rw [hw,cond_true] at h
  simp only [wdok,zB,Nat.ble_eq] at hw
  have r:=(((wo1.rnd z).cf (dfalse (by omega))).cf (by rw [hw.2]; rfl)).ct (Nat.ble_eq_true_of_le hw.1)
  cases hn:z.n1 with
  | true=>
   have r:=r.ct hn
   rw [Ol (n:=true) hw.1,show -bv z.s1.data.toList=vl z.n1 z.s1 by unfold vl; rw [hn]; rfl] at r
   exact .to (f:=5) wo.E_ok wo.ls r rfl (wo2.lp z h)
  | false=>
   have r:=r.cf hn
   rw [show bv z.s1.data.toList=vl z.n1 z.s1 by unfold vl; rw [hn]; rfl] at r
   exact .to (f:=5) wo.E_ok wo.ls r rfl (wo2.lp z h)
theorem wo0.lp {N:Nat→Prop} (z:WdS) {x:X} {S':St} (h:(wo0.lt z).at=some (x,S')):Lq Tryz.prog N wo.code (wo0.st z) x S':=by
 unfold wo0.lt LT.at at h
 cases hw:wdok z.n0 z.s0 with
 | false=>
  rw [hw,cond_false] at h
  obtain ⟨_,rfl,rfl⟩:=Fw h
  by_cases hs:((z.s0.size:Nat):Int)>3
  ·exact .end (f:=5) wo.E_ok wo.ls ((wo0.rnd z).ct (dtrue hs)) (fun q=>by cases q) rfl
  ·have hv:vld z.n0 z.s0=false:=by
    rw [wdok,Nat.ble_eq_true_of_le (by omega),Bool.true_and] at hw
    exact hw
   exact .end (f:=5) wo.E_ok wo.ls (((wo0.rnd z).cf (dfalse hs)).ct (by rw [hv]; rfl)) (fun q=>by cases q) rfl
 | true=>
  rw [hw,cond_true] at h
  simp only [wdok,zB,Nat.ble_eq] at hw
  have r:=(((wo0.rnd z).cf (dfalse (by omega))).cf (by rw [hw.2]; rfl)).ct (Nat.ble_eq_true_of_le hw.1)
  cases hn:z.n0 with
  | true=>
   have r:=r.ct hn
   rw [Ol (n:=true) hw.1,show -bv z.s0.data.toList=vl z.n0 z.s0 by unfold vl; rw [hn]; rfl] at r
   exact .to (f:=5) wo.E_ok wo.ls r rfl (wo1.lp z h)
  | false=>
   have r:=r.cf hn
   rw [show bv z.s0.data.toList=vl z.n0 z.s0 by unfold vl; rw [hn]; rfl] at r
   exact .to (f:=5) wo.E_ok wo.ls r rfl (wo1.lp z h)
def wo.t:LSpec:=fun S=>match RX.nth S.tmps 1,RX.nth S.tmps 2,RX.nth S.tmps 3,RX.nth S.tmps 4,RX.nth S.tmps 5,RX.look S.heap 0,RX.look S.heap 16,RX.look S.heap 48 with
 | .pointer (some ⟨0,0,none⟩),.pointer (some ⟨16,0,none⟩),.bool false,.pointer (some ⟨48,0,none⟩),.int .i64 i,some (.cs [.bool n0,.string s0,.bool n1,.string s1,.bool n2,.string s2,.bool n3,.string s3,.bool n4,.string s4] 27),some (.cs [.int .i64 0,.int .i64 0,.int .i64 0,.int .i64 0,.int .i64 0] 108),some (.cs [.int .i64 y0,.int .i64 y1,.int .i64 y2,.int .i64 y3,.int .i64 y4] 108)=>bif Nat.beq S.tmps.length 58&&(Nat.beq S.nxt 80&&(ieq i 0&&(ieq y0 0&&(ieq y1 0&&(ieq y2 0&&(ieq y3 0&&ieq y4 0)))))) then some (wo0.lt ⟨n0,n1,n2,n3,n4,s0,s1,s2,s3,s4⟩) else none
 |_,_,_,_,_,_,_,_=>none
theorem wo.lok {N:Nat→Prop} :LOKn Tryz.prog N wo.code wo.t:=by
 refine Ge fun S lt x' S' ht hat=> ?_
 unfold wo.t at ht
 split at ht
 ·rename_i i n0 s0 n1 s1 n2 s2 n3 s3 n4 s4 y0 y1 y2 y3 y4 h1 h2 h3 h4 h5 g0 g16 g48
  cases hb:Nat.beq S.tmps.length 58&&(Nat.beq S.nxt 80&&(ieq i 0&&(ieq y0 0&&(ieq y1 0&&(ieq y2 0&&(ieq y3 0&&ieq y4 0)))))) with
  |false=>rw [hb] at ht; cases ht
  | true=>
   rw [hb] at ht
   injection ht with ht
   subst ht
   simp only [zB,HT] at hb
   obtain ⟨hb,hnx,rfl,rfl,rfl,rfl,rfl,rfl⟩:=hb
   exact Lq.into 58 [1,2,3,4,5] [0,16,48] hb (zE hnx) (by simp only [List.map_cons,List.map_nil,h1,h2,h3,h4,h5]; rfl) (by simp only [List.map_cons,List.map_nil,g0,g16,g48]; rfl) (S2:=wo0.st ⟨n0,n1,n2,n3,n4,s0,s1,s2,s3,s4⟩) rfl (wo0.lp ⟨n0,n1,n2,n3,n4,s0,s1,s2,s3,s4⟩ hat)
 ·cases ht
theorem words.run (n0:Bool) (s0:ByteArray) (n1:Bool) (s1:ByteArray) (n2:Bool) (s2:ByteArray) (n3:Bool) (s3:ByteArray) (n4:Bool) (s4:ByteArray):xfn Tryz.prog wo.E [(0,wo.t)] 10 Tryz.f90 [.agg ⟨[.bool n0,.string s0,.bool n1,.string s1,.bool n2,.string s2,.bool n3,.string s3,.bool n4,.string s4]⟩] []=
 bif wdok n0 s0 then bif wdok n1 s1 then bif wdok n2 s2 then bif wdok n3 s3 then bif wdok n4 s4 then some (.tuple ⟨[.agg ⟨[.int .i64 (vl n0 s0),.int .i64 (vl n1 s1),.int .i64 (vl n2 s2),.int .i64 (vl n3 s3),.int .i64 (vl n4 s4)]⟩,.bool true]⟩,[]) else some (.tuple ⟨[.agg ⟨[.int .i64 (vl n0 s0),.int .i64 (vl n1 s1),.int .i64 (vl n2 s2),.int .i64 (vl n3 s3),.int .i64 0]⟩,.bool false]⟩,[]) else some (.tuple ⟨[.agg ⟨[.int .i64 (vl n0 s0),.int .i64 (vl n1 s1),.int .i64 (vl n2 s2),.int .i64 0,.int .i64 0]⟩,.bool false]⟩,[]) else some (.tuple ⟨[.agg ⟨[.int .i64 (vl n0 s0),.int .i64 (vl n1 s1),.int .i64 0,.int .i64 0,.int .i64 0]⟩,.bool false]⟩,[]) else some (.tuple ⟨[.agg ⟨[.int .i64 (vl n0 s0),.int .i64 0,.int .i64 0,.int .i64 0,.int .i64 0]⟩,.bool false]⟩,[]) else some (.tuple ⟨[.agg ⟨[.int .i64 0,.int .i64 0,.int .i64 0,.int .i64 0,.int .i64 0]⟩,.bool false]⟩,[]):=by kernel_rfl
def words.sp:HSpec
 |[.agg ⟨[.bool n0,.string s0,.bool n1,.string s1,.bool n2,.string s2,.bool n3,.string s3,.bool n4,.string s4]⟩],[]=>some (true,.tuple ⟨[.agg ⟨[.int .i64 (bif wdok n0 s0 then vl n0 s0 else 0),.int .i64 (bif wdok n0 s0&&wdok n1 s1 then vl n1 s1 else 0),.int .i64 (bif wdok n0 s0&&wdok n1 s1&&wdok n2 s2 then vl n2 s2 else 0),.int .i64 (bif wdok n0 s0&&wdok n1 s1&&wdok n2 s2&&wdok n3 s3 then vl n3 s3 else 0),.int .i64 (bif wdok n0 s0&&wdok n1 s1&&wdok n2 s2&&wdok n3 s3&&wdok n4 s4 then vl n4 s4 else 0)]⟩,.bool (wdok n0 s0&&wdok n1 s1&&wdok n2 s2&&wdok n3 s3&&wdok n4 s4)]⟩,[])
 |_,_=>none
theorem words.ok:SOK Tryz.prog 90 words.sp:=by
 refine Cu (E:=wo.E) (L:=[(0,wo.t)]) wo.E_ok 10 Tryz.func90 (by decide) rfl (Ga rfl rfl wo.lok) fun vs bl v bl' h=> ?_
 unfold words.sp at h
 split at h
 ·rename_i n0 s0 n1 s1 n2 s2 n3 s3 n4 s4
  simp only [zS,zP,true_and] at h
  obtain ⟨rfl,rfl⟩:=h
  refine ⟨(words.run n0 s0 n1 s1 n2 s2 n3 s3 n4 s4).trans ?_,by simp [okV],clo_spec 8 _ rfl,Ay rfl⟩
  cases w0:wdok n0 s0<;>try rfl
  cases w1:wdok n1 s1<;>try rfl
  cases w2:wdok n2 s2<;>try rfl
  cases w3:wdok n3 s3<;>try rfl
  cases w4:wdok n4 s4<;>try rfl
 ·cases h
end Go.Proofs.YtphlckkbihmlnaaGreatDoor.G
end
