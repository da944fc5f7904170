/- A part of what the law's proof leans on. PACKED BY pack.py of this repo. -/
import Derived.Test.YtphlckkbihmlnaaGreatDoorK5
set_option linter.unusedVariables false
set_option linter.unusedSimpArgs false
set_option linter.unusedSectionVars false
set_option linter.defProp false
set_option maxRecDepth 100000
open Go.IntKind (i64 u64 u32)
section
namespace Go.Proofs.YtphlckkbihmlnaaGreatDoor.G
open Go Go.Proofs RX
section
variable {N:Nat→Prop} {xe:X} {Se:St} (n2 m2 n m:Nat) (i xx:Int) (op lp cp oa la ca:Nat) (z i0:Int) (ob lb cb:Nat) (y k:Int) (xs:List Int) (ta:TypeId) (ys:List Int) (tb:TypeId) (out:List Int) (nx:Nat)
abbrev muli.st:St:=⟨gbuild [(1,.slice (some ⟨1,op,none⟩) lp cp),(5,.slice (some ⟨114,0,none⟩) n m),(6,.func (.func 138) ⟨[.slice (some ⟨114,0,none⟩) n2 m2]⟩ ⟨[]⟩),(7,.int .i64 i),(8,.int .u32 xx),(20,.slice (some ⟨0,oa,none⟩) la ca),(21,.int .i64 z),(22,.int .i64 i0),(27,.slice (some ⟨1,ob,none⟩) lb cb),(28,.int .i64 y),(29,.int .i64 k)] 0 45,[(0,.is .u32 xs ta),(1,.is .u32 ys tb),(114,.is .u32 out 144)],nx⟩
abbrev muli.lk:=RX.lk [1,5,6,7,8,20,21,22,27,28,29] [0,1,114]
theorem muli.rnd:rd Tryz.prog ⟨[(138,put.sp)],[],[]⟩ [] 5 (Jl (Ag Tryz.f125 0) 2) (muli.st n2 m2 n m i xx op lp cp oa la ca z i0 ob lb cb y k xs ta ys tb out nx) 45 [1,5,6,7,8,20,21,22,27,28,29] [0,1,114]=
 bif decide (k<y) then bif decide (0≤k)&&decide (k<((lb:Nat):Int)) then bif (ob+k.toNat*1).blt ys.length then bif Qr 0 n2 out (i64.wrap (i+k)) xx (ys.getD (ob+k.toNat*1) 0) then muli.lk .normal (muli.st n2 m2 n m i xx op lp cp oa la ca z i0 ob lb cb y (i64.wrap (k+1)) xs ta ys tb (dg n2 (nv out+pw (i64.wrap (i+k)).toNat*(xx*ys.getD (ob+k.toNat*1) 0))) nx) else none else none else none else muli.lk (.exit 2) (muli.st n2 m2 n m i xx op lp cp oa la ca z i0 ob lb cb y k xs ta ys tb out nx):=by kernel_rfl
def muli.step0:=fun h0 h1 h2 h3 (ih:Lq Tryz.prog N (Jl (Ag Tryz.f125 0) 2) _ xe Se)=>Lq.toK (f:=5) ⟨Aa Ig.ok Ac,Ai,Ad,Ah⟩ Be (((((muli.rnd n2 m2 n m i xx op lp cp oa la ca z i0 ob lb cb y k xs ta ys tb out nx).ct h0).ct h1).ct h2).ct h3) rfl rfl ih
def muli.stop1:=fun h0=>Lq.endK (N:=N) (f:=5) ⟨Aa Ig.ok Ac,Ai,Ad,Ah⟩ Be ((muli.rnd n2 m2 n m i xx op lp cp oa la ca z i0 ob lb cb y k xs ta ys tb out nx).cf h0) (fun q=>by cases q) rfl rfl
end
theorem OE (a b:Nat):pw (a+b)=pw a*pw b:=by simp only [pw,Nat.pow_add,Int.natCast_mul]
theorem Nn {ys:List Int} (hy:dig ys) {ob:Nat} :∀(d k:Nat),ob+(k+d)≤ys.length→nv (seg ys ob k)≤nv (seg ys ob (k+d))
 |0,k,_=>Int.le_refl _
 | d+1,k,h=>by
  have ih:=Nn hy (ob:=ob) d k (by omega)
  rw [←Nat.add_assoc,Fu (o:=ob) (l:=k+d) (by omega)]
  have h1:=(Fj hy (ob+(k+d))).1
  have h2:=Int.mul_nonneg (Int.le_of_lt (Gd (k+d))) h1
  omega
def muli.ok (n2 n:Nat) (i xx:Int) (ob lb:Nat) (y k:Int) (ys out:List Int):Bool:=
 Nat.beq n2 n&&(Nat.beq n out.length&&(Nat.ble n 4294967299&&(digB out&&(decide (0≤i)&&(decide (i+(lb:Int)<(n:Int))&&(decide (0≤xx)&&(decide (xx<4294967296)&&(decide (k=0)&&(decide (y=(lb:Int))&&(Du ob lb ys&&decide (nv out+pw i.toNat*(xx*nv (seg ys ob lb))<pw n)))))))))))
def muli.lt (n2 m2 n m:Nat) (i xx:Int) (op lp cp oa la ca:Nat) (z i0:Int) (ob lb cb:Nat) (y k:Int) (xs:List Int) (ta:TypeId) (ys:List Int) (tb:TypeId) (out:List Int) (nx:Nat):LT:= .got (muli.ok n2 n i xx ob lb y k ys out) (.exit 2) (muli.st n2 m2 n m i xx op lp cp oa la ca z i0 ob lb cb y y xs ta ys tb (dg n (nv out+pw i.toNat*(xx*nv (seg ys ob lb)))) nx)
theorem muli.go {N:Nat→Prop} (m2 n m:Nat) (i:Nat) (xx:Int) (op lp cp oa la ca:Nat) (z i0:Int) (ob lb cb:Nat) (xs:List Int) (ta:TypeId) (ys:List Int) (tb:TypeId) (nx:Nat) (Q:Int) (hn:n≤4294967299) (hQ:0≤Q) (hi:i+lb<n) (x0:0≤xx) (x1:xx<4294967296) (h4:ob+lb≤ys.length) (hy:dig ys) (hV:Q+pw i*(xx*nv (seg ys ob lb))<pw n):∀(j k:Nat),k+j=lb→Lq Tryz.prog N (Jl (Ag Tryz.f125 0) 2) (muli.st n m2 n m (i:Int) xx op lp cp oa la ca z i0 ob lb cb (lb:Int) (k:Int) xs ta ys tb (dg n (Q+pw i*(xx*nv (seg ys ob k)))) nx) (.exit 2) (muli.st n m2 n m (i:Int) xx op lp cp oa la ca z i0 ob lb cb (lb:Int) (lb:Int) xs ta ys tb (dg n (Q+pw i*(xx*nv (seg ys ob lb)))) nx)
 | 0,k,h=>by
  obtain rfl:k=lb:=by omega
  exact muli.stop1 _ _ _ _ _ _ _ _ _ _ _ _ _ _ _ _ _ _ _ _ _ _ _ _ _ (dfalse (by omega))
 | j +1,k,h=>by
  have e1:i64.wrap ((k:Int)+1)=((k+1:Nat):Int):=by rw [w64 (by omega) (by omega)]; omega
  have e2:i64.wrap ((i:Int)+(k:Int))=((i+k:Nat):Int):=by rw [w64 (by omega) (by omega)]; omega
  have eb:ob+((k:Int)).toNat*1=ob+k:=by simp
  have hY:=Fj hy (ob+k)
  have hp:=Gd i
  have mono:∀q,q≤lb→0≤Q+pw i*(xx*nv (seg ys ob q))∧Q+pw i*(xx*nv (seg ys ob q))<pw n:=fun q hq=>by
   have hle:=Nn hy (ob:=ob) (lb-q) q (by omega)
   rw [show q+(lb-q)=lb by omega] at hle
   have h1:xx*nv (seg ys ob q)≤xx*nv (seg ys ob lb):=Int.mul_le_mul_of_nonneg_left hle x0
   have h2:pw i*(xx*nv (seg ys ob q))≤pw i*(xx*nv (seg ys ob lb)):=Int.mul_le_mul_of_nonneg_left h1 (by omega)
   have h3:0≤pw i*(xx*nv (seg ys ob q)):=Int.mul_nonneg (by omega) (Int.mul_nonneg x0 (El (Fg hy ob q)))
   omega
  have hk:=mono k (by omega)
  have hk1:=mono (k+1) (by omega)
  have hst:Q+pw i*(xx*nv (seg ys ob k))+pw (i+k)*(xx*ys.getD (ob+k) 0)=Q+pw i*(xx*nv (seg ys ob (k+1))):=by
   rw [Fu (o:=ob) (l:=k) (by omega),OE,Int.mul_add xx,Int.mul_add (pw i),Int.mul_assoc (pw i),Int.mul_left_comm (pw k) xx,Int.add_assoc]
  have hnv:=I0 n (Q+pw i*(xx*nv (seg ys ob k))) hk.1 hk.2
  refine muli.step0 _ _ _ _ _ _ _ _ _ _ _ _ _ _ _ _ _ _ _ _ _ _ _ _ _ (dtrue (by omega)) (dtrue2 (by omega) (by omega)) (by rw [eb]; exact Fi (by omega)) ?_ ?_
  ·rw [eb,e2]
   simp only [Qr,zB,Nat.ble_eq,zD,Hw,Nat.beq_eq,Di,Int.toNat_natCast]
   rw [hnv,hst]
   exact ⟨trivial,trivial,hn,Gn _ _,by omega,by omega,x0,x1,hY.1,hY.2,hk1.2⟩
  ·rw [eb,e1,e2,Int.toNat_natCast,hnv,hst]
   exact muli.go m2 n m i xx op lp cp oa la ca z i0 ob lb cb xs ta ys tb nx Q hn hQ hi x0 x1 h4 hy hV j (k+1) (by omega)
theorem muli.lp {N:Nat→Prop} (n2 m2 n m:Nat) (i xx:Int) (op lp cp oa la ca:Nat) (z i0:Int) (ob lb cb:Nat) (y k:Int) (xs:List Int) (ta:TypeId) (ys:List Int) (tb:TypeId) (out:List Int) (nx:Nat) {x:X} {S':St} (h:(muli.lt n2 m2 n m i xx op lp cp oa la ca z i0 ob lb cb y k xs ta ys tb out nx).at=some (x,S')):Lq Tryz.prog N (Jl (Ag Tryz.f125 0) 2) (muli.st n2 m2 n m i xx op lp cp oa la ca z i0 ob lb cb y k xs ta ys tb out nx) x S':=by
 obtain ⟨h1,rfl,rfl⟩:=Fw h
 simp only [muli.ok,zB,Nat.ble_eq,zD,Hw,Eo] at h1
 obtain ⟨h1,h2,h3,h4,h5,h6,h7,h8,rfl,rfl,⟨h9,h10,h11⟩,h12⟩:=h1
 obtain rfl:=zE h1
 have h2:=zE h2
 obtain ⟨i,rfl⟩:=Int.eq_ofNat_of_zero_le h5
 rw [Int.toNat_natCast] at h12 ⊢
 have:=muli.go (N:=N) m2 n2 m i xx op lp cp oa la ca z i0 ob lb cb xs ta ys tb nx (nv out) h3 (El h4) (by omega) h7 h8 h9 h11 h12 lb 0 (by omega)
 rw [Gw,show nv ([]:List Int)=0 from rfl,Int.mul_zero,Int.mul_zero,Int.add_zero] at this
 have he:dg n2 (nv out)=out:=by rw [h2]; exact Jn h4
 rw [he] at this
 exact this
def muli.t:LSpec:=fun S=>match RX.nth S.tmps 1,RX.nth S.tmps 5,RX.nth S.tmps 6,RX.nth S.tmps 7,RX.nth S.tmps 8,RX.nth S.tmps 20,RX.nth S.tmps 21,RX.nth S.tmps 22,RX.nth S.tmps 27,RX.nth S.tmps 28,RX.nth S.tmps 29,RX.look S.heap 0,RX.look S.heap 1,RX.look S.heap 114 with
 | .slice (some ⟨1,op,none⟩) lp cp,.slice (some ⟨114,0,none⟩) n m,.func (.func 138) ⟨[.slice (some ⟨114,0,none⟩) n2 m2]⟩ ⟨[]⟩,.int .i64 i,.int .u32 xx,.slice (some ⟨0,oa,none⟩) la ca,.int .i64 z,.int .i64 i0,.slice (some ⟨1,ob,none⟩) lb cb,.int .i64 y,.int .i64 k,some (.is .u32 xs ta),some (.is .u32 ys tb),some (.is .u32 out 144)=>bif Nat.beq S.tmps.length 45 then some (muli.lt n2 m2 n m i xx op lp cp oa la ca z i0 ob lb cb y k xs ta ys tb out S.nxt) else none
 |_,_,_,_,_,_,_,_,_,_,_,_,_,_=>none
theorem muli.lok {N:Nat→Prop} :LOKn Tryz.prog N (Jl (Ag Tryz.f125 0) 2) (muli.t):=by
 refine Ge fun S lt x S' ht hat=> ?_
 unfold muli.t at ht
 split at ht
 ·rename_i op lp cp n m n2 m2 i xx oa la ca z i0 ob lb cb y k xs ta ys tb out h1 h5 h6 h7 h8 h20 h21 h22 h27 h28 h29 g0 g1 g114
  cases hb:Nat.beq S.tmps.length 45 with
  |false=>rw [hb] at ht; cases ht
  | true=>
   rw [hb] at ht
   injection ht with ht
   subst ht
   have hb:=zE hb
   exact .enter (fun h=>Gr hb (.cons ⟨h1,bnth h h1⟩ (.cons ⟨h5,bnth h h5⟩ (.cons ⟨h6,bnth h h6⟩ (.cons ⟨h7,bnth h h7⟩ (.cons ⟨h8,bnth h h8⟩ (.cons ⟨h20,bnth h h20⟩ (.cons ⟨h21,bnth h h21⟩ (.cons ⟨h22,bnth h h22⟩ (.cons ⟨h27,bnth h h27⟩ (.cons ⟨h28,bnth h h28⟩ (.cons ⟨h29,bnth h h29⟩ .nil))))))))))) (.cons ⟨g0,bname h g0,rfl⟩ (.cons ⟨g1,bname h g1,rfl⟩ (.cons ⟨g114,bname h g114,rfl⟩ .nil)))) (muli.lp _ _ _ _ _ _ _ _ _ _ _ _ _ _ _ _ _ _ _ _ _ _ _ _ _ hat)
 ·cases ht
section
variable {N:Nat→Prop} {xe:X} {Se:St} (n2 m2 n m ob lb cb oa la ca:Nat) (z i:Int) (xs:List Int) (ta:TypeId) (ys:List Int) (tb:TypeId) (out:List Int) (nx:Nat)
abbrev mulo.st:St:=⟨gbuild [(1,.slice (some ⟨1,ob,none⟩) lb cb),(5,.slice (some ⟨114,0,none⟩) n m),(6,.func (.func 138) ⟨[.slice (some ⟨114,0,none⟩) n2 m2]⟩ ⟨[]⟩),(20,.slice (some ⟨0,oa,none⟩) la ca),(21,.int .i64 z),(22,.int .i64 i)] 0 45,[(0,.is .u32 xs ta),(1,.is .u32 ys tb),(114,.is .u32 out 144)],nx⟩
abbrev mulo.lk:=RX.lk [1,5,6,20,21,22] [0,1,114]
theorem mulo.rnd:rd Tryz.prog ⟨[(138,put.sp)],[],[]⟩ [(2,muli.t)] 5 (Ag Tryz.f125 0) (mulo.st n2 m2 n m ob lb cb oa la ca z i xs ta ys tb out nx) 45 [1,5,6,20,21,22] [0,1,114]=
 bif decide (i<z) then bif decide (0≤i)&&decide (i<((la:Nat):Int)) then bif (oa+i.toNat*1).blt xs.length then bif muli.ok n2 n i (xs.getD (oa+i.toNat*1) 0) ob lb (((lb:Nat):Int)) 0 ys out then mulo.lk .normal (mulo.st n2 m2 n m ob lb cb oa la ca z (i64.wrap (i+1)) xs ta ys tb (dg n (nv out+pw i.toNat*(xs.getD (oa+i.toNat*1) 0*nv (seg ys ob lb)))) nx) else none else none else none else mulo.lk (.exit 0) (mulo.st n2 m2 n m ob lb cb oa la ca z i xs ta ys tb out nx):=by kernel_rfl
def mulo.step0:=fun h0 h1 h2 h3 (ih:Lq Tryz.prog N (Ag Tryz.f125 0) _ xe Se)=>Lq.toK (f:=5) ⟨Aa Ig.ok Ac,Ai,Ad,Ah⟩ (Fv rfl muli.lok Be) (((((mulo.rnd n2 m2 n m ob lb cb oa la ca z i xs ta ys tb out nx).ct h0).ct h1).ct h2).ct h3) rfl rfl ih
def mulo.stop1:=fun h0=>Lq.endK (N:=N) (f:=5) ⟨Aa Ig.ok Ac,Ai,Ad,Ah⟩ (Fv rfl muli.lok Be) ((mulo.rnd n2 m2 n m ob lb cb oa la ca z i xs ta ys tb out nx).cf h0) (fun q=>by cases q) rfl rfl
end
def mulo.ok (n2 n ob lb oa la:Nat) (z i:Int) (xs ys out:List Int):Bool:=
 Nat.beq n2 n&&(Nat.beq n (la+lb+1)&&(decide (out=List.replicate n 0)&&(decide (i=0)&&(decide (z=(la:Int))&&(Du oa la xs&&(Du ob lb ys&&Nat.ble n 4294967299))))))
def mulo.lt (n2 m2 n m ob lb cb oa la ca:Nat) (z i:Int) (xs:List Int) (ta:TypeId) (ys:List Int) (tb:TypeId) (out:List Int) (nx:Nat):LT:= .got (mulo.ok n2 n ob lb oa la z i xs ys out) (.exit 0) (mulo.st n2 m2 n m ob lb cb oa la ca z z xs ta ys tb (dg n (nv (seg xs oa la)*nv (seg ys ob lb))) nx)
theorem Sr {a b:Int} {j k:Nat} (a0:0≤a) (a1:a<pw j) (b0:0≤b) (b1:b<pw k):a*b<pw (j+k):=by
 rw [OE]
 have hj:=Gd j
 have h1:a*b≤(pw j-1)*b:=Int.mul_le_mul_of_nonneg_right (by omega) b0
 have h2:(pw j-1)*b≤(pw j-1)*(pw k-1):=Int.mul_le_mul_of_nonneg_left (by omega) (by omega)
 have h3:(pw j-1)*(pw k-1)=pw j*pw k-pw j-pw k+1:=by rw [Int.sub_mul,Int.mul_sub]; omega
 have hk:=Gd k
 omega
theorem mulo.go {N:Nat→Prop} (m2 n m ob lb cb oa la ca:Nat) (xs:List Int) (ta:TypeId) (ys:List Int) (tb:TypeId) (nx:Nat) (hn:n=la+lb+1) (hn2:n≤4294967299) (hA:Du oa la xs=true) (hB:Du ob lb ys=true):∀(j i:Nat),i+j=la→Lq Tryz.prog N (Ag Tryz.f125 0) (mulo.st n m2 n m ob lb cb oa la ca (la:Int) (i:Int) xs ta ys tb (dg n (nv (seg xs oa i)*nv (seg ys ob lb))) nx) (.exit 0) (mulo.st n m2 n m ob lb cb oa la ca (la:Int) (la:Int) xs ta ys tb (dg n (nv (seg xs oa la)*nv (seg ys ob lb))) nx)
 | 0,i,h=>by
  obtain rfl:i=la:=by omega
  exact mulo.stop1 _ _ _ _ _ _ _ _ _ _ _ _ _ _ _ _ _ _ (dfalse (by omega))
 | j +1,i,h=>by
  obtain ⟨h1,h2,h3⟩:=Eo.1 hA
  obtain ⟨h4,h5,h6⟩:=Eo.1 hB
  have e1:i64.wrap ((i:Int)+1)=((i+1:Nat):Int):=by rw [w64 (by omega) (by omega)]; omega
  have ea:oa+((i:Int)).toNat*1=oa+i:=by simp
  have hX:=Fj h3 (oa+i)
  have bB:=Gz (Fg h6 ob lb)
  have bB0:=El (Fg h6 ob lb)
  rw [Fh h4] at bB
  have bnd:∀q,q≤la→0≤nv (seg xs oa q)*nv (seg ys ob lb)∧nv (seg xs oa q)*nv (seg ys ob lb)<pw n:=fun q hq=>by
   have a1:=Gz (Fg h3 oa q)
   have a0:=El (Fg h3 oa q)
   rw [Fh (by omega)] at a1
   exact ⟨Int.mul_nonneg a0 bB0,Int.lt_of_lt_of_le (Sr a0 a1 bB0 bB) (Hh (by omega))⟩
  have hk:=bnd i (by omega)
  have hk1:=bnd (i+1) (by omega)
  have hst:nv (seg xs oa i)*nv (seg ys ob lb)+pw i*(xs.getD (oa+i) 0*nv (seg ys ob lb))=nv (seg xs oa (i+1))*nv (seg ys ob lb):=by
   rw [Fu (o:=oa) (l:=i) (by omega),Int.add_mul,Int.mul_assoc]
  have hnv:=I0 n _ hk.1 hk.2
  refine mulo.step0 _ _ _ _ _ _ _ _ _ _ _ _ _ _ _ _ _ _ (dtrue (by omega)) (dtrue2 (by omega) (by omega)) (by rw [ea]; exact Fi (by omega)) ?_ ?_
  ·rw [ea]
   simp only [muli.ok,zB,Nat.ble_eq,zD,Hw,Nat.beq_eq,Di,Int.toNat_natCast]
   rw [hnv,hst]
   exact ⟨trivial,trivial,hn2,Gn _ _,by omega,by omega,hX.1,hX.2,trivial,trivial,hB,hk1.2⟩
  ·rw [ea,e1,Int.toNat_natCast,hnv,hst]
   exact mulo.go m2 n m ob lb cb oa la ca xs ta ys tb nx hn hn2 hA hB j (i+1) (by omega)
theorem mulo.lp {N:Nat→Prop} (n2 m2 n m ob lb cb oa la ca:Nat) (z i:Int) (xs:List Int) (ta:TypeId) (ys:List Int) (tb:TypeId) (out:List Int) (nx:Nat) {x:X} {S':St} (h:(mulo.lt n2 m2 n m ob lb cb oa la ca z i xs ta ys tb out nx).at=some (x,S')):Lq Tryz.prog N (Ag Tryz.f125 0) (mulo.st n2 m2 n m ob lb cb oa la ca z i xs ta ys tb out nx) x S':=by
 obtain ⟨h1,rfl,rfl⟩:=Fw h
 simp only [mulo.ok,zB,Nat.ble_eq,zD] at h1
 obtain ⟨h1,h2,rfl,rfl,rfl,h6,h7,h8⟩:=h1
 obtain rfl:=zE h1
 have h2:=zE h2
 have:=mulo.go (N:=N) m2 n2 m ob lb cb oa la ca xs ta ys tb nx h2 h8 h6 h7 la 0 (by omega)
 rw [Gw,show nv ([]:List Int)=0 from rfl,Int.zero_mul,LG] at this
 exact this
def mulo.t:LSpec:=fun S=>match RX.nth S.tmps 1,RX.nth S.tmps 5,RX.nth S.tmps 6,RX.nth S.tmps 20,RX.nth S.tmps 21,RX.nth S.tmps 22,RX.look S.heap 0,RX.look S.heap 1,RX.look S.heap 114 with
 | .slice (some ⟨1,ob,none⟩) lb cb,.slice (some ⟨114,0,none⟩) n m,.func (.func 138) ⟨[.slice (some ⟨114,0,none⟩) n2 m2]⟩ ⟨[]⟩,.slice (some ⟨0,oa,none⟩) la ca,.int .i64 z,.int .i64 i,some (.is .u32 xs ta),some (.is .u32 ys tb),some (.is .u32 out 144)=>bif Nat.beq S.tmps.length 45 then some (mulo.lt n2 m2 n m ob lb cb oa la ca z i xs ta ys tb out S.nxt) else none
 |_,_,_,_,_,_,_,_,_=>none
theorem mulo.lok {N:Nat→Prop} :LOKn Tryz.prog N (Ag Tryz.f125 0) (mulo.t):=by
 refine Ge fun S lt x S' ht hat=> ?_
 unfold mulo.t at ht
 split at ht
 ·rename_i ob lb cb n m n2 m2 oa la ca z i xs ta ys tb out h1 h5 h6 h20 h21 h22 g0 g1 g114
  cases hb:Nat.beq S.tmps.length 45 with
  |false=>rw [hb] at ht; cases ht
  | true=>
   rw [hb] at ht
   injection ht with ht
   subst ht
   have hb:=zE hb
   exact .enter (fun h=>Gr hb (.cons ⟨h1,bnth h h1⟩ (.cons ⟨h5,bnth h h5⟩ (.cons ⟨h6,bnth h h6⟩ (.cons ⟨h20,bnth h h20⟩ (.cons ⟨h21,bnth h h21⟩ (.cons ⟨h22,bnth h h22⟩ .nil)))))) (.cons ⟨g0,bname h g0,rfl⟩ (.cons ⟨g1,bname h g1,rfl⟩ (.cons ⟨g114,bname h g114,rfl⟩ .nil)))) (mulo.lp _ _ _ _ _ _ _ _ _ _ _ _ _ _ _ _ _ _ hat)
 ·cases ht
theorem rmul.run (oa la ca ob lb cb:Nat) (xs ys:List Int):xfnN Tryz.prog ⟨[(134,Et.sp)],[],[]⟩ [(0,mulo.t)] 10 Tryz.f125 [.slice (some ⟨0,oa,none⟩) la ca,.slice (some ⟨1,ob,none⟩) lb cb] [.is .u32 xs 144,.is .u32 ys 144] [114]=
 bif decide (0≤i64.wrap (i64.wrap (((la:Nat):Int)+((lb:Nat):Int))+1))&&(decide (i64.wrap (i64.wrap (((la:Nat):Int)+((lb:Nat):Int))+1)≤i64.wrap (i64.wrap (((la:Nat):Int)+((lb:Nat):Int))+1))&&(decide (i64.wrap (i64.wrap (((la:Nat):Int)+((lb:Nat):Int))+1)≤140737488355328)&&decide (((3+1:Nat):Int)*i64.wrap (i64.wrap (((la:Nat):Int)+((lb:Nat):Int))+1)≤140737488355328))) then bif mulo.ok (i64.wrap (i64.wrap (((la:Nat):Int)+((lb:Nat):Int))+1)).toNat (i64.wrap (i64.wrap (((la:Nat):Int)+((lb:Nat):Int))+1)).toNat ob lb oa la (((la:Nat):Int)) 0 xs ys (List.replicate ((i64.wrap (i64.wrap (((la:Nat):Int)+((lb:Nat):Int))+1)).toNat*1) 0) then bif trim.ok 0 (i64.wrap (i64.wrap (((la:Nat):Int)+((lb:Nat):Int))+1)).toNat (i64.wrap (i64.wrap (((la:Nat):Int)+((lb:Nat):Int))+1)).toNat (dg (i64.wrap (i64.wrap (((la:Nat):Int)+((lb:Nat):Int))+1)).toNat (nv (seg xs oa la)*nv (seg ys ob lb))) then some ((Value.slice (some {block:=114,off:=0}) (tl (seg (dg (i64.wrap (i64.wrap (((la:Nat):Int)+((lb:Nat):Int))+1)).toNat (nv (seg xs oa la)*nv (seg ys ob lb))) 0 (i64.wrap (i64.wrap (((la:Nat):Int)+((lb:Nat):Int))+1)).toNat)) (i64.wrap (i64.wrap (((la:Nat):Int)+((lb:Nat):Int))+1)).toNat,[Blk.is u32 xs 144,Blk.is u32 ys 144,Blk.is u32 (dg (i64.wrap (i64.wrap (((la:Nat):Int)+((lb:Nat):Int))+1)).toNat (nv (seg xs oa la)*nv (seg ys ob lb))) 144])) else none else none else none:=by kernel_rfl
def rmul.run0:=fun oa la ca ob lb cb xs ys h0 h1 h2=>((((rmul.run oa la ca ob lb cb xs ys).ct h0).ct h1).ct h2)
def mul.sp:HSpec
 |[.slice (some ⟨0,oa,none⟩) la ca,.slice (some ⟨1,ob,none⟩) lb cb],[.is .u32 xs 144,.is .u32 ys 144]=>some (Du oa la xs&&(Du ob lb ys&&Nat.ble (la+lb+1) 4294967296),.slice (some ⟨2,0,none⟩) (tl (dg (la+lb+1) (nv (seg xs oa la)*nv (seg ys ob lb)))) (la+lb+1),[.is .u32 xs 144,.is .u32 ys 144,.is .u32 (dg (la+lb+1) (nv (seg xs oa la)*nv (seg ys ob lb))) 144])
 |_,_=>none
theorem PQ.ok:SOK Tryz.prog 125 mul.sp:=by
 refine Hg (E:=⟨[(134,Et.sp)],[],[]⟩) (L:=[(0,mulo.t)]) ⟨Aa Et.ok Ac,Ai,Ad,Ah⟩ 10 Tryz.func125 (by decide) rfl (Ga rfl rfl mulo.lok) fun vs bl v bl' h=> ?_
 unfold mul.sp at h
 split at h
 ·rename_i oa la ca ob lb cb xs ys
  simp only [zS,zP,zB,Nat.ble_eq] at h
  obtain ⟨⟨hA,hB,hb⟩,rfl,rfl⟩:=h
  have e1:i64.wrap (i64.wrap (((la:Nat):Int)+((lb:Nat):Int))+1)=((la+lb+1:Nat):Int):=by rw [w64 (n:=((la:Nat):Int)+((lb:Nat):Int)) (by omega) (by omega),w64 (by omega) (by omega)]; omega
  have hr:=rmul.run0 oa la ca ob lb cb xs ys
  rw [e1,Int.toNat_natCast] at hr
  refine ⟨[114],(hr (My (by omega)) ?_ (I3 (Di _ _) (by omega))).trans ?_,by simp [okV,Nat.blt],rfl,Ay rfl,List.nodup_cons.2 ⟨by simp,List.nodup_nil⟩,by simp⟩
  ·simp only [mulo.ok,zB,Nat.ble_eq,zD,Nat.beq_eq,Nat.mul_one]
   exact ⟨trivial,trivial,trivial,trivial,trivial,hA,hB,by omega⟩
  ·rw [Je]; rfl
 ·cases h
theorem rMul.run (na:Bool) (sa:ByteArray) (nb:Bool) (sb:ByteArray):xfn Tryz.prog ⟨[(96,Valid.sp),(121,of.sp),(120,with.sp),(125,mul.sp)],[],[]⟩ [] 10 Tryz.f102 [.agg ⟨[.bool na,.string sa]⟩,.agg ⟨[.bool nb,.string sb]⟩] []=
 let c0:=dg (tl (dg (nd sa) (bv sa.data.toList))+tl (dg (nd sb) (bv sb.data.toList))+1) (nv (seg (dg (nd sa) (bv sa.data.toList)) 0 (tl (dg (nd sa) (bv sa.data.toList))))*nv (seg (dg (nd sb) (bv sb.data.toList)) 0 (tl (dg (nd sb) (bv sb.data.toList)))))
 bif !vld na sa then some ((Value.agg ⟨[Value.bool false,Value.string (⟨#[]⟩:ByteArray)]⟩,[])) else bif !vld nb sb then some ((Value.agg ⟨[Value.bool false,Value.string (⟨#[]⟩:ByteArray)]⟩,[])) else bif sa.size.ble 8589934592 then bif sb.size.ble 8589934592 then bif Du 0 (tl (dg (nd sa) (bv sa.data.toList))) (dg (nd sa) (bv sa.data.toList))&&(Du 0 (tl (dg (nd sb) (bv sb.data.toList))) (dg (nd sb) (bv sb.data.toList))&&(tl (dg (nd sa) (bv sa.data.toList))+tl (dg (nd sb) (bv sb.data.toList))+1).ble 4294967296) then bif Du 0 (tl c0) c0 then some ((Value.agg ⟨[Value.bool (!na==nb&& !nv (seg c0 0 (tl c0))==0),Value.string (str (enc (nv (seg c0 0 (tl c0)))))]⟩,[])) else none else none else none else none:=by kernel_rfl
def rMul.run0:=fun na sa nb sb h0=>((rMul.run na sa nb sb).ct h0)
def rMul.run1:=fun na sa nb sb h0 h1=>(((rMul.run na sa nb sb).cf h0).ct h1)
def rMul.run2:=fun na sa nb sb h0 h1 h2 h3 h4 h5=>(((((((rMul.run na sa nb sb).cf h0).cf h1).ct h2).ct h3).ct h4).ct h5)
theorem rSub.run (na:Bool) (sa:ByteArray) (nb:Bool) (sb:ByteArray):xfn Tryz.prog ⟨[(96,Valid.sp),(126,Neg.sp),(101,Add.sp)],[],[]⟩ [] 10 Tryz.f108 [.agg ⟨[.bool na,.string sa]⟩,.agg ⟨[.bool nb,.string sb]⟩] []=
 bif !vld na sa then some ((Value.agg ⟨[Value.bool false,Value.string (⟨#[]⟩:ByteArray)]⟩,[])) else bif !vld nb sb then some ((Value.agg ⟨[Value.bool false,Value.string (⟨#[]⟩:ByteArray)]⟩,[])) else bif szOk sa&&szOk (str (enc (((bif vld nb sb then -vl nb sb else 0).natAbs:Nat):Int))) then some ((Value.agg ⟨[Value.bool (decide ((bif vld na sa&&vld (decide ((bif vld nb sb then -vl nb sb else 0)<0)) (str (enc (((bif vld nb sb then -vl nb sb else 0).natAbs:Nat):Int))) then vl na sa+vl (decide ((bif vld nb sb then -vl nb sb else 0)<0)) (str (enc (((bif vld nb sb then -vl nb sb else 0).natAbs:Nat):Int))) else 0)<0)),Value.string (str (enc (((bif vld na sa&&vld (decide ((bif vld nb sb then -vl nb sb else 0)<0)) (str (enc (((bif vld nb sb then -vl nb sb else 0).natAbs:Nat):Int))) then vl na sa+vl (decide ((bif vld nb sb then -vl nb sb else 0)<0)) (str (enc (((bif vld nb sb then -vl nb sb else 0).natAbs:Nat):Int))) else 0).natAbs:Nat):Int)))]⟩,[])) else none:=by kernel_rfl
def rSub.run0:=fun na sa nb sb h0=>((rSub.run na sa nb sb).ct h0)
def rSub.run1:=fun na sa nb sb h0 h1=>(((rSub.run na sa nb sb).cf h0).ct h1)
def rSub.run2:=fun na sa nb sb h0 h1 h2=>((((rSub.run na sa nb sb).cf h0).cf h1).ct h2)
def szM (s:ByteArray):Bool:=Nat.ble s.size 4294967296
theorem JA {s:ByteArray} (h:szM s=true):szOk s=true:=by
 simp only [szM,szOk,Nat.ble_eq] at h ⊢
 omega
theorem LO (n:Bool) (s:ByteArray):((vl n s).natAbs:Int)=bv s.data.toList:=by
 have hb:=Fd s.data.toList
 unfold vl
 cases n<;>simp only [cond_true,cond_false]<;>omega
theorem enc_vl {n:Bool} {s:ByteArray} (h:vld n s=true):str (enc ((vl n s).natAbs:Int))=s:=by
 rw [LO,JL (JY h)]
 rfl
theorem RJ {n:Bool} {s:ByteArray} (h:vld n s=true):str (enc ((-vl n s).natAbs:Int))=s:=by
 rw [show ((-vl n s).natAbs:Int)=((vl n s).natAbs:Int) by omega,enc_vl h]
def Mul.sp:HSpec
 |[.agg ⟨[.bool na,.string sa]⟩,.agg ⟨[.bool nb,.string sb]⟩],[]=>some (szM sa&&szM sb,iI (bif vld na sa&&vld nb sb then vl na sa*vl nb sb else 0),[])
 |_,_=>none
def Sub.sp:HSpec
 |[.agg ⟨[.bool na,.string sa]⟩,.agg ⟨[.bool nb,.string sb]⟩],[]=>some (szOk sa&&szOk sb,iI (bif vld na sa&&vld nb sb then vl na sa-vl nb sb else 0),[])
 |_,_=>none
theorem Mul.ok:SOK Tryz.prog 102 Mul.sp:=by
 refine Cu (E:=⟨[(96,Valid.sp),(121,of.sp),(120,with.sp),(125,mul.sp)],[],[]⟩) (L:=[]) ⟨Aa Valid.ok (Aa of.ok (Aa with.ok (Aa PQ.ok Ac))),Ai,Ad,Ah⟩ 10 Tryz.func102 (by decide) rfl Bv fun vs bl v bl' h=> ?_
 unfold Mul.sp at h
 split at h
 ·rename_i na sa nb sb
  simp only [zS,zP,zB] at h
  obtain ⟨⟨h1,h2⟩,rfl,rfl⟩:=h
  refine ⟨?_,by simp [okV],clo_spec 8 _ rfl,Ay rfl⟩
  cases va:vld na sa with
  |false=>exact (rMul.run0 na sa nb sb (GU va)).trans (by simp only [Bool.false_and,cond_false]; rw [Gm])
  |true=>
  cases vb:vld nb sb with
  |false=>exact (rMul.run1 na sa nb sb (Dp va) (GU vb)).trans (by simp only [Bool.and_false,cond_false]; rw [Gm])
  |true=>
  have hsa:=zL h1
  have hsb:=zL h2
  have na_:nd sa≤1073741825:=by unfold nd; omega
  have nb_:nd sb≤1073741825:=by unfold nd; omega
  have a0:=Fd sa.data.toList
  have b0:=Fd sb.data.toList
  have a1:=H7 sa
  have b1:=H7 sb
  have oa:=okc (n:=nd sa) (bv sa.data.toList) (by omega)
  have ob:=okc (n:=nd sb) (bv sb.data.toList) (by omega)
  have ta:=Hz (dg (nd sa) (bv sa.data.toList))
  have tb:=Hz (dg (nd sb) (bv sb.data.toList))
  rw [Di] at ta tb
  refine (rMul.run2 na sa nb sb (Dp va) (Dp vb) (JA h1) (JA h2) (by rw [oa,ob]; simp only [Bool.true_and,Nat.ble_eq]; omega) (okc _ (by omega))).trans ?_
  have q:=Sr a0 (Ii a0 a1) b0 (Ii b0 b1)
  have q2:=Hh (show tl (dg (nd sa) (bv sa.data.toList))+tl (dg (nd sb) (bv sb.data.toList))≤tl (dg (nd sa) (bv sa.data.toList))+tl (dg (nd sb) (bv sb.data.toList))+1 by omega)
  have p0:=Int.mul_nonneg a0 b0
  show some (iv (!(na==nb)) _,_)=_
  rw [nvc a0 a1,nvc b0 b1,nvc p0 (by omega),IA _ p0]
  unfold vl
  simp only [Bool.and_true,cond_true]
  cases na<;>cases nb<;>simp only [cond_true,cond_false,Int.neg_mul,Int.mul_neg,Int.neg_neg]<;>rfl
 ·cases h
theorem Sub.ok:SOK Tryz.prog 108 Sub.sp:=by
 refine Cu (E:=⟨[(96,Valid.sp),(126,Neg.sp),(101,Add.sp)],[],[]⟩) (L:=[]) ⟨Aa Valid.ok (Aa Neg.ok (Aa Add.ok Ac)),Ai,Ad,Ah⟩ 10 Tryz.func108 (by decide) rfl Bv fun vs bl v bl' h=> ?_
 unfold Sub.sp at h
 split at h
 ·rename_i na sa nb sb
  simp only [zS,zP,zB] at h
  obtain ⟨⟨h1,h2⟩,rfl,rfl⟩:=h
  refine ⟨?_,by simp [okV],clo_spec 8 _ rfl,Ay rfl⟩
  cases va:vld na sa with
  |false=>exact (rSub.run0 na sa nb sb (GU va)).trans (by simp only [Bool.false_and,cond_false]; rw [Gm])
  |true=>
  cases vb:vld nb sb with
  |false=>exact (rSub.run1 na sa nb sb (Dp va) (GU vb)).trans (by simp only [Bool.and_false,cond_false]; rw [Gm])
  |true=>
  have hr:=rSub.run2 na sa nb sb (Dp va) (Dp vb)
  simp only [va,vb,cond_true,RJ vb,JX,Lz,Bool.and_true] at hr
  rw [h1,h2] at hr
  have hv:=JX (-vl nb sb)
  have hw:=Lz (-vl nb sb)
  rw [RJ vb] at hv hw
  simp only [hv,hw,cond_true] at hr
  refine (hr rfl).trans ?_
  simp only [Bool.and_true,cond_true]
  rfl
 ·cases h
section
variable {N:Nat→Prop} {xe:X} {Se:St} (oa la ca:Nat) (r i:Int) (xs:List Int) (ta:TypeId) (nx:Nat)
abbrev single.st:St:=⟨gbuild [(0,.slice (some ⟨0,oa,none⟩) la ca),(3,.int .u64 r),(4,.int .i64 i)] 0 21,[(0,.is .u32 xs ta)],nx⟩
abbrev single.lk:=RX.lk [0,3,4] [0]
theorem single.rnd:rd Tryz.prog ⟨[],[],[]⟩ [] 3 (Ag Tryz.f133 0) (single.st oa la ca r i xs ta nx) 21 [0,3,4] [0]=
 bif decide (i≥0) then bif decide (0≤i)&&decide (i<((la:Nat):Int)) then bif (oa+i.toNat*1).blt xs.length then single.lk .normal (single.st oa la ca (Ew BinOp.or u64 (u64.wrap (r*2^min (Int.toNat 32) u64.bits)) (u64.wrap (xs.getD (oa+i.toNat*1) 0))) (i64.wrap (i-1)) xs ta nx) else none else none else single.lk (.exit 0) (single.st oa la ca r i xs ta nx):=by kernel_rfl
def single.step0:=fun h0 h1 h2 (ih:Lq Tryz.prog N (Ag Tryz.f133 0) _ xe Se)=>Lq.toK (f:=3) ⟨Ac,Ai,Ad,Ah⟩ Be ((((single.rnd oa la ca r i xs ta nx).ct h0).ct h1).ct h2) rfl rfl ih
def single.stop1:=fun h0=>Lq.endK (N:=N) (f:=3) ⟨Ac,Ai,Ad,Ah⟩ Be ((single.rnd oa la ca r i xs ta nx).cf h0) (fun q=>by cases q) rfl rfl
end
section
variable {N:Nat→Prop} {xe:X} {Se:St} (oa la ca:Nat) (dv:Int) (n m:Nat) (r i:Int) (xs:List Int) (ta:TypeId) (out:List Int) (tc:TypeId) (nx:Nat)
abbrev small.st:St:=⟨gbuild [(0,.slice (some ⟨0,oa,none⟩) la ca),(1,.int .u32 dv),(6,.slice (some ⟨65,0,none⟩) n m),(7,.int .u32 r),(8,.int .i64 i)] 0 35,[(0,.is .u32 xs ta),(65,.is .u32 out tc)],nx⟩
abbrev small.lk:=RX.lk [0,1,6,7,8] [0,65]
theorem small.rnd:rd Tryz.prog ⟨[],[(146,Tryz.f146)],[]⟩ [] 5 (Ag Tryz.f140 0) (small.st oa la ca dv n m r i xs ta out tc nx) 35 [0,1,6,7,8] [0,65]=
 bif decide (i≥0) then bif decide (0≤i)&&decide (i<((la:Nat):Int)) then bif (oa+i.toNat*1).blt xs.length then bif dv !=0 then bif decide (dv≤r) then none else bif u64.wrap dv !=0 then bif u64.wrap dv !=0 then bif decide (0≤i)&&decide (i<((n:Nat):Int)) then bif (0+i.toNat*1).blt out.length then small.lk .normal (small.st oa la ca dv n m (u32.wrap ((Ew BinOp.or u64 (u64.wrap (u64.wrap r*2^min (Int.toNat 32) u64.bits)) (u64.wrap (xs.getD (oa+i.toNat*1) 0))).tmod (u64.wrap dv))) (i64.wrap (i-1)) xs ta (out.set (0+i.toNat*1) (u32.wrap (u64.wrap ((Ew BinOp.or u64 (u64.wrap (u64.wrap r*2^min (Int.toNat 32) u64.bits)) (u64.wrap (xs.getD (oa+i.toNat*1) 0))).tdiv (u64.wrap dv))))) tc nx) else none else none else none else none else bif u64.wrap dv !=0 then bif u64.wrap dv !=0 then bif decide (0≤i)&&decide (i<((n:Nat):Int)) then bif (0+i.toNat*1).blt out.length then small.lk .normal (small.st oa la ca dv n m (u32.wrap ((Ew BinOp.or u64 (u64.wrap (u64.wrap r*2^min (Int.toNat 32) u64.bits)) (u64.wrap (xs.getD (oa+i.toNat*1) 0))).tmod (u64.wrap dv))) (i64.wrap (i-1)) xs ta (out.set (0+i.toNat*1) (u32.wrap (u64.wrap ((Ew BinOp.or u64 (u64.wrap (u64.wrap r*2^min (Int.toNat 32) u64.bits)) (u64.wrap (xs.getD (oa+i.toNat*1) 0))).tdiv (u64.wrap dv))))) tc nx) else none else none else none else none else none else none else small.lk (.exit 0) (small.st oa la ca dv n m r i xs ta out tc nx):=by kernel_rfl
def small.step0:=fun h0 h1 h2 h3 h4 h5 h6 h7 h8 (ih:Lq Tryz.prog N (Ag Tryz.f140 0) _ xe Se)=>Lq.toK (f:=5) ⟨Ac,Fl ⟨Tryz.func146,by decide,rfl⟩ Ai,Ad,Ah⟩ Be ((((((((((small.rnd oa la ca dv n m r i xs ta out tc nx).ct h0).ct h1).ct h2).ct h3).cf h4).ct h5).ct h6).ct h7).ct h8) rfl rfl ih
def small.stop2:=fun h0=>Lq.endK (N:=N) (f:=5) ⟨Ac,Fl ⟨Tryz.func146,by decide,rfl⟩ Ai,Ad,Ah⟩ Be ((small.rnd oa la ca dv n m r i xs ta out tc nx).cf h0) (fun q=>by cases q) rfl rfl
end
def tw (xs:List Int) (o l k:Nat):Int:=nv (seg xs (o+k) (l-k))
theorem Oz {xs:List Int} {o l:Nat} (h:o<xs.length):seg xs o (l+1)=xs.getD o 0::seg xs (o+1) l:=by
 unfold seg
 rw [List.drop_eq_getElem_cons h,List.take_succ_cons,List.getD_eq_getElem?_getD,List.getElem?_eq_getElem h]
 rfl
theorem SB (xs:List Int) (o l:Nat):tw xs o l l=0:=by unfold tw; rw [Nat.sub_self,Gw]; rfl
theorem QV {xs:List Int} {o l k:Nat} (hk:k<l) (h:o+l≤xs.length):tw xs o l k=xs.getD (o+k) 0+4294967296*tw xs o l (k+1):=by
 unfold tw
 rw [show l-k=(l-(k+1))+1 by omega,Oz (by omega)]
 rfl
theorem tw_zero (xs:List Int) (o l:Nat):tw xs o l 0=nv (seg xs o l):=rfl
theorem Nd {xs:List Int} (hd:dig xs) (o l k:Nat):0≤tw xs o l k:=El (Fg hd _ _)
theorem tw_lt {xs:List Int} (hd:dig xs) {o l k:Nat} (hk:k≤l) (h:o+l≤xs.length):tw xs o l k<pw (l-k):=by
 have:=Gz (Fg hd (o+k) (l-k))
 rwa [Fh (by omega)] at this
theorem PI {x r:Int} (x0:0≤x) (x1:x<4294967296) (r0:0≤r) (r1:r<4294967296):Ew .or .u64 (u64.wrap (r*2^min (Int.toNat 32) u64.bits)) (u64.wrap x)=x+4294967296*r:=by
 have h2:((2:Int)^min (Int.toNat 32) u64.bits)=4294967296:=rfl
 rw [h2,u64of (n:=x) x0 (by omega),u64of (n:=r*4294967296) (by omega) (by omega),or_comm]
 have:=or64 (a:=x) (c:=r) (i:=32) x0 x1 r0 (by omega)
 rw [show ((2^32:Nat):Int)=4294967296 from rfl] at this
 rw [this,Int.mul_comm]
def single.ok (oa la:Nat) (r i:Int) (xs:List Int):Bool:=decide (r=0)&&(decide (i+1=(la:Int))&&(Du oa la xs&&Nat.ble la 2))
def single.lt (oa la ca:Nat) (r i:Int) (xs:List Int) (ta:TypeId) (nx:Nat):LT:= .got (single.ok oa la r i xs) (.exit 0) (single.st oa la ca (nv (seg xs oa la)) (-1) xs ta nx)
theorem single.go {N:Nat→Prop} (oa la ca:Nat) (xs:List Int) (ta:TypeId) (nx:Nat) (h1:oa+la≤xs.length) (hd:dig xs) (h2:la≤2):∀(k:Nat),k≤la→Lq Tryz.prog N (Ag Tryz.f133 0) (single.st oa la ca (tw xs oa la k) ((k:Int)-1) xs ta nx) (.exit 0) (single.st oa la ca (nv (seg xs oa la)) (-1) xs ta nx)
 |0,_=>single.stop1 _ _ _ _ _ _ _ _ rfl
 | k+1,hk=>by
  have e0:(((k+1:Nat):Int)-1)=(k:Int):=by omega
  have e1:i64.wrap ((k:Int)-1)=(k:Int)-1:=w64 (by omega) (by omega)
  have ea:oa+((k:Int)).toNat*1=oa+k:=by simp
  have hX:=Fj hd (oa+k)
  have t0:=Nd hd oa la (k+1)
  have t1:=tw_lt hd hk h1
  have t2:pw (la-(k+1))≤4294967296:=Int.le_trans (Hh (show la-(k+1)≤1 by omega)) (by decide)
  rw [e0]
  refine single.step0 _ _ _ _ _ _ _ _ (dtrue (by omega)) (dtrue2 (by omega) (by omega)) (by rw [ea]; exact Fi (by omega)) ?_
  rw [ea,e1,PI hX.1 hX.2 t0 (by omega),←QV (by omega) h1]
  exact single.go oa la ca xs ta nx h1 hd h2 k (by omega)
theorem single.lp {N:Nat→Prop} (oa la ca:Nat) (r i:Int) (xs:List Int) (ta:TypeId) (nx:Nat) {x:X} {S':St} (h:(single.lt oa la ca r i xs ta nx).at=some (x,S')):Lq Tryz.prog N (Ag Tryz.f133 0) (single.st oa la ca r i xs ta nx) x S':=by
 obtain ⟨h1,rfl,rfl⟩:=Fw h
 simp only [single.ok,zB,Nat.ble_eq,zD,Eo] at h1
 obtain ⟨rfl,h2,⟨h3,h4,h5⟩,h6⟩:=h1
 obtain rfl:i=(la:Int)-1:=by omega
 have:=single.go (N:=N) oa la ca xs ta nx h3 h5 h6 la (Nat.le_refl _)
 rw [SB] at this
 exact this
def single.t:LSpec:=fun S=>match RX.nth S.tmps 0,RX.nth S.tmps 3,RX.nth S.tmps 4,RX.look S.heap 0 with
 | .slice (some ⟨0,oa,none⟩) la ca,.int .u64 r,.int .i64 i,some (.is .u32 xs ta)=>bif Nat.beq S.tmps.length 21 then some (single.lt oa la ca r i xs ta S.nxt) else none
 |_,_,_,_=>none
theorem single.lok {N:Nat→Prop} :LOKn Tryz.prog N (Ag Tryz.f133 0) (single.t):=by
 refine Ge fun S lt x S' ht hat=> ?_
 unfold single.t at ht
 split at ht
 ·rename_i oa la ca r i xs ta h0 h3 h4 g0
  cases hb:Nat.beq S.tmps.length 21 with
  |false=>rw [hb] at ht; cases ht
  | true=>
   rw [hb] at ht
   injection ht with ht
   subst ht
   have hb:=zE hb
   exact .enter (fun h=>Gr hb (.cons ⟨h0,bnth h h0⟩ (.cons ⟨h3,bnth h h3⟩ (.cons ⟨h4,bnth h h4⟩ .nil))) (.cons ⟨g0,bname h g0,rfl⟩ .nil)) (single.lp _ _ _ _ _ _ _ _ hat)
 ·cases ht
def small.ok (oa la:Nat) (dv:Int) (n:Nat) (r i:Int) (xs out:List Int):Bool:=decide (r=0)&&(decide (i+1=(la:Int))&&(Nat.beq n la&&(decide (out=List.replicate n 0)&&(Du oa la xs&&(decide (0<dv)&&decide (dv<4294967296))))))
def small.lt (oa la ca:Nat) (dv:Int) (n m:Nat) (r i:Int) (xs:List Int) (ta:TypeId) (out:List Int) (tc:TypeId) (nx:Nat):LT:= .got (small.ok oa la dv n r i xs out) (.exit 0) (small.st oa la ca dv n m (nv (seg xs oa la)%dv) (-1) xs ta (dg la (nv (seg xs oa la)/dv)) tc nx)
theorem Qo (k:Nat) (q:Int) (L:List Int):(List.replicate (k+1) 0++L).set k q=List.replicate k 0++q::L:=by
 rw [List.replicate_succ',List.append_assoc,List.set_append_right _ _ (by simp),List.length_replicate,Nat.sub_self]
 rfl
theorem small.go {N:Nat→Prop} (oa la ca:Nat) (dv:Int) (m:Nat) (xs:List Int) (ta tc:TypeId) (nx:Nat) (h1:oa+la≤xs.length) (h2:la≤4294967296) (hd:dig xs) (d0:0<dv) (d1:dv<4294967296):∀(k:Nat),k≤la→Lq Tryz.prog N (Ag Tryz.f140 0) (small.st oa la ca dv la m (tw xs oa la k%dv) ((k:Int)-1) xs ta (List.replicate k 0++dg (la-k) (tw xs oa la k/dv)) tc nx) (.exit 0) (small.st oa la ca dv la m (nv (seg xs oa la)%dv) (-1) xs ta (dg la (nv (seg xs oa la)/dv)) tc nx)
 | 0,_=>by
  rw [tw_zero]
  exact small.stop2 _ _ _ _ _ _ _ _ _ _ _ _ _ rfl
 | k +1,hk=>by
  have e0:(((k+1:Nat):Int)-1)=(k:Int):=by omega
  have e1:i64.wrap ((k:Int)-1)=(k:Int)-1:=w64 (by omega) (by omega)
  have ea:oa+((k:Int)).toNat*1=oa+k:=by simp
  have ez:0+((k:Int)).toNat*1=k:=by simp
  have hX:=Fj hd (oa+k)
  have t0:=Nd hd oa la (k+1)
  have ts:=QV (xs:=xs) (o:=oa) (l:=la) (k:=k) (by omega) h1
  have r0:=Int.emod_nonneg (tw xs oa la (k+1)) (show dv≠0 by omega)
  have r1:=Int.emod_lt_of_pos (tw xs oa la (k+1)) d0
  have q0:0≤tw xs oa la (k+1)/dv:=Int.ediv_nonneg t0 (by omega)
  have hsp:dv*(tw xs oa la (k+1)/dv)+tw xs oa la (k+1)%dv=tw xs oa la (k+1):=Int.mul_ediv_add_emod _ _
  have ih:=small.go (N:=N) oa la ca dv m xs ta tc nx h1 h2 hd d0 d1 k (by omega)
  rw [show la-k=la-(k+1)+1 by omega] at ih
  generalize hq:tw xs oa la (k+1)/dv=q at*
  generalize hr:tw xs oa la (k+1)%dv=r at*
  generalize hx:xs.getD (oa+k) 0=u at*
  have hT:tw xs oa la k=(u+4294967296*r)+dv*(4294967296*q):=by rw [ts,←hsp,Int.mul_add,Int.mul_left_comm]; omega
  have hTd:tw xs oa la k/dv=(u+4294967296*r)/dv+4294967296*q:=by rw [hT]; exact Int.add_mul_ediv_left _ _ (by omega)
  have hTm:tw xs oa la k%dv=(u+4294967296*r)%dv:=by rw [hT]; exact Int.add_mul_emod_self_left _ _ _
  have z0:0≤(u+4294967296*r)/dv:=Int.ediv_nonneg (by omega) (by omega)
  have z1:(u+4294967296*r)/dv<4294967296:=Int.ediv_lt_of_lt_mul d0 (by
   have:4294967296*(r+1)≤4294967296*dv:=Int.mul_le_mul_of_nonneg_left (by omega) (by omega)
   omega)
  have m0:=Int.emod_nonneg (u+4294967296*r) (show dv≠0 by omega)
  have m1:=Int.emod_lt_of_pos (u+4294967296*r) d0
  have ed:u64.wrap dv=dv:=u64of (by omega) (by omega)
  have er:u64.wrap r=r:=u64of (by omega) (by omega)
  rw [e0]
  refine small.step0 _ _ _ _ _ _ _ _ _ _ _ _ _ (dtrue (by omega)) (dtrue2 (by omega) (by omega)) (by rw [ea]; exact Fi (by omega)) (Em (by omega)) (dfalse (by omega)) (by rw [ed]; exact Em (by omega)) (by rw [ed]; exact Em (by omega)) (dtrue2 (by omega) (by omega)) (by rw [ez]; simp only [List.length_append,List.length_replicate,Di]; exact Fi (by omega)) ?_
  rw [ea,ez,e1,ed,er,hx,PI hX.1 hX.2 r0 (by omega),Int.tdiv_eq_ediv_of_nonneg (by omega),Int.tmod_eq_emod_of_nonneg (by omega),u64of (n:=(u+4294967296*r)/dv) z0 (by omega),u32of z0 z1,u32of m0 (by omega),Qo]
  rw [hTm,hTd] at ih
  have hdg:dg (la-(k+1)+1) ((u+4294967296*r)/dv+4294967296*q)=(u+4294967296*r)/dv::dg (la-(k+1)) q:=by
   have y1:((u+4294967296*r)/dv+4294967296*q)%4294967296=(u+4294967296*r)/dv:=by omega
   have y2:((u+4294967296*r)/dv+4294967296*q)/4294967296=q:=by omega
   simp only [dg,y1,y2]
  rw [hdg] at ih
  exact ih
theorem small.lp {N:Nat→Prop} (oa la ca:Nat) (dv:Int) (n m:Nat) (r i:Int) (xs:List Int) (ta:TypeId) (out:List Int) (tc:TypeId) (nx:Nat) {x:X} {S':St} (h:(small.lt oa la ca dv n m r i xs ta out tc nx).at=some (x,S')):Lq Tryz.prog N (Ag Tryz.f140 0) (small.st oa la ca dv n m r i xs ta out tc nx) x S':=by
 obtain ⟨h1,rfl,rfl⟩:=Fw h
 simp only [small.ok,zB,zD,Eo] at h1
 obtain ⟨rfl,h2,h3,rfl,⟨h4,h5,h6⟩,h7,h8⟩:=h1
 obtain rfl:=zE h3
 obtain rfl:i=(n:Int)-1:=by omega
 have:=small.go (N:=N) oa n ca dv m xs ta tc nx h4 h5 h6 h7 h8 n (Nat.le_refl _)
 rw [SB,Nat.sub_self,Int.zero_ediv,Int.zero_emod] at this
 simp only [dg,List.append_nil] at this
 exact this
def small.t:LSpec:=fun S=>match RX.nth S.tmps 0,RX.nth S.tmps 1,RX.nth S.tmps 6,RX.nth S.tmps 7,RX.nth S.tmps 8,RX.look S.heap 0,RX.look S.heap 65 with
 | .slice (some ⟨0,oa,none⟩) la ca,.int .u32 dv,.slice (some ⟨65,0,none⟩) n m,.int .u32 r,.int .i64 i,some (.is .u32 xs ta),some (.is .u32 out tc)=>bif Nat.beq S.tmps.length 35 then some (small.lt oa la ca dv n m r i xs ta out tc S.nxt) else none
 |_,_,_,_,_,_,_=>none
theorem small.lok {N:Nat→Prop} :LOKn Tryz.prog N (Ag Tryz.f140 0) (small.t):=by
 refine Ge fun S lt x S' ht hat=> ?_
 unfold small.t at ht
 split at ht
 ·rename_i oa la ca dv n m r i xs ta out tc h0 h1 h6 h7 h8 g0 g65
  cases hb:Nat.beq S.tmps.length 35 with
  |false=>rw [hb] at ht; cases ht
  | true=>
   rw [hb] at ht
   injection ht with ht
   subst ht
   have hb:=zE hb
   exact .enter (fun h=>Gr hb (.cons ⟨h0,bnth h h0⟩ (.cons ⟨h1,bnth h h1⟩ (.cons ⟨h6,bnth h h6⟩ (.cons ⟨h7,bnth h h7⟩ (.cons ⟨h8,bnth h h8⟩ .nil))))) (.cons ⟨g0,bname h g0,rfl⟩ (.cons ⟨g65,bname h g65,rfl⟩ .nil))) (small.lp _ _ _ _ _ _ _ _ _ _ _ _ _ hat)
 ·cases ht
section
variable {N:Nat→Prop} {xe:X} {Se:St} (k:Int) (n m oa la ca:Nat) (z i:Int) (xs:List Int) (ta:TypeId) (out:List Int) (tc:TypeId) (nx:Nat)
abbrev shift.st:St:=⟨gbuild [(1,.int .i64 k),(5,.slice (some ⟨65,0,none⟩) n m),(12,.slice (some ⟨0,oa,none⟩) la ca),(13,.int .i64 z),(14,.int .i64 i)] 0 40,[(0,.is .u32 xs ta),(65,.is .u32 out tc)],nx⟩
abbrev shift.lk:=RX.lk [1,5,12,13,14] [0,65]
theorem shift.rnd:rd Tryz.prog ⟨[],[],[]⟩ [] 3 (Ag Tryz.f142 0) (shift.st k n m oa la ca z i xs ta out tc nx) 40 [1,5,12,13,14] [0,65]=
 bif decide (i<z) then bif decide (0≤i)&&decide (i<((la:Nat):Int)) then bif (oa+i.toNat*1).blt xs.length then bif decide (0≤i)&&decide (i<((n:Nat):Int)) then bif (0+i.toNat*1).blt out.length then bif decide (0≤k) then bif decide (0≤i)&&decide (i<((n:Nat):Int)) then bif (0+i.toNat*1).blt out.length then bif decide (0≤k) then bif decide (0≤i64.wrap (i+1))&&decide (i64.wrap (i+1)<((n:Nat):Int)) then bif (0+(i64.wrap (i+1)).toNat*1).blt (out.set (0+i.toNat*1) (Ew BinOp.or u32 (out.getD (0+i.toNat*1) 0) (u32.wrap (xs.getD (oa+i.toNat*1) 0*2^min k.toNat u32.bits)))).length then shift.lk .normal (shift.st k n m oa la ca z (i64.wrap (i+1)) xs ta ((out.set (0+i.toNat*1) (Ew BinOp.or u32 (out.getD (0+i.toNat*1) 0) (u32.wrap (xs.getD (oa+i.toNat*1) 0*2^min k.toNat u32.bits)))).set (0+(i64.wrap (i+1)).toNat*1) (u32.wrap ((u64.wrap (u64.wrap (xs.getD (oa+i.toNat*1) 0)*2^min k.toNat u64.bits)).fdiv (2^min (Int.toNat 32) u64.bits)))) tc nx) else none else none else none else none else none else none else none else none else none else none else shift.lk (.exit 0) (shift.st k n m oa la ca z i xs ta out tc nx):=by kernel_rfl
def shift.step0:=fun h0 h1 h2 h3 h4 h5 h6 h7 h8 h9 h10 (ih:Lq Tryz.prog N (Ag Tryz.f142 0) _ xe Se)=>Lq.toK (f:=3) ⟨Ac,Ai,Ad,Ah⟩ Be ((((((((((((shift.rnd k n m oa la ca z i xs ta out tc nx).ct h0).ct h1).ct h2).ct h3).ct h4).ct h5).ct h6).ct h7).ct h8).ct h9).ct h10) rfl rfl ih
def shift.stop1:=fun h0=>Lq.endK (N:=N) (f:=3) ⟨Ac,Ai,Ad,Ah⟩ Be ((shift.rnd k n m oa la ca z i xs ta out tc nx).cf h0) (fun q=>by cases q) rfl rfl
end
def p2 (k:Nat):Int:=((2^k:Nat):Int)
theorem KR (k:Nat):0<p2 k:=by have:=Nat.two_pow_pos k; simp only [p2]; omega
theorem p2_le {k:Nat} (h:k≤31):p2 k≤2147483648:=by
 have:=Nat.pow_le_pow_right (show 0<2 by decide) h
 simp only [p2]; omega
theorem Mr {k:Nat} (h:k≤32):p2 k*p2 (32-k)=4294967296:=by
 simp only [p2]
 rw [←Int.natCast_mul,←Nat.pow_add,show k+(32-k)=32 by omega]
 rfl
def shift.ok (k:Int) (n oa la:Nat) (z i:Int) (xs out:List Int):Bool:=decide (0≤k)&&(decide (k≤31)&&(Nat.beq n (la+1)&&(decide (z=(la:Int))&&(decide (i=0)&&(decide (out=List.replicate n 0)&&Du oa la xs)))))
def shift.lt (k:Int) (n m oa la ca:Nat) (z i:Int) (xs:List Int) (ta:TypeId) (out:List Int) (tc:TypeId) (nx:Nat):LT:= .got (shift.ok k n oa la z i xs out) (.exit 0) (shift.st k n m oa la ca z z xs ta (dg (la+1) (nv (seg xs oa la)*p2 k.toNat)) tc nx)
theorem shl_or {h x:Int} {k:Nat} (hk:k≤31) (h0:0≤h) (h1:h<p2 k) (x0:0≤x) (x1:x<4294967296):Ew .or .u32 h (u32.wrap (x*p2 k))=(h+x*p2 k)%4294967296∧(h+x*p2 k)/4294967296=x*p2 k/4294967296:=by
 have hp:=KR k
 have hs:=Mr (k:=k) (by omega)
 have hq:=KR (32-k)
 have e1:x*p2 k%4294967296=x%p2 (32-k)*p2 k:=by
  rw [←hs,Int.mul_comm x,Int.mul_emod_mul_of_pos _ _ hp,Int.mul_comm]
 have m0:=Int.emod_nonneg x (show p2 (32-k)≠0 by omega)
 have m1:=Int.emod_lt_of_pos x hq
 have hle:(x%p2 (32-k)+1)*p2 k≤p2 (32-k)*p2 k:=Int.mul_le_mul_of_nonneg_right (by omega) (by omega)
 rw [Int.add_mul,Int.one_mul,Int.mul_comm (p2 (32-k)),hs] at hle
 have hb:h+x%p2 (32-k)*p2 k<4294967296:=by omega
 have hn:0≤x%p2 (32-k)*p2 k:=Int.mul_nonneg m0 (by omega)
 have hxd:=Int.mul_ediv_add_emod (x*p2 k) 4294967296
 rw [wu32,e1]
 refine ⟨?_,by rw [e1] at hxd; omega⟩
 have:=or32 (a:=h) (c:=x%p2 (32-k)) (i:=k) h0 h1 m0 hb
 rw [show ((2^k:Nat):Int)=p2 k from rfl] at this
 rw [this]
 rw [e1] at hxd
 omega
theorem ap_get {k n:Nat} (h:k<n) (v:Int):(ap (k+1) v n).getD k 0=v/pw k%4294967296:=by
 unfold ap
 rw [LH,List.append_assoc,List.getD_eq_getElem?_getD,List.getElem?_append_right (by rw [Di]; omega),Di,Nat.sub_self]
 rfl
theorem shift.go {N:Nat→Prop} (k:Nat) (m oa la ca:Nat) (xs:List Int) (ta tc:TypeId) (nx:Nat) (hk:k≤31) (h1:oa+la≤xs.length) (h2:la≤4294967296) (hd:dig xs):∀(j i:Nat),i+j=la→Lq Tryz.prog N (Ag Tryz.f142 0) (shift.st (k:Int) (la+1) m oa la ca (la:Int) (i:Int) xs ta (ap (i+1) (nv (seg xs oa i)*p2 k) (la+1)) tc nx) (.exit 0) (shift.st (k:Int) (la+1) m oa la ca (la:Int) (la:Int) xs ta (dg (la+1) (nv (seg xs oa la)*p2 k)) tc nx)
 | 0,i,h=>by
  obtain rfl:i=la:=by omega
  rw [Oi]
  exact shift.stop1 _ _ _ _ _ _ _ _ _ _ _ _ _ (dfalse (by omega))
 | j +1,i,h=>by
  have e1:i64.wrap ((i:Int)+1)=((i+1:Nat):Int):=by rw [w64 (by omega) (by omega)]; omega
  have ea:oa+((i:Int)).toNat*1=oa+i:=by simp
  have ez:0+((i:Int)).toNat*1=i:=by simp
  have ey:0+(((i+1:Nat):Int)).toNat*1=i+1:=by simp
  have hX:=Fj hd (oa+i)
  have hp:=KR k
  have hple:=p2_le hk
  have v0:=El (Fg hd oa i)
  have v1:=Gz (Fg hd oa i)
  rw [Fh (by omega)] at v1
  have hpw:=Gd i
  have hh0:0≤nv (seg xs oa i)*p2 k/pw i:=Int.ediv_nonneg (Int.mul_nonneg v0 (by omega)) (by omega)
  have hh1:nv (seg xs oa i)*p2 k/pw i<p2 k:=Int.ediv_lt_of_lt_mul hpw (by rw [Int.mul_comm]; exact Int.mul_lt_mul_of_pos_left v1 hp)
  have hst:nv (seg xs oa (i+1))*p2 k=nv (seg xs oa i)*p2 k+pw i*(xs.getD (oa+i) 0*p2 k):=by rw [Fu (o:=oa) (l:=i) (by omega),Int.add_mul,Int.mul_assoc]
  have hget:=ap_get (k:=i) (n:=la+1) (by omega) (nv (seg xs oa i)*p2 k)
  rw [Int.emod_eq_of_lt hh0 (by omega)] at hget
  have hlen:=Ha (k:=i+1) (n:=la+1) (nv (seg xs oa i)*p2 k) (by omega)
  obtain ⟨so,sd⟩:=shl_or (x:=xs.getD (oa+i) 0) hk hh0 hh1 hX.1 hX.2
  have emin:min ((k:Int)).toNat u32.bits=k:=by rw [Int.toNat_natCast]; exact Nat.min_eq_left (by show k≤32; omega)
  have emin2:min ((k:Int)).toNat u64.bits=k:=by rw [Int.toNat_natCast]; exact Nat.min_eq_left (by show k≤64; omega)
  have epow:((2:Int)^k)=p2 k:=(Int.natCast_pow 2 k).symm
  have hmul:xs.getD (oa+i) 0*p2 k≤4294967295*2147483648:=Int.mul_le_mul (by omega) hple (by omega) (by omega)
  have hmul0:0≤xs.getD (oa+i) 0*p2 k:=Int.mul_nonneg hX.1 (by omega)
  have c3:(decide (0≤(i:Int))&&decide ((i:Int)<((la+1:Nat):Int)))=true:=dtrue2 (by omega) (by omega)
  have c4:(0+((i:Int)).toNat*1).blt (ap (i+1) (nv (seg xs oa i)*p2 k) (la+1)).length=true:=by rw [ez,hlen]; exact Fi (by omega)
  refine shift.step0 _ _ _ _ _ _ _ _ _ _ _ _ _ (dtrue (by omega)) (dtrue2 (by omega) (by omega)) (by rw [ea]; exact Fi (by omega)) c3 c4 (dtrue (by omega)) c3 c4 (dtrue (by omega)) (by rw [e1]; exact dtrue2 (by omega) (by omega)) (by rw [e1,ey,List.length_set,hlen]; exact Fi (by omega)) ?_
  rw [ea,ez,e1,ey,emin,emin2,epow,hget,so,u64of (n:=xs.getD (oa+i) 0) hX.1 (by omega),u64of (n:=xs.getD (oa+i) 0*p2 k) hmul0 (by omega),Int.fdiv_eq_ediv_of_nonneg _ (by decide),show ((2:Int)^min (Int.toNat 32) u64.bits)=4294967296 from rfl,u32of (n:=xs.getD (oa+i) 0*p2 k/4294967296) (by omega) (by omega)]
  have ih:=shift.go (N:=N) k m oa la ca xs ta tc nx hk h1 h2 hd j (i+1) (by omega)
  have f1:(ap (i+1) (nv (seg xs oa i)*p2 k) (la+1)).set i ((nv (seg xs oa i)*p2 k/pw i+xs.getD (oa+i) 0*p2 k)%4294967296)=ap (i+1) (nv (seg xs oa (i+1))*p2 k) (la+1):=by
   have g:=Iw (k:=i) (n:=la+1) (by omega) (nv (seg xs oa i)*p2 k) 0
   rw [Int.mul_zero,Int.add_zero,Int.add_zero] at g
   rw [←g,List.set_set,Iw (by omega),hst]
  rw [f1]
  have f2:=Iw (k:=i+1) (n:=la+1) (by omega) (nv (seg xs oa (i+1))*p2 k) 0
  rw [Int.mul_zero,Int.add_zero,Int.add_zero] at f2
  have f3:nv (seg xs oa (i+1))*p2 k/pw (i+1)=xs.getD (oa+i) 0*p2 k/4294967296:=by rw [hst,H1,sd]
  rw [f3,Int.emod_eq_of_lt (by omega) (by omega)] at f2
  rw [f2]
  exact ih
theorem shift.lp {N:Nat→Prop} (k:Int) (n m oa la ca:Nat) (z i:Int) (xs:List Int) (ta:TypeId) (out:List Int) (tc:TypeId) (nx:Nat) {x:X} {S':St} (h:(shift.lt k n m oa la ca z i xs ta out tc nx).at=some (x,S')):Lq Tryz.prog N (Ag Tryz.f142 0) (shift.st k n m oa la ca z i xs ta out tc nx) x S':=by
 obtain ⟨h1,rfl,rfl⟩:=Fw h
 simp only [shift.ok,zB,zD] at h1
 obtain ⟨h1,h2,h3,rfl,rfl,rfl,h7⟩:=h1
 obtain ⟨h8,h9,h10⟩:=Eo.1 h7
 obtain rfl:=zE h3
 obtain ⟨k,rfl⟩:=Int.eq_ofNat_of_zero_le h1
 have:=shift.go (N:=N) k m oa la ca xs ta tc nx (by omega) h8 h9 h10 la 0 (by omega)
 rw [Gw,show nv ([]:List Int)*p2 k=0 from Int.zero_mul _] at this
 have e:ap (0+1) 0 (la+1)=List.replicate (la+1) 0:=by
  unfold ap
  rw [LG,List.replicate_append_replicate]
  congr 1
  omega
 rw [e] at this
 exact this
def shift.t:LSpec:=fun S=>match RX.nth S.tmps 1,RX.nth S.tmps 5,RX.nth S.tmps 12,RX.nth S.tmps 13,RX.nth S.tmps 14,RX.look S.heap 0,RX.look S.heap 65 with
 | .int .i64 k,.slice (some ⟨65,0,none⟩) n m,.slice (some ⟨0,oa,none⟩) la ca,.int .i64 z,.int .i64 i,some (.is .u32 xs ta),some (.is .u32 out tc)=>bif Nat.beq S.tmps.length 40 then some (shift.lt k n m oa la ca z i xs ta out tc S.nxt) else none
 |_,_,_,_,_,_,_=>none
theorem shift.lok {N:Nat→Prop} :LOKn Tryz.prog N (Ag Tryz.f142 0) (shift.t):=by
 refine Ge fun S lt x S' ht hat=> ?_
 unfold shift.t at ht
 split at ht
 ·rename_i k n m oa la ca z i xs ta out tc h1 h5 h12 h13 h14 g0 g65
  cases hb:Nat.beq S.tmps.length 40 with
  |false=>rw [hb] at ht; cases ht
  | true=>
   rw [hb] at ht
   injection ht with ht
   subst ht
   have hb:=zE hb
   exact .enter (fun h=>Gr hb (.cons ⟨h1,bnth h h1⟩ (.cons ⟨h5,bnth h h5⟩ (.cons ⟨h12,bnth h h12⟩ (.cons ⟨h13,bnth h h13⟩ (.cons ⟨h14,bnth h h14⟩ .nil))))) (.cons ⟨g0,bname h g0,rfl⟩ (.cons ⟨g65,bname h g65,rfl⟩ .nil))) (shift.lp _ _ _ _ _ _ _ _ _ _ _ _ _ hat)
 ·cases ht
theorem rsingle.run (oa la ca:Nat) (xs:List Int):xfn Tryz.prog ⟨[],[],[]⟩ [(0,single.t)] 10 Tryz.f133 [.slice (some ⟨0,oa,none⟩) la ca] [.is .u32 xs 144]=
 bif single.ok oa la 0 (i64.wrap (((la:Nat):Int)-1)) xs then some ((Value.int u64 (nv (seg xs oa la)),[Blk.is u32 xs 144])) else none:=by kernel_rfl
def rsingle.run0:=fun oa la ca xs h0=>((rsingle.run oa la ca xs).ct h0)
theorem rsmall.run (oa la ca:Nat) (xs:List Int) (dv:Int):xfnN Tryz.prog ⟨[(134,Et.sp)],[(146,Tryz.f146)],[]⟩ [(0,small.t)] 10 Tryz.f140 [.slice (some ⟨0,oa,none⟩) la ca,.int .u32 dv] [.is .u32 xs 144] [65]=
 bif decide (0≤((la:Nat):Int))&&(decide (((la:Nat):Int)≤((la:Nat):Int))&&(decide (((la:Nat):Int)≤140737488355328)&&decide (((3+1:Nat):Int)*((la:Nat):Int)≤140737488355328))) then bif small.ok oa la dv (((la:Nat):Int)).toNat 0 (i64.wrap (((la:Nat):Int)-1)) xs (List.replicate ((((la:Nat):Int)).toNat*1) 0) then bif trim.ok 0 (((la:Nat):Int)).toNat (((la:Nat):Int)).toNat (dg la (nv (seg xs oa la)/dv)) then some ((Value.tuple ⟨[Value.slice (some {block:=65,off:=0}) (tl (seg (dg la (nv (seg xs oa la)/dv)) 0 (((la:Nat):Int)).toNat)) (((la:Nat):Int)).toNat,Value.int u32 (nv (seg xs oa la)%dv)]⟩,[Blk.is u32 xs 144,Blk.is u32 (dg la (nv (seg xs oa la)/dv)) 144])) else none else none else none:=by kernel_rfl
def rsmall.run0:=fun oa la ca xs dv h0 h1 h2=>((((rsmall.run oa la ca xs dv).ct h0).ct h1).ct h2)
theorem rshift.run (oa la ca:Nat) (xs:List Int) (k:Int):xfnN Tryz.prog ⟨[],[],[]⟩ [(0,shift.t)] 10 Tryz.f142 [.slice (some ⟨0,oa,none⟩) la ca,.int .i64 k] [.is .u32 xs 144] [65]=
 bif decide (0≤i64.wrap (((la:Nat):Int)+1))&&(decide (i64.wrap (((la:Nat):Int)+1)≤i64.wrap (((la:Nat):Int)+1))&&(decide (i64.wrap (((la:Nat):Int)+1)≤140737488355328)&&decide (((3+1:Nat):Int)*i64.wrap (((la:Nat):Int)+1)≤140737488355328))) then bif shift.ok k (i64.wrap (((la:Nat):Int)+1)).toNat oa la (((la:Nat):Int)) 0 xs (List.replicate ((i64.wrap (((la:Nat):Int)+1)).toNat*1) 0) then some ((Value.slice (some {block:=65,off:=0}) (i64.wrap (((la:Nat):Int)+1)).toNat (i64.wrap (((la:Nat):Int)+1)).toNat,[Blk.is u32 xs 144,Blk.is u32 (dg (la+1) (nv (seg xs oa la)*p2 k.toNat)) 144])) else none else none:=by kernel_rfl
def rshift.run0:=fun oa la ca xs k h0 h1=>(((rshift.run oa la ca xs k).ct h0).ct h1)
def single.sp:HSpec
 |[.slice (some ⟨0,oa,none⟩) la ca],[.is .u32 xs 144]=>some (Du oa la xs&&Nat.ble la 2,.int .u64 (nv (seg xs oa la)),[.is .u32 xs 144])
 |_,_=>none
theorem NX.ok:SOK Tryz.prog 133 single.sp:=by
 refine Cu (E:=⟨[],[],[]⟩) (L:=[(0,single.t)]) ⟨Ac,Ai,Ad,Ah⟩ 10 Tryz.func133 (by decide) rfl (Ga rfl rfl single.lok) fun vs bl v bl' h=> ?_
 unfold single.sp at h
 split at h
 ·rename_i oa la ca xs
  simp only [zS,zP,zB] at h
  obtain ⟨⟨hA,hB⟩,rfl,rfl⟩:=h
  have hl:=zL hB
  refine ⟨rsingle.run0 oa la ca xs ?_,by simp [okV,Nat.blt],clo_spec 8 _ rfl,Ay rfl⟩
  rw [w64 (by omega) (by omega)]
  simp only [single.ok,zB,zD]
  exact ⟨trivial,by omega,hA,hB⟩
 ·cases h
def small.sp:HSpec
 |[.slice (some ⟨0,oa,none⟩) la ca,.int .u32 dv],[.is .u32 xs 144]=>some (Du oa la xs&&(decide (0<dv)&&decide (dv<4294967296)),.tuple ⟨[.slice (some ⟨1,0,none⟩) (tl (dg la (nv (seg xs oa la)/dv))) la,.int .u32 (nv (seg xs oa la)%dv)]⟩,[.is .u32 xs 144,.is .u32 (dg la (nv (seg xs oa la)/dv)) 144])
 |_,_=>none
theorem NT.ok:SOK Tryz.prog 140 small.sp:=by
 refine Hg (E:=⟨[(134,Et.sp)],[(146,Tryz.f146)],[]⟩) (L:=[(0,small.t)]) ⟨Aa Et.ok Ac,Fl ⟨Tryz.func146,by decide,rfl⟩ Ai,Ad,Ah⟩ 10 Tryz.func140 (by decide) rfl (Ga rfl rfl small.lok) fun vs bl v bl' h=> ?_
 unfold small.sp at h
 split at h
 ·rename_i oa la ca dv xs
  simp only [zS,zP,zB,zD] at h
  obtain ⟨⟨hA,d0,d1⟩,rfl,rfl⟩:=h
  obtain ⟨h1,h2,h3⟩:=Eo.1 hA
  have hr:=rsmall.run0 oa la ca xs dv (My (by omega))
  rw [Int.toNat_natCast,Nat.mul_one] at hr
  refine ⟨[65],(hr ?_ (I3 (Di _ _) (by omega))).trans ?_,by simp [okV,Nat.blt],rfl,Ay rfl,List.nodup_cons.2 ⟨by simp,List.nodup_nil⟩,by simp⟩
  ·rw [w64 (by omega) (by omega)]
   simp only [small.ok,zB,zD,Nat.beq_eq]
   exact ⟨trivial,by omega,trivial,trivial,hA,d0,d1⟩
  ·rw [Je]; rfl
 ·cases h
def shift.sp:HSpec
 |[.slice (some ⟨0,oa,none⟩) la ca,.int .i64 k],[.is .u32 xs 144]=>some (Du oa la xs&&(decide (0≤k)&&decide (k≤31)),.slice (some ⟨1,0,none⟩) (la+1) (la+1),[.is .u32 xs 144,.is .u32 (dg (la+1) (nv (seg xs oa la)*p2 k.toNat)) 144])
 |_,_=>none
theorem NU.ok:SOK Tryz.prog 142 shift.sp:=by
 refine Hg (E:=⟨[],[],[]⟩) (L:=[(0,shift.t)]) ⟨Ac,Ai,Ad,Ah⟩ 10 Tryz.func142 (by decide) rfl (Ga rfl rfl shift.lok) fun vs bl v bl' h=> ?_
 unfold shift.sp at h
 split at h
 ·rename_i oa la ca k xs
  simp only [zS,zP,zB,zD] at h
  obtain ⟨⟨hA,d0,d1⟩,rfl,rfl⟩:=h
  obtain ⟨h1,h2,h3⟩:=Eo.1 hA
  have e1:i64.wrap (((la:Nat):Int)+1)=((la+1:Nat):Int):=by rw [w64 (by omega) (by omega)]; omega
  have hr:=rshift.run0 oa la ca xs k
  rw [e1,Int.toNat_natCast,Nat.mul_one] at hr
  refine ⟨[65],(hr (My (by omega)) ?_).trans ?_,by simp [okV,Nat.blt],rfl,Ay rfl,List.nodup_cons.2 ⟨by simp,List.nodup_nil⟩,by simp⟩
  ·simp only [shift.ok,zB,zD,Nat.beq_eq]
   exact ⟨d0,d1,trivial,trivial,trivial,trivial,hA⟩
  ·rfl
 ·cases h
def ip (us:List Int) (o k:Nat) (v:Int):List Int:=us.take o++(dg k v++us.drop (o+k))
theorem OR (us:List Int) (o:Nat) (v:Int):ip us o 0 v=us:=by simp [ip,dg]
theorem IP {us:List Int} {o k:Nat} (v:Int) (h:o+k≤us.length):(ip us o k v).length=us.length:=by simp [ip,Di]; omega
theorem Ll {us:List Int} {o k j:Nat} (v:Int) (h:o+k≤us.length) (hj:o+k≤j):(ip us o k v).getD j 0=us.getD j 0:=by
 simp only [ip,List.getD_eq_getElem?_getD]
 rw [List.getElem?_append_right (by simp; omega),List.getElem?_append_right (by simp [Di]; omega),List.getElem?_drop]
 congr 2
 simp [Di]; omega
theorem N8 {us:List Int} {o k:Nat} (h:o+k<us.length) (v z:Int):(ip us o k v).set (o+k) ((v/pw k+z)%4294967296)=ip us o (k+1) (v+pw k*z):=by
 unfold ip
 rw [List.set_append_right _ _ (by simp; omega),List.set_append_right _ _ (by simp [Di]; omega)]
 have e:o+k-(us.take o).length-(dg k v).length=0:=by simp [Di]; omega
 rw [e,List.drop_eq_getElem_cons h,List.set_cons_zero,LH k (v+pw k*z),Kd,MZ,List.append_assoc]
 rfl
theorem dig_ip {us:List Int} (hd:dig us) (o k:Nat) (v:Int):dig (ip us o k v):=fun x hx=>by
 unfold ip at hx
 rcases List.mem_append.1 hx with h|h
 ·exact hd x (List.mem_of_mem_take h)
 rcases List.mem_append.1 h with h|h
 ·exact Gn k v x h
 ·exact hd x (List.mem_of_mem_drop h)
theorem ip_ip {us:List Int} {o k:Nat} (v w:Int) (h:o+k≤us.length):ip (ip us o k v) o k w=ip us o k w:=by
 have e1:(ip us o k v).take o=us.take o:=by
  unfold ip; rw [List.take_append_of_le_length (by simp; omega),List.take_take,Nat.min_self]
 have e2:(ip us o k v).drop (o+k)=us.drop (o+k):=by
  unfold ip
  rw [←List.append_assoc,List.drop_append,List.drop_of_length_le (by simp [Di]; omega)]
  simp [Di,Nat.min_eq_left (show o≤us.length by omega)]
 show (ip us o k v).take o++(dg k w++(ip us o k v).drop (o+k))=_
 rw [e1,e2]; rfl
theorem seg_ip {us:List Int} {o k:Nat} (v:Int) (h:o+k≤us.length):seg (ip us o k v) o k=dg k v:=by
 unfold seg ip
 rw [List.drop_append,List.drop_of_length_le (by rw [List.length_take]; omega),List.nil_append]
 rw [show o-(us.take o).length=0 by simp; omega,List.drop_zero,List.take_append_of_le_length (by rw [Di]; exact Nat.le_refl _),List.take_of_length_le (by rw [Di]; exact Nat.le_refl _)]
theorem Rd:∀(k:Nat) (v:Int),nv (dg k v)=v%pw k:=by
 intro k v
 have hp:=Gd k
 have h1:=Int.emod_nonneg v (show pw k≠0 by omega)
 have h2:=Int.emod_lt_of_pos v hp
 have:=Kd k (v%pw k) (v/pw k)
 rw [Int.emod_add_mul_ediv] at this
 rw [this,I0 k _ h1 h2]
def qd (us:List Int) (o:Nat) (ws:List Int) (ov:Nat) (q:Int) (k:Nat):Int:=nv (seg us o k)-q*nv (seg ws ov k)
theorem Qq {us ws:List Int} {o ov k:Nat} (q:Int) (h:o+k<us.length) (h':ov+k<ws.length):qd us o ws ov q (k+1)=qd us o ws ov q k+pw k*(us.getD (o+k) 0-q*ws.getD (ov+k) 0):=by
 unfold qd
 rw [Fu h,Fu h',Int.mul_add,Int.mul_sub,Int.mul_left_comm q (pw k)]; omega
def qc (ws:List Int) (ov:Nat) (q:Int) (k:Nat):Int:=q*nv (seg ws ov k)/pw k
theorem qc_succ {ws:List Int} {ov k:Nat} (q:Int) (h':ov+k<ws.length):qc ws ov q (k+1)=(qc ws ov q k+q*ws.getD (ov+k) 0)/4294967296:=by
 unfold qc
 rw [Fu h',Int.mul_add,Int.mul_left_comm q (pw k),H1]
theorem Si {ws:List Int} (hd:dig ws) {ov k:Nat} {q:Int} (h0:0≤q) (h:ov+k≤ws.length):0≤qc ws ov q k∧qc ws ov q k≤q:=by
 have a:=El (Fg hd ov k)
 have b:=Gz (Fg hd ov k)
 rw [Fh h] at b
 have hp:=Gd k
 refine ⟨Int.ediv_nonneg (Int.mul_nonneg h0 a) (by omega),?_⟩
 have:q*nv (seg ws ov k)≤q*pw k:=Int.mul_le_mul_of_nonneg_left (by omega) h0
 exact Int.le_trans (Int.ediv_le_ediv hp this) (by rw [Int.mul_ediv_cancel _ (by omega)]; exact Int.le_refl _)
theorem Sh {us ws:List Int} (hd:dig us) (hd':dig ws) {o ov k:Nat} (q:Int) (h:o+k≤us.length) (h':ov+k≤ws.length): -1≤qd us o ws ov q k/pw k+qc ws ov q k∧qd us o ws ov q k/pw k+qc ws ov q k≤0:=by
 have a:=El (Fg hd o k)
 have b:=Gz (Fg hd o k)
 rw [Fh h] at b
 have hp:=Gd k
 have e:=Int.mul_ediv_add_emod (q*nv (seg ws ov k)) (pw k)
 have m0:=Int.emod_nonneg (q*nv (seg ws ov k)) (show pw k≠0 by omega)
 have m1:=Int.emod_lt_of_pos (q*nv (seg ws ov k)) hp
 have hs:qd us o ws ov q k/pw k+qc ws ov q k=(nv (seg us o k)-q*nv (seg ws ov k)%pw k)/pw k:=by
  unfold qd qc
  rw [←Int.add_mul_ediv_left _ _ (show pw k≠0 by omega)]
  congr 1
  omega
 rw [hs]
 constructor
 ·exact (Int.le_ediv_iff_mul_le hp).2 (by omega)
 ·have:(nv (seg us o k)-q*nv (seg ws ov k)%pw k)/pw k<1:=Int.ediv_lt_of_lt_mul hp (by omega)
  omega
def qa (v1 v2 u2:Int):Nat→Int→Int→Int
 |0,q,_=>q
 |k+1,q,r=>if 4294967296≤q∨r*4294967296+u2<q*v2 then (if 4294967296≤r+v1 then q-1 else qa v1 v2 u2 k (q-1) (r+v1)) else q
theorem Kt (v1 v2 u2:Int) (k:Nat) (q r:Int):qa v1 v2 u2 (k+1) q r=if 4294967296≤q∨r*4294967296+u2<q*v2 then (if 4294967296≤r+v1 then q-1 else qa v1 v2 u2 k (q-1) (r+v1)) else q:=rfl
theorem qa_ok {v1 v2 u2 T:Int} (h1:2147483648≤v1) (h1':v1<4294967296) (h2:0≤v2) (h2':v2<4294967296) (hu:0≤u2) (hT:T<(v1+1)*4294967296):∀(k:Nat) (q r:Int),0≤q→q≤4294967297→0≤r→r<4294967296→4294967296≤r+k*2147483648→q*v1+r=T→0≤qa v1 v2 u2 k q r∧qa v1 v2 u2 k q r<4294967296∧qa v1 v2 u2 k q r*(v1*4294967296+v2)≤T*4294967296+u2∧qa v1 v2 u2 k q r≤q
 |0,q,r,a,b,c,d,e,f=>by omega
 | k + 1,q,r,a,b,c,d,e,f=>by
  unfold qa
  have hq0:0≤q*v2:=Int.mul_nonneg a h2
  have hsp:q*(v1*4294967296+v2)=(q*v1)*4294967296+q*v2:=by rw [Int.mul_add,Int.mul_assoc]
  by_cases hc:4294967296≤q∨r*4294967296+u2<q*v2
  ·rw [if_pos hc]
   have hq1:0<q:=by
    rcases hc with hc|hc
    ·omega
    ·refine Int.lt_of_not_ge fun hz=> ?_
     have:q=0:=by omega
     subst this; omega
   have hr:(q-1)*v1+(r+v1)=T:=by rw [Int.sub_mul]; omega
   by_cases hb:4294967296≤r+v1
   ·rw [if_pos hb]
    have hlt:q-1<4294967296:=by
     refine Int.lt_of_not_ge fun hz=> ?_
     have h3:4294967296*v1≤(q-1)*v1:=Int.mul_le_mul_of_nonneg_right hz (by omega)
     rw [Int.add_mul] at hT
     omega
    refine ⟨by omega,hlt,?_,by omega⟩
    have h3:(q-1)*v2≤4294967296*4294967295:=Int.mul_le_mul (by omega) (by omega) h2 (by omega)
    have h4:(q-1)*(v1*4294967296+v2)=((q-1)*v1)*4294967296+(q-1)*v2:=by rw [Int.mul_add,Int.mul_assoc]
    omega
   ·rw [if_neg hb]
    obtain ⟨x1,x2,x3,x4⟩:=qa_ok h1 h1' h2 h2' hu hT k (q-1) (r+v1) (by omega) (by omega) (by omega) (by omega) (by rw [Int.natCast_succ,Int.add_mul] at e; omega) hr
    exact ⟨x1,x2,x3,by omega⟩
  ·rw [if_neg hc]
   exact ⟨a,by omega,by rw [hsp]; omega,Int.le_refl _⟩
theorem qa_ge {v1 v2 u2 T Q:Int} (hQ:Q<4294967296) (hQ':Q*(v1*4294967296+v2)<T*4294967296+u2+1) (hV:0≤v1*4294967296+v2):∀(k:Nat) (q r:Int),q*v1+r=T→Q≤q→Q≤qa v1 v2 u2 k q r
 |0,q,r,_,h=>h
 | k + 1,q,r,f,h=>by
  unfold qa
  have hsp:q*(v1*4294967296+v2)=(q*v1)*4294967296+q*v2:=by rw [Int.mul_add,Int.mul_assoc]
  by_cases hc:4294967296≤q∨r*4294967296+u2<q*v2
  ·rw [if_pos hc]
   have hlt:Q≤q-1:=by
    rcases hc with hc|hc
    ·omega
    ·refine Int.le_sub_one_of_lt (Int.lt_of_not_ge fun hz=> ?_)
     obtain rfl:q=Q:=by omega
     omega
   have hr:(q-1)*v1+(r+v1)=T:=by rw [Int.sub_mul]; omega
   by_cases hb:4294967296≤r+v1
   ·rw [if_pos hb]; exact hlt
   ·rw [if_neg hb]; exact qa_ge hQ hQ' hV k _ _ hr hlt
  ·rw [if_neg hc]; exact h
theorem knuth {U V P v1 v2 vl u2 T ul:Int} (hP:0<P) (h1:2147483648≤v1) (h1':v1<4294967296) (h2:0≤v2) (h2':v2<4294967296) (hu:0≤u2) (hu':u2<4294967296) (hV:V=(v1*4294967296+v2)*P+vl) (hvl:0≤vl) (hvl':vl<P) (hU:U=(T*4294967296+u2)*P+ul) (hul:0≤ul) (hul':ul<P) (hT:0≤T) (hlt:U<V*4294967296):
  U/V≤qa v1 v2 u2 2 (T/v1) (T%v1)∧qa v1 v2 u2 2 (T/v1) (T%v1)≤U/V+1∧0≤qa v1 v2 u2 2 (T/v1) (T%v1)∧qa v1 v2 u2 2 (T/v1) (T%v1)<4294967296∧T/v1≤4294967297:=by
 have hvh:0<v1*4294967296+v2:=by omega
 have hV0:(v1*4294967296+v2)*P≤V:=by omega
 have hVp:0<V:=Int.lt_of_lt_of_le (Int.mul_pos hvh hP) hV0
 have e:=Int.mul_ediv_add_emod U V
 have m0:=Int.emod_nonneg U (show V≠0 by omega)
 have hQlt:U/V<4294967296:=Int.ediv_lt_of_lt_mul hVp (by rw [Int.mul_comm]; exact hlt)
 have hU0:0≤U:=by
  have:0≤(T*4294967296+u2)*P:=Int.mul_nonneg (by omega) (by omega)
  omega
 have hQ0:0≤U/V:=Int.ediv_nonneg hU0 (by omega)
 have hQV:(U/V)*(v1*4294967296+v2)<T*4294967296+u2+1:=by
  refine Int.lt_of_mul_lt_mul_right (a:=P) ?_ (by omega)
  have:(U/V)*((v1*4294967296+v2)*P)≤(U/V)*V:=Int.mul_le_mul_of_nonneg_left hV0 hQ0
  rw [Int.mul_assoc,Int.add_mul (T*4294967296+u2),Int.one_mul]
  rw [Int.mul_comm V] at e
  omega
 have hTlt:T<(v1+1)*4294967296:=by
  refine Int.lt_of_not_ge fun hz=> ?_
  have a1:(v1+1)*4294967296*4294967296*P≤(T*4294967296+u2)*P:=Int.mul_le_mul_of_nonneg_right (by omega) (by omega)
  have a2:V<(v1+1)*4294967296*P:=by
   have:(v1*4294967296+v2+1)*P≤((v1+1)*4294967296)*P:=Int.mul_le_mul_of_nonneg_right (by omega) (by omega)
   rw [Int.add_mul (v1*4294967296+v2),Int.one_mul] at this
   omega
  have a3:(v1+1)*4294967296*4294967296*P=(v1+1)*4294967296*P*4294967296:=by rw [Int.mul_assoc _ 4294967296 P,Int.mul_comm 4294967296 P,←Int.mul_assoc]
  omega
 have r0:=Int.emod_nonneg T (show v1≠0 by omega)
 have r1:=Int.emod_lt_of_pos T (show 0<v1 by omega)
 have eT:T/v1*v1+T%v1=T:=by rw [Int.mul_comm]; exact Int.mul_ediv_add_emod _ _
 have q0:0≤T/v1:=Int.ediv_nonneg hT (by omega)
 have q1:T/v1≤4294967297:=by
  refine Int.le_of_lt_add_one (Int.ediv_lt_of_lt_mul (by omega) ?_)
  rw [Int.add_mul] at hTlt
  omega
 have hge:U/V≤T/v1:=by
  refine (Int.le_ediv_iff_mul_le (by omega)).2 ?_
  have:(U/V)*(v1*4294967296+v2)=((U/V)*v1)*4294967296+(U/V)*v2:=by rw [Int.mul_add,Int.mul_assoc]
  have:0≤(U/V)*v2:=Int.mul_nonneg hQ0 h2
  omega
 obtain ⟨x1,x2,x3,x4⟩:=qa_ok h1 h1' h2 h2' hu hTlt 2 (T/v1) (T%v1) q0 q1 r0 (by omega) (by omega) eT
 have hg:=qa_ge hQlt hQV (by omega) 2 (T/v1) (T%v1) eT hge
 refine ⟨hg,?_,x1,x2,q1⟩
 clear x4 q1 hg hge eT
 generalize qa v1 v2 u2 2 (T/v1) (T%v1)=q at*
 have b1:q*((v1*4294967296+v2)*P)≤U:=by
  have:q*(v1*4294967296+v2)*P≤(T*4294967296+u2)*P:=Int.mul_le_mul_of_nonneg_right x3 (by omega)
  rw [Int.mul_assoc] at this
  omega
 have b2:(q-1)*V≤U:=by
  have c1:q*V=q*((v1*4294967296+v2)*P)+q*vl:=by rw [hV,Int.mul_add]
  have c2:q*vl≤4294967296*P:=Int.mul_le_mul (by omega) (by omega) hvl (by omega)
  have c3:4294967296*P≤(v1*4294967296+v2)*P:=Int.mul_le_mul_of_nonneg_right (by omega) (by omega)
  rw [Int.sub_mul,Int.one_mul]
  omega
 have:=(Int.le_ediv_iff_mul_le hVp).2 b2
 omega
section
variable {N:Nat→Prop} {xe:X} {Se:St} (o lu cu ov lw cw:Nat) (n q r:Int) (us:List Int) (tu:TypeId) (ws:List Int) (tw:TypeId)
abbrev dg0.st:St:=⟨gbuild [(0,.slice (some ⟨0,o,none⟩) lu cu),(1,.slice (some ⟨1,ov,none⟩) lw cw),(5,.int .i64 n),(7,.int .u64 q),(8,.int .u64 r)] 0 159,[(0,.is .u32 us tu),(1,.is .u32 ws tw)],578⟩
abbrev dg0.lk:=RX.lk [0,1,5,7,8] [0,1]
theorem dg0.rnd:rd Tryz.prog ⟨[],[],[]⟩ [] 3 (Ag Tryz.f143 0) (dg0.st o lu cu ov lw cw n q r us tu ws tw) 159 [0,1,5,7,8] [0,1]=
 bif decide (q≥4294967296) then bif decide (0≤i64.wrap (n-1))&&decide (i64.wrap (n-1)<((lw:Nat):Int)) then bif (ov+(i64.wrap (n-1)).toNat*1).blt ws.length then bif decide (u64.wrap (r+u64.wrap (ws.getD (ov+(i64.wrap (n-1)).toNat*1) 0))≥4294967296) then some ((X.exit 0,[Value.slice (some {block:=0,off:=o}) lu cu,Value.slice (some {block:=1,off:=ov}) lw cw,Value.int i64 n,Value.int u64 (u64.wrap (q-1)),Value.int u64 (u64.wrap (r+u64.wrap (ws.getD (ov+(i64.wrap (n-1)).toNat*1) 0)))],[some (Blk.is u32 us tu),some (Blk.is u32 ws tw)])) else dg0.lk .normal (dg0.st o lu cu ov lw cw n (u64.wrap (q-1)) (u64.wrap (r+u64.wrap (ws.getD (ov+(i64.wrap (n-1)).toNat*1) 0))) us tu ws tw) else none else none else bif decide (0≤i64.wrap (n-2))&&decide (i64.wrap (n-2)<((lw:Nat):Int)) then bif (ov+(i64.wrap (n-2)).toNat*1).blt ws.length then bif decide (0≤i64.wrap (n-2))&&decide (i64.wrap (n-2)<((lu:Nat):Int)) then bif (o+(i64.wrap (n-2)).toNat*1).blt us.length then bif decide (u64.wrap (q*u64.wrap (ws.getD (ov+(i64.wrap (n-2)).toNat*1) 0))>Ew BinOp.or u64 (u64.wrap (r*2^min (Int.toNat 32) u64.bits)) (u64.wrap (us.getD (o+(i64.wrap (n-2)).toNat*1) 0))) then bif decide (0≤i64.wrap (n-1))&&decide (i64.wrap (n-1)<((lw:Nat):Int)) then bif (ov+(i64.wrap (n-1)).toNat*1).blt ws.length then bif decide (u64.wrap (r+u64.wrap (ws.getD (ov+(i64.wrap (n-1)).toNat*1) 0))≥4294967296) then some ((X.exit 0,[Value.slice (some {block:=0,off:=o}) lu cu,Value.slice (some {block:=1,off:=ov}) lw cw,Value.int i64 n,Value.int u64 (u64.wrap (q-1)),Value.int u64 (u64.wrap (r+u64.wrap (ws.getD (ov+(i64.wrap (n-1)).toNat*1) 0)))],[some (Blk.is u32 us tu),some (Blk.is u32 ws tw)])) else dg0.lk .normal (dg0.st o lu cu ov lw cw n (u64.wrap (q-1)) (u64.wrap (r+u64.wrap (ws.getD (ov+(i64.wrap (n-1)).toNat*1) 0))) us tu ws tw) else none else none else some ((X.exit 0,[Value.slice (some {block:=0,off:=o}) lu cu,Value.slice (some {block:=1,off:=ov}) lw cw,Value.int i64 n,Value.int u64 q,Value.int u64 r],[some (Blk.is u32 us tu),some (Blk.is u32 ws tw)])) else none else none else none else none:=by kernel_rfl
def dg0.stop0:=fun h0 h1 h2 h3=>Lq.stop (S2:=⟨gbuild [(0,Value.slice (some {block:=0,off:=o}) lu cu),(1,Value.slice (some {block:=1,off:=ov}) lw cw),(5,Value.int i64 n),(7,Value.int u64 (u64.wrap (q-1)))] 0 159,[(0,Blk.is u32 us tu),(1,Blk.is u32 ws tw)],578⟩) (N:=N) (f:=3) ⟨Ac,Ai,Ad,Ah⟩ Be (((((dg0.rnd o lu cu ov lw cw n q r us tu ws tw).ct h0).ct h1).ct h2).ct h3) (fun q=>by cases q) (fun h=>q_of (.cons ⟨rfl,(bslice (zL rfl))⟩ (.cons ⟨rfl,(bslice (zL rfl))⟩ (.cons ⟨rfl,bint⟩ (.cons ⟨rfl,bint⟩ .nil)))) (.cons ⟨rfl,(zL rfl),rfl⟩ (.cons ⟨rfl,(zL rfl),rfl⟩ .nil)))
def dg0.step1:=fun h0 h1 h2 h3 (ih:Lq Tryz.prog N (Ag Tryz.f143 0) _ xe Se)=>Lq.to (f:=3) ⟨Ac,Ai,Ad,Ah⟩ Be (((((dg0.rnd o lu cu ov lw cw n q r us tu ws tw).ct h0).ct h1).ct h2).cf h3) rfl ih
def dg0.stop2:=fun h0 h1 h2 h3 h4 h5 h6 h7 h8=>Lq.stop (S2:=⟨gbuild [(0,Value.slice (some {block:=0,off:=o}) lu cu),(1,Value.slice (some {block:=1,off:=ov}) lw cw),(5,Value.int i64 n),(7,Value.int u64 (u64.wrap (q-1)))] 0 159,[(0,Blk.is u32 us tu),(1,Blk.is u32 ws tw)],578⟩) (N:=N) (f:=3) ⟨Ac,Ai,Ad,Ah⟩ Be ((((((((((dg0.rnd o lu cu ov lw cw n q r us tu ws tw).cf h0).ct h1).ct h2).ct h3).ct h4).ct h5).ct h6).ct h7).ct h8) (fun q=>by cases q) (fun h=>q_of (.cons ⟨rfl,(bslice (zL rfl))⟩ (.cons ⟨rfl,(bslice (zL rfl))⟩ (.cons ⟨rfl,bint⟩ (.cons ⟨rfl,bint⟩ .nil)))) (.cons ⟨rfl,(zL rfl),rfl⟩ (.cons ⟨rfl,(zL rfl),rfl⟩ .nil)))
def dg0.step3:=fun h0 h1 h2 h3 h4 h5 h6 h7 h8 (ih:Lq Tryz.prog N (Ag Tryz.f143 0) _ xe Se)=>Lq.to (f:=3) ⟨Ac,Ai,Ad,Ah⟩ Be ((((((((((dg0.rnd o lu cu ov lw cw n q r us tu ws tw).cf h0).ct h1).ct h2).ct h3).ct h4).ct h5).ct h6).ct h7).cf h8) rfl ih
def dg0.stop4:=fun h0 h1 h2 h3 h4 h5=>Lq.stop (S2:=⟨gbuild [(0,Value.slice (some {block:=0,off:=o}) lu cu),(1,Value.slice (some {block:=1,off:=ov}) lw cw),(5,Value.int i64 n),(7,Value.int u64 q)] 0 159,[(0,Blk.is u32 us tu),(1,Blk.is u32 ws tw)],578⟩) (N:=N) (f:=3) ⟨Ac,Ai,Ad,Ah⟩ Be (((((((dg0.rnd o lu cu ov lw cw n q r us tu ws tw).cf h0).ct h1).ct h2).ct h3).ct h4).cf h5) (fun q=>by cases q) (fun h=>q_of (.cons ⟨rfl,(bslice (zL rfl))⟩ (.cons ⟨rfl,(bslice (zL rfl))⟩ (.cons ⟨rfl,bint⟩ (.cons ⟨rfl,bint⟩ .nil)))) (.cons ⟨rfl,(zL rfl),rfl⟩ (.cons ⟨rfl,(zL rfl),rfl⟩ .nil)))
end
section
variable {N:Nat→Prop} {xe:X} {Se:St} (o lu cu op lp cp:Nat) (n q c b:Int) (ov lw cw:Nat) (z i:Int) (us:List Int) (tu:TypeId) (ws:List Int) (tw:TypeId) (nx:Nat)
abbrev dg1.st:St:=⟨gbuild [(0,.slice (some ⟨0,o,none⟩) lu cu),(1,.slice (some ⟨1,op,none⟩) lp cp),(5,.int .i64 n),(7,.int .u64 q),(9,.int .u64 c),(10,.int .u32 b),(81,.slice (some ⟨1,ov,none⟩) lw cw),(82,.int .i64 z),(83,.int .i64 i)] 0 159,[(0,.is .u32 us tu),(1,.is .u32 ws tw)],nx⟩
abbrev dg1.lk:=RX.lk [0,1,5,7,9,10,81,82,83] [0,1]
theorem dg1.rnd:rd Tryz.prog ⟨[],[(137,Tryz.f137)],[]⟩ [] 5 (Ag Tryz.f143 2) (dg1.st o lu cu op lp cp n q c b ov lw cw z i us tu ws tw nx) 159 [0,1,5,7,9,10,81,82,83] [0,1]=
 bif decide (i<z) then bif decide (0≤i)&&decide (i<((lw:Nat):Int)) then bif (ov+i.toNat*1).blt ws.length then bif decide (0≤i)&&decide (i<((lu:Nat):Int)) then bif (o+i.toNat*1).blt us.length then bif decide (0≤i)&&decide (i<((lu:Nat):Int)) then bif (o+i.toNat*1).blt us.length then dg1.lk .normal (dg1.st o lu cu op lp cp n q ((u64.wrap (c+u64.wrap (q*u64.wrap (ws.getD (ov+i.toNat*1) 0)))).fdiv (2^min (Int.toNat 32) u64.bits)) ((Ew BinOp.or u32 (Ew BinOp.and u32 (Ew BinOp.xor u32 (if u32.signed=true then -1 else u32.max) (us.getD (o+i.toNat*1) 0)) (u32.wrap (u64.wrap (c+u64.wrap (q*u64.wrap (ws.getD (ov+i.toNat*1) 0)))))) (Ew BinOp.and u32 (Ew BinOp.xor u32 (if u32.signed=true then -1 else u32.max) (Ew BinOp.xor u32 (us.getD (o+i.toNat*1) 0) (u32.wrap (u64.wrap (c+u64.wrap (q*u64.wrap (ws.getD (ov+i.toNat*1) 0))))))) (u32.wrap (u32.wrap (us.getD (o+i.toNat*1) 0-u32.wrap (u64.wrap (c+u64.wrap (q*u64.wrap (ws.getD (ov+i.toNat*1) 0)))))-b)))).fdiv (2^min (Int.toNat 31) u32.bits)) ov lw cw z (i64.wrap (i+1)) (us.set (o+i.toNat*1) (u32.wrap (u32.wrap (us.getD (o+i.toNat*1) 0-u32.wrap (u64.wrap (c+u64.wrap (q*u64.wrap (ws.getD (ov+i.toNat*1) 0)))))-b))) tu ws tw nx) else none else none else none else none else none else none else dg1.lk (.exit 2) (dg1.st o lu cu op lp cp n q c b ov lw cw z i us tu ws tw nx):=by kernel_rfl
def dg1.step0:=fun h0 h1 h2 h3 h4 h5 h6 (ih:Lq Tryz.prog N (Ag Tryz.f143 2) _ xe Se)=>Lq.toK (f:=5) ⟨Ac,Fl ⟨Tryz.func137,by decide,rfl⟩ Ai,Ad,Ah⟩ Be ((((((((dg1.rnd o lu cu op lp cp n q c b ov lw cw z i us tu ws tw nx).ct h0).ct h1).ct h2).ct h3).ct h4).ct h5).ct h6) rfl rfl ih
def dg1.stop1:=fun h0=>Lq.endK (N:=N) (f:=5) ⟨Ac,Fl ⟨Tryz.func137,by decide,rfl⟩ Ai,Ad,Ah⟩ Be ((dg1.rnd o lu cu op lp cp n q c b ov lw cw z i us tu ws tw nx).cf h0) (fun q=>by cases q) rfl rfl
end
section
variable {N:Nat→Prop} {xe:X} {Se:St} (o lu cu:Nat) (n q b:Int) (ov lw cw:Nat) (z i:Int) (us:List Int) (tu:TypeId) (ws:List Int) (tw:TypeId) (nx:Nat)
abbrev dg2.st:St:=⟨gbuild [(0,.slice (some ⟨0,o,none⟩) lu cu),(5,.int .i64 n),(7,.int .u64 q),(13,.int .u32 b),(129,.slice (some ⟨1,ov,none⟩) lw cw),(130,.int .i64 z),(131,.int .i64 i)] 0 159,[(0,.is .u32 us tu),(1,.is .u32 ws tw)],nx⟩
abbrev dg2.lk:=RX.lk [0,5,7,13,129,130,131] [0,1]
theorem dg2.rnd:rd Tryz.prog ⟨[],[(136,Tryz.f136)],[]⟩ [] 5 (Ag Tryz.f143 4) (dg2.st o lu cu n q b ov lw cw z i us tu ws tw nx) 159 [0,5,7,13,129,130,131] [0,1]=
 bif decide (i<z) then bif decide (0≤i)&&decide (i<((lw:Nat):Int)) then bif (ov+i.toNat*1).blt ws.length then bif decide (0≤i)&&decide (i<((lu:Nat):Int)) then bif (o+i.toNat*1).blt us.length then bif decide (0≤i)&&decide (i<((lu:Nat):Int)) then bif (o+i.toNat*1).blt us.length then dg2.lk .normal (dg2.st o lu cu n q (u32.wrap ((u64.wrap (u64.wrap (u64.wrap (us.getD (o+i.toNat*1) 0)+u64.wrap (ws.getD (ov+i.toNat*1) 0))+u64.wrap b)).fdiv (2^min (Int.toNat 32) u64.bits))) ov lw cw z (i64.wrap (i+1)) (us.set (o+i.toNat*1) (u32.wrap (u64.wrap (u64.wrap (u64.wrap (us.getD (o+i.toNat*1) 0)+u64.wrap (ws.getD (ov+i.toNat*1) 0))+u64.wrap b)))) tu ws tw nx) else none else none else none else none else none else none else dg2.lk (.exit 4) (dg2.st o lu cu n q b ov lw cw z i us tu ws tw nx):=by kernel_rfl
def dg2.step0:=fun h0 h1 h2 h3 h4 h5 h6 (ih:Lq Tryz.prog N (Ag Tryz.f143 4) _ xe Se)=>Lq.toK (f:=5) ⟨Ac,Fl ⟨Tryz.func136,by decide,rfl⟩ Ai,Ad,Ah⟩ Be ((((((((dg2.rnd o lu cu n q b ov lw cw z i us tu ws tw nx).ct h0).ct h1).ct h2).ct h3).ct h4).ct h5).ct h6) rfl rfl ih
def dg2.stop1:=fun h0=>Lq.endK (N:=N) (f:=5) ⟨Ac,Fl ⟨Tryz.func136,by decide,rfl⟩ Ai,Ad,Ah⟩ Be ((dg2.rnd o lu cu n q b ov lw cw z i us tu ws tw nx).cf h0) (fun q=>by cases q) rfl rfl
end
abbrev qa2 (us:List Int) (o:Nat) (ws:List Int) (ov lw:Nat) (k:Nat) (q r:Int):Int:=qa (ws.getD (ov+(lw-1)) 0) (ws.getD (ov+(lw-2)) 0) (us.getD (o+(lw-2)) 0) k q r
abbrev dg0.fin (o lu cu ov lw cw:Nat) (n q:Int) (us:List Int) (tu:TypeId) (ws:List Int) (tw:TypeId):St:=⟨gbuild [(0,Value.slice (some {block:=0,off:=o}) lu cu),(1,Value.slice (some {block:=1,off:=ov}) lw cw),(5,Value.int i64 n),(7,Value.int u64 q)] 0 159,[(0,Blk.is u32 us tu),(1,Blk.is u32 ws tw)],578⟩
def dg0.ok (o lu ov lw:Nat) (n q r:Int) (us ws:List Int):Bool:=decide (n=(lw:Int))&&(Nat.ble 2 lw&&(Nat.ble (lw+1) lu&&(Du o lu us&&(Du ov lw ws&&(decide (2147483648≤ws.getD (ov+(lw-1)) 0)&&(decide (0≤q)&&(decide (q≤4294967297)&&(decide (0≤r)&&decide (r<4294967296)))))))))
def dg0.lt (o lu cu ov lw cw:Nat) (n q r:Int) (us:List Int) (tu:TypeId) (ws:List Int) (tw:TypeId):LT:= .got (dg0.ok o lu ov lw n q r us ws) (.exit 0) (dg0.fin o lu cu ov lw cw n (qa2 us o ws ov lw 2 q r) us tu ws tw)
theorem dg0.go {N:Nat→Prop} (o lu cu ov lw cw:Nat) (us:List Int) (tu:TypeId) (ws:List Int) (tw:TypeId) (hn:2≤lw) (hl:lw+1≤lu) (h1:o+lu≤us.length) (h2:ov+lw≤ws.length) (hb:lw≤4294967296) (hx:dig us) (hy:dig ws) (hv:2147483648≤ws.getD (ov+(lw-1)) 0):∀(k:Nat) (q r:Int),0≤q→q≤4294967297→0≤r→r<4294967296→4294967296≤r+k*2147483648→Lq Tryz.prog N (Ag Tryz.f143 0) (dg0.st o lu cu ov lw cw (lw:Int) q r us tu ws tw) (.exit 0) (dg0.fin o lu cu ov lw cw (lw:Int) (qa2 us o ws ov lw k q r) us tu ws tw)
 |0,q,r,a,b,c,d,e=>by omega
 | k + 1,q,r,a,b,c,d,e=>by
  have w1:i64.wrap ((lw:Int)-1)=((lw-1:Nat):Int):=by rw [w64 (by omega) (by omega)]; omega
  have w2:i64.wrap ((lw:Int)-2)=((lw-2:Nat):Int):=by rw [w64 (by omega) (by omega)]; omega
  have e1:ov+(((lw-1:Nat):Int)).toNat*1=ov+(lw-1):=by simp
  have e2:ov+(((lw-2:Nat):Int)).toNat*1=ov+(lw-2):=by simp
  have e3:o+(((lw-2:Nat):Int)).toNat*1=o+(lw-2):=by simp
  have V1:=Fj hy (ov+(lw-1))
  have V2:=Fj hy (ov+(lw-2))
  have U2:=Fj hx (o+(lw-2))
  have c1:(decide (0≤i64.wrap ((lw:Int)-1))&&decide (i64.wrap ((lw:Int)-1)<((lw:Nat):Int)))=true:=by rw [w1]; exact dtrue2 (by omega) (by omega)
  have c2:((ov+(i64.wrap ((lw:Int)-1)).toNat*1).blt ws.length)=true:=by rw [w1,e1]; exact Fi (by omega)
  have c3:(decide (0≤i64.wrap ((lw:Int)-2))&&decide (i64.wrap ((lw:Int)-2)<((lw:Nat):Int)))=true:=by rw [w2]; exact dtrue2 (by omega) (by omega)
  have c4:((ov+(i64.wrap ((lw:Int)-2)).toNat*1).blt ws.length)=true:=by rw [w2,e2]; exact Fi (by omega)
  have c5:(decide (0≤i64.wrap ((lw:Int)-2))&&decide (i64.wrap ((lw:Int)-2)<((lu:Nat):Int)))=true:=by rw [w2]; exact dtrue2 (by omega) (by omega)
  have c6:((o+(i64.wrap ((lw:Int)-2)).toNat*1).blt us.length)=true:=by rw [w2,e3]; exact Fi (by omega)
  have hq0:0≤q*ws.getD (ov+(lw-2)) 0:=Int.mul_nonneg a V2.1
  have er:u64.wrap (r+u64.wrap (ws.getD (ov+(i64.wrap ((lw:Int)-1)).toNat*1) 0))=r+ws.getD (ov+(lw-1)) 0:=by
   rw [w1,e1,u64of (n:=ws.getD (ov+(lw-1)) 0) V1.1 (by omega),u64of (by omega) (by omega)]
  by_cases k1:4294967296≤q
  ·have eq:u64.wrap (q-1)=q-1:=u64of (by omega) (by omega)
   by_cases k2:4294967296≤r+ws.getD (ov+(lw-1)) 0
   ·have:=dg0.stop0 (N:=N) o lu cu ov lw cw (lw:Int) q r us tu ws tw (dtrue k1) c1 c2 (by rw [er]; exact dtrue k2)
    rw [eq] at this
    have hqa:qa2 us o ws ov lw (k+1) q r=q-1:=by show qa _ _ _ (k+1) q r=_; rw [Kt,if_pos (Or.inl k1),if_pos k2]
    rw [hqa]; exact this
   ·refine dg0.step1 (N:=N) o lu cu ov lw cw (lw:Int) q r us tu ws tw (dtrue k1) c1 c2 (by rw [er]; exact dfalse k2) ?_
    have hqa:qa2 us o ws ov lw (k+1) q r=qa2 us o ws ov lw k (q-1) (r+ws.getD (ov+(lw-1)) 0):=by show qa _ _ _ (k+1) q r=_; rw [Kt,if_pos (Or.inl k1),if_neg k2]
    rw [hqa,er,eq]
    exact dg0.go o lu cu ov lw cw us tu ws tw hn hl h1 h2 hb hx hy hv k _ _ (by omega) (by omega) (by omega) (by omega) (by rw [Int.natCast_succ,Int.add_mul] at e; omega)
  ·have hqm:q*ws.getD (ov+(lw-2)) 0≤4294967295*4294967295:=Int.mul_le_mul (by omega) (by omega) V2.1 (by omega)
   have em:u64.wrap (q*u64.wrap (ws.getD (ov+(i64.wrap ((lw:Int)-2)).toNat*1) 0))=q*ws.getD (ov+(lw-2)) 0:=by
    rw [w2,e2,u64of (n:=ws.getD (ov+(lw-2)) 0) V2.1 (by omega),u64of hq0 (by omega)]
   have eo:Ew BinOp.or u64 (u64.wrap (r*2^min (Int.toNat 32) u64.bits)) (u64.wrap (us.getD (o+(i64.wrap ((lw:Int)-2)).toNat*1) 0))=us.getD (o+(lw-2)) 0+4294967296*r:=by
    rw [w2,e3]; exact PI U2.1 U2.2 c d
   by_cases k3:r*4294967296+us.getD (o+(lw-2)) 0<q*ws.getD (ov+(lw-2)) 0
   ·have hq1:0<q:=by
     refine Int.lt_of_not_ge fun hz=> ?_
     have:q=0:=by omega
     subst this; omega
    have eq:u64.wrap (q-1)=q-1:=u64of (by omega) (by omega)
    have cc:(decide (u64.wrap (q*u64.wrap (ws.getD (ov+(i64.wrap ((lw:Int)-2)).toNat*1) 0))>Ew BinOp.or u64 (u64.wrap (r*2^min (Int.toNat 32) u64.bits)) (u64.wrap (us.getD (o+(i64.wrap ((lw:Int)-2)).toNat*1) 0))))=true:=by rw [em,eo]; exact dtrue (by omega)
    by_cases k2:4294967296≤r+ws.getD (ov+(lw-1)) 0
    ·have:=dg0.stop2 (N:=N) o lu cu ov lw cw (lw:Int) q r us tu ws tw (dfalse k1) c3 c4 c5 c6 cc c1 c2 (by rw [er]; exact dtrue k2)
     rw [eq] at this
     have hqa:qa2 us o ws ov lw (k+1) q r=q-1:=by show qa _ _ _ (k+1) q r=_; rw [Kt,if_pos (Or.inr k3),if_pos k2]
     rw [hqa]; exact this
    ·refine dg0.step3 (N:=N) o lu cu ov lw cw (lw:Int) q r us tu ws tw (dfalse k1) c3 c4 c5 c6 cc c1 c2 (by rw [er]; exact dfalse k2) ?_
     have hqa:qa2 us o ws ov lw (k+1) q r=qa2 us o ws ov lw k (q-1) (r+ws.getD (ov+(lw-1)) 0):=by show qa _ _ _ (k+1) q r=_; rw [Kt,if_pos (Or.inr k3),if_neg k2]
     rw [hqa,er,eq]
     exact dg0.go o lu cu ov lw cw us tu ws tw hn hl h1 h2 hb hx hy hv k _ _ (by omega) (by omega) (by omega) (by omega) (by rw [Int.natCast_succ,Int.add_mul] at e; omega)
   ·have:=dg0.stop4 (N:=N) o lu cu ov lw cw (lw:Int) q r us tu ws tw (dfalse k1) c3 c4 c5 c6 (by rw [em,eo]; exact dfalse (by omega))
    have hqa:qa2 us o ws ov lw (k+1) q r=q:=by show qa _ _ _ (k+1) q r=_; rw [Kt,if_neg (fun h=>h.elim k1 k3)]
    rw [hqa]; exact this
theorem dg0.lp {N:Nat→Prop} (o lu cu ov lw cw:Nat) (n q r:Int) (us:List Int) (tu:TypeId) (ws:List Int) (tw:TypeId) {x:X} {S':St} (h:(dg0.lt o lu cu ov lw cw n q r us tu ws tw).at=some (x,S')):Lq Tryz.prog N (Ag Tryz.f143 0) (dg0.st o lu cu ov lw cw n q r us tu ws tw) x S':=by
 obtain ⟨h1,rfl,rfl⟩:=Fw h
 simp only [dg0.ok,zB,Nat.ble_eq,zD,Eo] at h1
 obtain ⟨rfl,h2,h3,⟨h4,h5,h6⟩,⟨h7,h8,h9⟩,h10,a,b,c,d⟩:=h1
 exact dg0.go o lu cu ov lw cw us tu ws tw h2 h3 h4 h7 h8 h6 h9 h10 2 q r a b c d (by omega)
def dg0.t:LSpec:=fun S=>match RX.nth S.tmps 0,RX.nth S.tmps 1,RX.nth S.tmps 5,RX.nth S.tmps 7,RX.nth S.tmps 8,RX.look S.heap 0,RX.look S.heap 1,S.nxt with
 | .slice (some ⟨0,o,none⟩) lu cu,.slice (some ⟨1,ov,none⟩) lw cw,.int .i64 n,.int .u64 q,.int .u64 r,some (.is .u32 us tu),some (.is .u32 ws tw),578=>bif Nat.beq S.tmps.length 159 then some (dg0.lt o lu cu ov lw cw n q r us tu ws tw) else none
 |_,_,_,_,_,_,_,_=>none
theorem dg0.lok {N:Nat→Prop} :LOKn Tryz.prog N (Ag Tryz.f143 0) (dg0.t):=by
 refine Ge fun S lt x S' ht hat=> ?_
 unfold dg0.t at ht
 split at ht
 ·rename_i o lu cu ov lw cw n q r us tu ws tw h0 h1 h5 h7 h8 g0 g1 hnx
  cases hb:Nat.beq S.tmps.length 159 with
  |false=>rw [hb] at ht; cases ht
  | true=>
   rw [hb] at ht
   injection ht with ht
   subst ht
   have hb:=zE hb
   obtain ⟨T,H,_⟩:=S
   subst hnx
   exact .enter (fun h=>Gr hb (.cons ⟨h0,bnth h h0⟩ (.cons ⟨h1,bnth h h1⟩ (.cons ⟨h5,bnth h h5⟩ (.cons ⟨h7,bnth h h7⟩ (.cons ⟨h8,bnth h h8⟩ .nil))))) (.cons ⟨g0,bname h g0,rfl⟩ (.cons ⟨g1,bname h g1,rfl⟩ .nil))) (dg0.lp _ _ _ _ _ _ _ _ _ _ _ _ _ hat)
 ·cases ht
def dg1.ok (o lu ov lw:Nat) (q c b z i:Int) (us ws:List Int):Bool:=decide (i=0)&&(decide (z=(lw:Int))&&(decide (c=0)&&(decide (b=0)&&(decide (0≤q)&&(decide (q<4294967296)&&(Nat.ble lw lu&&(Du o lu us&&Du ov lw ws)))))))
def dg1.lt (o lu cu op lp cp:Nat) (n q c b:Int) (ov lw cw:Nat) (z i:Int) (us:List Int) (tu:TypeId) (ws:List Int) (tw:TypeId) (nx:Nat):LT:= .got (dg1.ok o lu ov lw q c b z i us ws) (.exit 2) (dg1.st o lu cu op lp cp n q (qc ws ov q lw) (-(qd us o ws ov q lw/pw lw+qc ws ov q lw)) ov lw cw z z (ip us o lw (qd us o ws ov q lw)) tu ws tw nx)
theorem dg1.go {N:Nat→Prop} (o lu cu op lp cp:Nat) (n q:Int) (ov lw cw:Nat) (us:List Int) (tu:TypeId) (ws:List Int) (tw:TypeId) (nx:Nat) (h1:o+lu≤us.length) (h2:ov+lw≤ws.length) (hl:lw≤lu) (hb:lw≤4294967296) (hx:dig us) (hy:dig ws) (q0:0≤q) (q1:q<4294967296):∀(j k:Nat),k+j=lw→Lq Tryz.prog N (Ag Tryz.f143 2) (dg1.st o lu cu op lp cp n q (qc ws ov q k) (-(qd us o ws ov q k/pw k+qc ws ov q k)) ov lw cw (lw:Int) (k:Int) (ip us o k (qd us o ws ov q k)) tu ws tw nx) (.exit 2) (dg1.st o lu cu op lp cp n q (qc ws ov q lw) (-(qd us o ws ov q lw/pw lw+qc ws ov q lw)) ov lw cw (lw:Int) (lw:Int) (ip us o lw (qd us o ws ov q lw)) tu ws tw nx)
 | 0,k,h=>by
  obtain rfl:k=lw:=by omega
  exact dg1.stop1 _ _ _ _ _ _ _ _ _ _ _ _ _ _ _ _ _ _ _ _ (dfalse (by omega))
 | j +1,k,h=>by
  have e1:i64.wrap ((k:Int)+1)=((k+1:Nat):Int):=by rw [w64 (by omega) (by omega)]; omega
  have ea:o+((k:Int)).toNat*1=o+k:=by simp
  have eb:ov+((k:Int)).toNat*1=ov+k:=by simp
  have hX:=Fj hx (o+k)
  have hY:=Fj hy (ov+k)
  have hC:=Si hy q0 (show ov+k≤ws.length by omega)
  have hB:=Sh hx hy q (show o+k≤us.length by omega) (show ov+k≤ws.length by omega)
  have hs:=Qq q (show o+k<us.length by omega) (show ov+k<ws.length by omega)
  have hcs:=qc_succ q (show ov+k<ws.length by omega)
  have ih:=dg1.go (N:=N) o lu cu op lp cp n q ov lw cw us tu ws tw nx h1 h2 hl hb hx hy q0 q1 j (k+1) (by omega)
  have hg:(ip us o k (qd us o ws ov q k)).getD (o+k) 0=us.getD (o+k) 0:=Ll _ (by omega) (Nat.le_refl _)
  have hlen:=IP (qd us o ws ov q k) (show o+k≤us.length by omega)
  rw [hs,hcs,H1,←N8 (by omega)] at ih
  have m0:0≤q*ws.getD (ov+k) 0:=Int.mul_nonneg q0 hY.1
  have m1:q*ws.getD (ov+k) 0≤4294967295*4294967295:=Int.mul_le_mul (by omega) (by omega) hY.1 (by omega)
  refine dg1.step0 _ _ _ _ _ _ _ _ _ _ _ _ _ _ _ _ _ _ _ _ (dtrue (by omega)) (dtrue2 (by omega) (by omega)) (by rw [eb]; exact Fi (by omega)) (dtrue2 (by omega) (by omega)) (by rw [ea,hlen]; exact Fi (by omega)) (dtrue2 (by omega) (by omega)) (by rw [ea,hlen]; exact Fi (by omega)) ?_
  rw [ea,eb,e1,hg]
  generalize qc ws ov q k=c at*
  generalize qd us o ws ov q k/pw k=d at*
  generalize us.getD (o+k) 0=u at*
  have e2:u64.wrap (c+u64.wrap (q*u64.wrap (ws.getD (ov+k) 0)))=c+q*ws.getD (ov+k) 0:=by
   rw [u64of (n:=ws.getD (ov+k) 0) hY.1 (by omega),u64of (n:=q*ws.getD (ov+k) 0) m0 (by omega),u64of (by omega) (by omega)]
  rw [e2]
  generalize hm:q*ws.getD (ov+k) 0=m at*
  have e3:u32.wrap (c+m)=(c+m)%4294967296:=wu32 _
  have e4:(c+m).fdiv (2^min (Int.toNat 32) u64.bits)=(c+m)/4294967296:=by
   rw [Int.fdiv_eq_ediv_of_nonneg _ (by decide),show ((2:Int)^min (Int.toNat 32) u64.bits)=4294967296 from rfl]
  rw [e3,e4,borrow hX.1 hX.2 (by omega) (by omega) (by omega) (by omega),MD]
  rw [show -((u-(c+m)%4294967296- -(d+c))/4294967296)= -((d+(u-m))/4294967296+(c+m)/4294967296) by omega]
  rw [show (-(-(d+c))+(u-(c+m)%4294967296))%4294967296=(d+(u-m))%4294967296 by omega]
  exact ih
theorem dg1.lp {N:Nat→Prop} (o lu cu op lp cp:Nat) (n q c b:Int) (ov lw cw:Nat) (z i:Int) (us:List Int) (tu:TypeId) (ws:List Int) (tw:TypeId) (nx:Nat) {x:X} {S':St} (h:(dg1.lt o lu cu op lp cp n q c b ov lw cw z i us tu ws tw nx).at=some (x,S')):Lq Tryz.prog N (Ag Tryz.f143 2) (dg1.st o lu cu op lp cp n q c b ov lw cw z i us tu ws tw nx) x S':=by
 obtain ⟨h1,rfl,rfl⟩:=Fw h
 simp only [dg1.ok,zB,Nat.ble_eq,zD,Eo] at h1
 obtain ⟨rfl,rfl,rfl,rfl,h5,h6,h7,⟨h8,h9,h10⟩,h11,h12,h13⟩:=h1
 have e:qc ws ov q 0=0:=by simp [qc,Gw,nv]
 have e': -(qd us o ws ov q 0/pw 0+qc ws ov q 0)=0:=by simp [qd,qc,Gw,nv]
 have:=dg1.go (N:=N) o lu cu op lp cp n q ov lw cw us tu ws tw nx h8 h11 h7 h12 h10 h13 h5 h6 lw 0 (by omega)
 rw [e',e,OR] at this
 exact this
def dg1.t:LSpec:=fun S=>match RX.nth S.tmps 0,RX.nth S.tmps 1,RX.nth S.tmps 5,RX.nth S.tmps 7,RX.nth S.tmps 9,RX.nth S.tmps 10,RX.nth S.tmps 81,RX.nth S.tmps 82,RX.nth S.tmps 83,RX.look S.heap 0,RX.look S.heap 1 with
 | .slice (some ⟨0,o,none⟩) lu cu,.slice (some ⟨1,op,none⟩) lp cp,.int .i64 n,.int .u64 q,.int .u64 c,.int .u32 b,.slice (some ⟨1,ov,none⟩) lw cw,.int .i64 z,.int .i64 i,some (.is .u32 us tu),some (.is .u32 ws tw)=>bif Nat.beq S.tmps.length 159 then some (dg1.lt o lu cu op lp cp n q c b ov lw cw z i us tu ws tw S.nxt) else none
 |_,_,_,_,_,_,_,_,_,_,_=>none
theorem dg1.lok {N:Nat→Prop} :LOKn Tryz.prog N (Ag Tryz.f143 2) (dg1.t):=by
 refine Ge fun S lt x S' ht hat=> ?_
 unfold dg1.t at ht
 split at ht
 ·rename_i o lu cu op lp cp n q c b ov lw cw z i us tu ws tw h0 h1 h5 h7 h9 h10 h81 h82 h83 g0 g1
  cases hb:Nat.beq S.tmps.length 159 with
  |false=>rw [hb] at ht; cases ht
  | true=>
   rw [hb] at ht
   injection ht with ht
   subst ht
   have hb:=zE hb
   exact .enter (fun h=>Gr hb (.cons ⟨h0,bnth h h0⟩ (.cons ⟨h1,bnth h h1⟩ (.cons ⟨h5,bnth h h5⟩ (.cons ⟨h7,bnth h h7⟩ (.cons ⟨h9,bnth h h9⟩ (.cons ⟨h10,bnth h h10⟩ (.cons ⟨h81,bnth h h81⟩ (.cons ⟨h82,bnth h h82⟩ (.cons ⟨h83,bnth h h83⟩ .nil))))))))) (.cons ⟨g0,bname h g0,rfl⟩ (.cons ⟨g1,bname h g1,rfl⟩ .nil))) (dg1.lp _ _ _ _ _ _ _ _ _ _ _ _ _ _ _ _ _ _ _ _ hat)
 ·cases ht
def dg2.ok (o lu ov lw:Nat) (b z i:Int) (us ws:List Int):Bool:=decide (i=0)&&(decide (z=(lw:Int))&&(decide (b=0)&&(Nat.ble lw lu&&(Du o lu us&&Du ov lw ws))))
def dg2.lt (o lu cu:Nat) (n q b:Int) (ov lw cw:Nat) (z i:Int) (us:List Int) (tu:TypeId) (ws:List Int) (tw:TypeId) (nx:Nat):LT:= .got (dg2.ok o lu ov lw b z i us ws) (.exit 4) (dg2.st o lu cu n q (qd us o ws ov (-1) lw/pw lw) ov lw cw z z (ip us o lw (qd us o ws ov (-1) lw)) tu ws tw nx)
theorem qs_bnd {us ws:List Int} (hd:dig us) (hd':dig ws) {o ov k:Nat} (h:o+k≤us.length) (h':ov+k≤ws.length):0≤qd us o ws ov (-1) k/pw k∧qd us o ws ov (-1) k/pw k≤1:=by
 have a:=El (Fg hd o k)
 have b:=Gz (Fg hd o k)
 have a':=El (Fg hd' ov k)
 have b':=Gz (Fg hd' ov k)
 rw [Fh h] at b
 rw [Fh h'] at b'
 have hp:=Gd k
 unfold qd
 constructor
 ·exact Int.ediv_nonneg (by omega) (by omega)
 ·exact Int.le_of_lt_add_one (Int.ediv_lt_of_lt_mul hp (by omega))
theorem dg2.go {N:Nat→Prop} (o lu cu:Nat) (n q:Int) (ov lw cw:Nat) (us:List Int) (tu:TypeId) (ws:List Int) (tw:TypeId) (nx:Nat) (h1:o+lu≤us.length) (h2:ov+lw≤ws.length) (hl:lw≤lu) (hb:lw≤4294967296) (hx:dig us) (hy:dig ws):∀(j k:Nat),k+j=lw→Lq Tryz.prog N (Ag Tryz.f143 4) (dg2.st o lu cu n q (qd us o ws ov (-1) k/pw k) ov lw cw (lw:Int) (k:Int) (ip us o k (qd us o ws ov (-1) k)) tu ws tw nx) (.exit 4) (dg2.st o lu cu n q (qd us o ws ov (-1) lw/pw lw) ov lw cw (lw:Int) (lw:Int) (ip us o lw (qd us o ws ov (-1) lw)) tu ws tw nx)
 | 0,k,h=>by
  obtain rfl:k=lw:=by omega
  exact dg2.stop1 _ _ _ _ _ _ _ _ _ _ _ _ _ _ _ _ (dfalse (by omega))
 | j+1,k,h=>by
  have e1:i64.wrap ((k:Int)+1)=((k+1:Nat):Int):=by rw [w64 (by omega) (by omega)]; omega
  have ea:o+((k:Int)).toNat*1=o+k:=by simp
  have eb:ov+((k:Int)).toNat*1=ov+k:=by simp
  have hX:=Fj hx (o+k)
  have hY:=Fj hy (ov+k)
  have hB:=qs_bnd hx hy (show o+k≤us.length by omega) (show ov+k≤ws.length by omega)
  have hs:=Qq (-1) (show o+k<us.length by omega) (show ov+k<ws.length by omega)
  have ih:=dg2.go (N:=N) o lu cu n q ov lw cw us tu ws tw nx h1 h2 hl hb hx hy j (k+1) (by omega)
  have hg:(ip us o k (qd us o ws ov (-1) k)).getD (o+k) 0=us.getD (o+k) 0:=Ll _ (by omega) (Nat.le_refl _)
  have hlen:=IP (qd us o ws ov (-1) k) (show o+k≤us.length by omega)
  rw [hs,H1,←N8 (by omega)] at ih
  refine dg2.step0 _ _ _ _ _ _ _ _ _ _ _ _ _ _ _ _ (dtrue (by omega)) (dtrue2 (by omega) (by omega)) (by rw [eb]; exact Fi (by omega)) (dtrue2 (by omega) (by omega)) (by rw [ea,hlen]; exact Fi (by omega)) (dtrue2 (by omega) (by omega)) (by rw [ea,hlen]; exact Fi (by omega)) ?_
  rw [ea,eb,e1,hg,Im hX.1 hX.2 hY.1 hY.2 hB.1 hB.2,Jq (by omega) (by omega),wu32]
  rw [show us.getD (o+k) 0+ws.getD (ov+k) 0+qd us o ws ov (-1) k/pw k=qd us o ws ov (-1) k/pw k+(us.getD (o+k) 0- -1*ws.getD (ov+k) 0) by omega]
  exact ih
theorem dg2.lp {N:Nat→Prop} (o lu cu:Nat) (n q b:Int) (ov lw cw:Nat) (z i:Int) (us:List Int) (tu:TypeId) (ws:List Int) (tw:TypeId) (nx:Nat) {x:X} {S':St} (h:(dg2.lt o lu cu n q b ov lw cw z i us tu ws tw nx).at=some (x,S')):Lq Tryz.prog N (Ag Tryz.f143 4) (dg2.st o lu cu n q b ov lw cw z i us tu ws tw nx) x S':=by
 obtain ⟨h1,rfl,rfl⟩:=Fw h
 simp only [dg2.ok,zB,Nat.ble_eq,zD,Eo] at h1
 obtain ⟨rfl,rfl,rfl,h7,⟨h8,h9,h10⟩,h11,h12,h13⟩:=h1
 have e':qd us o ws ov (-1) 0/pw 0=0:=by simp [qd,Gw,nv]
 have:=dg2.go (N:=N) o lu cu n q ov lw cw us tu ws tw nx h8 h11 h7 h12 h10 h13 lw 0 (by omega)
 rw [e',OR] at this
 exact this
def dg2.t:LSpec:=fun S=>match RX.nth S.tmps 0,RX.nth S.tmps 5,RX.nth S.tmps 7,RX.nth S.tmps 13,RX.nth S.tmps 129,RX.nth S.tmps 130,RX.nth S.tmps 131,RX.look S.heap 0,RX.look S.heap 1 with
 | .slice (some ⟨0,o,none⟩) lu cu,.int .i64 n,.int .u64 q,.int .u32 b,.slice (some ⟨1,ov,none⟩) lw cw,.int .i64 z,.int .i64 i,some (.is .u32 us tu),some (.is .u32 ws tw)=>bif Nat.beq S.tmps.length 159 then some (dg2.lt o lu cu n q b ov lw cw z i us tu ws tw S.nxt) else none
 |_,_,_,_,_,_,_,_,_=>none
theorem dg2.lok {N:Nat→Prop} :LOKn Tryz.prog N (Ag Tryz.f143 4) (dg2.t):=by
 refine Ge fun S lt x S' ht hat=> ?_
 unfold dg2.t at ht
 split at ht
 ·rename_i o lu cu n q b ov lw cw z i us tu ws tw h0 h5 h7 h13 h129 h130 h131 g0 g1
  cases hb:Nat.beq S.tmps.length 159 with
  |false=>rw [hb] at ht; cases ht
  | true=>
   rw [hb] at ht
   injection ht with ht
   subst ht
   have hb:=zE hb
   exact .enter (fun h=>Gr hb (.cons ⟨h0,bnth h h0⟩ (.cons ⟨h5,bnth h h5⟩ (.cons ⟨h7,bnth h h7⟩ (.cons ⟨h13,bnth h h13⟩ (.cons ⟨h129,bnth h h129⟩ (.cons ⟨h130,bnth h h130⟩ (.cons ⟨h131,bnth h h131⟩ .nil))))))) (.cons ⟨g0,bname h g0,rfl⟩ (.cons ⟨g1,bname h g1,rfl⟩ .nil))) (dg2.lp _ _ _ _ _ _ _ _ _ _ _ _ _ _ _ _ hat)
 ·cases ht
end Go.Proofs.YtphlckkbihmlnaaGreatDoor.G
end
