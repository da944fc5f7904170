/- A part of what the law's proof leans on. PACKED BY pack.py of this repo. -/
import Derived.Test.YtphlckkbihmlnaaGreatDoorT4
set_option linter.unusedVariables false
set_option linter.unusedSimpArgs false
set_option linter.defProp false
set_option linter.unusedSectionVars false
section
namespace Go.Proofs.YtphlckkbihmlnaaGreatDoor.G
set_option maxRecDepth 100000
open Go RX
theorem Ko:∀(k:Nat) (v:Int),dg (k+1) v=dg k v++[v/pw k%4294967296]
 |0,v=>by simp [dg,IH]
 | k+1,v=>by
  have ih:=Ko k (v/4294967296)
  rw [Int.ediv_ediv,if_neg (by omega),Int.sub_zero,←Fp] at ih
  rw [dg,ih]
  rfl
theorem KC:∀(k:Nat) (v z:Int),dg k (v+pw k*z)=dg k v
 |0,v,z=>rfl
 | k+1,v,z=>by
  have e1:(v+pw (k+1)*z)%4294967296=v%4294967296:=by rw [Fp,Int.mul_assoc]; omega
  have e2:(v+pw (k+1)*z)/4294967296=v/4294967296+pw k*z:=by rw [Fp,Int.mul_assoc]; omega
  simp only [dg,e1,e2,KC k]
theorem M6 (k:Nat) (v z:Int):(v+pw k*z)/pw k=v/pw k+z:=Int.add_mul_ediv_left _ _ (by have:=GN k; omega)
theorem Gm (k:Nat) (v z:Int):(v+pw k*z)/pw (k+1)=(v/pw k+z)/4294967296:=by
 rw [Fp,Int.mul_comm 4294967296,←M6 k v z,Int.ediv_ediv,if_neg (by have:=GN k; omega),Int.sub_zero]
def ap (k:Nat) (v:Int) (n:Nat):List Int:=dg k v++List.replicate (n-k) 0
theorem HE {k n:Nat} (v:Int) (h:k≤n):(ap k v n).length=n:=by simp [ap,Cx]; omega
theorem O5 (v:Int) (n:Nat):ap 0 v n=List.replicate n 0:=rfl
theorem IY {k n:Nat} (h:k<n) (v z:Int):(ap k v n).set k ((v/pw k+z)%4294967296)=ap (k+1) (v+pw k*z) n:=by
 obtain ⟨d,rfl⟩:=Nat.exists_eq_add_of_lt h
 unfold ap
 rw [show k+d+1-k=d+1 from by omega,show k+d+1-(k+1)=d from by omega,Ko,KC,M6,List.replicate_succ]
 have hl:=Cx k v
 rw [List.set_append_right _ _ (by omega),hl,Nat.sub_self,List.set_cons_zero,List.append_assoc]
 rfl
theorem O6 (k:Nat) (v:Int):ap k v k=dg k v:=by simp [ap]
def sg (xs:List Int) (o l k:Nat):Int:=nv (seg xs o (min k l))
theorem Lj {xs:List Int} {o l k:Nat} (h:o+l≤xs.length):sg xs o l (k+1)=sg xs o l k+pw k*(if k<l then xs.getD (o+k) 0 else 0):=by
 unfold sg
 by_cases hk:k<l
 ·rw [if_pos hk,Nat.min_eq_left (by omega),Nat.min_eq_left (by omega),Fi (by omega)]
 ·rw [if_neg hk,Nat.min_eq_right (by omega),Nat.min_eq_right (by omega)]; simp
theorem NX {xs:List Int} (hd:dig xs) {o l:Nat} (h:o+l≤xs.length) (k:Nat):0≤sg xs o l k∧sg xs o l k<pw k:=by
 refine ⟨Ea (Es hd _ _),?_⟩
 have h1:=Gk (Es hd o (min k l))
 rw [Et (by omega)] at h1
 have h2:pw (min k l)≤pw k:=by
  have:=Nat.pow_le_pow_right (show 0<4294967296 by decide) (Nat.min_le_left k l)
  simp only [pw]; omega
 exact Int.lt_of_lt_of_le h1 h2
theorem Lk (xs:List Int) (o l k:Nat) (h:l≤k):sg xs o l k=nv (seg xs o l):=by unfold sg; rw [Nat.min_eq_right h]
theorem Pm (b:BitVec 32):IntKind.u32.wrap ((b.toNat:Nat):Int)=(b.toNat:Int):=u32of (by omega) (by have:=b.isLt; omega)
theorem bo_and (x y:Int):Ei .and .u32 x y=((BitVec.ofInt 32 x&&&BitVec.ofInt 32 y).toNat:Int):=Pm _
theorem bo_or (x y:Int):Ei .or .u32 x y=((BitVec.ofInt 32 x|||BitVec.ofInt 32 y).toNat:Int):=Pm _
theorem bo_xor (x y:Int):Ei .xor .u32 x y=((BitVec.ofInt 32 x^^^BitVec.ofInt 32 y).toNat:Int):=Pm _
theorem R4 (b:BitVec 32):BitVec.ofInt 32 ((b.toNat:Nat):Int)=b:=by simp
theorem PO:BitVec.ofInt 32 (if IntKind.u32.signed=true then -1 else IntKind.u32.max)=BitVec.allOnes 32:=by decide
theorem LA {x:Int} (h:0≤x) (h':x<4294967296):(BitVec.ofInt 32 x).msb=decide (2147483648≤x):=by
 obtain ⟨n,rfl⟩:=Int.eq_ofNat_of_zero_le h
 rw [BitVec.msb_eq_decide]
 simp only [BitVec.ofInt_natCast,BitVec.toNat_ofNat]
 rw [Nat.mod_eq_of_lt (by omega)]
 by_cases hn:2147483648≤n
 ·rw [decide_eq_true (by omega),decide_eq_true (by omega)]
 ·rw [decide_eq_false (by omega),decide_eq_false (by omega)]
theorem borrow {x y b:Int} (hx:0≤x) (hx':x<4294967296) (hy:0≤y) (hy':y<4294967296) (hb:0≤b) (hb':b≤1):
  (Ei .or .u32 (Ei .and .u32 (Ei .xor .u32 (if IntKind.u32.signed=true then -1 else IntKind.u32.max) x) y) (Ei .and .u32 (Ei .xor .u32 (if IntKind.u32.signed=true then -1 else IntKind.u32.max) (Ei .xor .u32 x y)) (IntKind.u32.wrap (IntKind.u32.wrap (x-y)-b)))).fdiv (2^min (Int.toNat 31) IntKind.u32.bits)= -((x-y-b)/4294967296):=by
 simp only [bo_and,bo_or,bo_xor,R4,PO]
 have ed:IntKind.u32.wrap (IntKind.u32.wrap (x-y)-b)=(x-y-b)%4294967296:=by rw [wu32,wu32]; omega
 rw [ed]
 have hd0:=Int.emod_nonneg (x-y-b) (show (4294967296:Int)≠0 by decide)
 have hd1:=Int.emod_lt_of_pos (x-y-b) (show (0:Int)<4294967296 by decide)
 generalize hT:(((BitVec.allOnes 32^^^BitVec.ofInt 32 x)&&&BitVec.ofInt 32 y)|||((BitVec.allOnes 32^^^(BitVec.ofInt 32 x^^^BitVec.ofInt 32 y))&&&BitVec.ofInt 32 ((x-y-b)%4294967296)))=t
 have hm:t.msb=((!decide (2147483648≤x)&&decide (2147483648≤y))||(!(decide (2147483648≤x)^^decide (2147483648≤y))&&decide (2147483648≤(x-y-b)%4294967296))):=by
  rw [←hT]
  simp only [BitVec.msb_or,BitVec.msb_and,BitVec.msb_xor,BitVec.msb_allOnes (show 0<32 by decide),LA hx hx',LA hy hy',LA hd0 hd1,Bool.true_xor]
 have ht:((t.toNat:Nat):Int).fdiv (2^min (Int.toNat 31) IntKind.u32.bits)=if t.msb=true then 1 else 0:=by
  have hlt:=t.isLt
  rw [Int.fdiv_eq_ediv_of_nonneg _ (by decide),show ((2:Int)^min (Int.toNat 31) IntKind.u32.bits)=2147483648 from rfl,BitVec.msb_eq_decide]
  split
  ·rename_i h; have:=of_decide_eq_true h; omega
  ·rename_i h; have:¬_:=fun q=>h (decide_eq_true q); omega
 rw [ht,hm]
 by_cases q1:2147483648≤x<;>by_cases q2:2147483648≤y<;>by_cases q3:2147483648≤(x-y-b)%4294967296<;>simp only [q1,q2,q3,decide_true,decide_false,Bool.not_true,Bool.not_false,Bool.true_and,Bool.false_and,Bool.and_true,Bool.and_false,Bool.or_true,Bool.or_false,Bool.true_or,Bool.false_or,Bool.xor_true,Bool.xor_false,Bool.true_xor,Bool.false_xor,if_true,if_false,Bool.false_eq_true]<;>omega
end Go.Proofs.YtphlckkbihmlnaaGreatDoor.G
end
section
namespace Go.Proofs.YtphlckkbihmlnaaGreatDoor.G
set_option maxRecDepth 100000
open Go Go.Proofs RX
theorem IO {x y c:Int} (hx:0≤x) (hx':x<4294967296) (hy:0≤y) (hy':y<4294967296) (hc:0≤c) (hc':c≤1):IntKind.u64.wrap (IntKind.u64.wrap (IntKind.u64.wrap x+IntKind.u64.wrap y)+IntKind.u64.wrap c)=x+y+c:=by
 rw [u64of (n:=x) (by omega) (by omega),u64of (n:=y) (by omega) (by omega),u64of (n:=c) (by omega) (by omega),u64of (n:=x+y) (by omega) (by omega),u64of (by omega) (by omega)]
theorem JR {v:Int} (h:0≤v) (h':v<8589934592):IntKind.u32.wrap (v.fdiv (2^min (Int.toNat 32) IntKind.u64.bits))=v/4294967296:=by
 rw [Int.fdiv_eq_ediv_of_nonneg _ (by decide),show ((2:Int)^min (Int.toNat 32) IntKind.u64.bits)=4294967296 from rfl,u32of (by omega) (by omega)]
def sm (xs:List Int) (oa la:Nat) (ys:List Int) (ob lb k:Nat):Int:=sg xs oa la k+sg ys ob lb k
def df (xs:List Int) (oa la:Nat) (ys:List Int) (ob lb k:Nat):Int:=sg xs oa la k-sg ys ob lb k
theorem Q8 {xs ys:List Int} {oa la ob lb k:Nat} (h:oa+la≤xs.length) (h':ob+lb≤ys.length):sm xs oa la ys ob lb (k+1)=sm xs oa la ys ob lb k+pw k*((if k<la then xs.getD (oa+k) 0 else 0)+(if k<lb then ys.getD (ob+k) 0 else 0)):=by
 unfold sm
 rw [Lj h,Lj h',Int.mul_add]; omega
theorem df_succ {xs ys:List Int} {oa la ob lb k:Nat} (h:oa+la≤xs.length) (h':ob+lb≤ys.length):df xs oa la ys ob lb (k+1)=df xs oa la ys ob lb k+pw k*((if k<la then xs.getD (oa+k) 0 else 0)-(if k<lb then ys.getD (ob+k) 0 else 0)):=by
 unfold df
 rw [Lj h,Lj h',Int.mul_sub]; omega
theorem M8 {xs ys:List Int} (hx:dig xs) (hy:dig ys) {oa la ob lb:Nat} (h:oa+la≤xs.length) (h':ob+lb≤ys.length) (k:Nat):0≤sm xs oa la ys ob lb k/pw k∧sm xs oa la ys ob lb k/pw k≤1:=by
 have h1:=NX hx h k
 have h2:=NX hy h' k
 have hp:=GN k
 unfold sm
 refine ⟨Int.ediv_nonneg (by omega) (by omega),?_⟩
 have:(sg xs oa la k+sg ys ob lb k)/pw k<2:=Int.ediv_lt_of_lt_mul hp (by omega)
 omega
theorem RM {xs ys:List Int} (hx:dig xs) (hy:dig ys) {oa la ob lb:Nat} (h:oa+la≤xs.length) (h':ob+lb≤ys.length) (k:Nat): -1≤df xs oa la ys ob lb k/pw k∧df xs oa la ys ob lb k/pw k≤0:=by
 have h1:=NX hx h k
 have h2:=NX hy h' k
 have hp:=GN k
 unfold df
 constructor
 ·exact (Int.le_ediv_iff_mul_le hp).2 (by omega)
 ·have:(sg xs oa la k-sg ys ob lb k)/pw k<1:=Int.ediv_lt_of_lt_mul hp (by omega)
  omega
def Ii (oa la ob lb n:Nat) (cr z i:Int) (xs ys out:List Int):Bool:=decide (i=0)&&(decide (z=(la:Int))&&(decide (cr=0)&&(decide (out=List.replicate n 0)&&(Nat.ble la n&&(Dl oa la xs&&Dl ob lb ys)))))
section
variable {N:Nat→Prop} {xe:X} {Se:St} (op lp cp ob lb cb n m:Nat) (cr:Int) (oa la ca:Nat) (z i:Int) (xs:List Int) (ta:TypeId) (ys:List Int) (tb:TypeId) (out:List Int) (tc:TypeId) (nx:Nat)
abbrev add0.st:St:=⟨gbuild [(0,.slice (some ⟨0,op,none⟩) lp cp),(1,.slice (some ⟨1,ob,none⟩) lb cb),(5,.slice (some ⟨146,0,none⟩) n m),(6,.int .u32 cr),(21,.slice (some ⟨0,oa,none⟩) la ca),(22,.int .i64 z),(23,.int .i64 i)] 0 54,[(0,.is .u32 xs ta),(1,.is .u32 ys tb),(146,.is .u32 out tc)],nx⟩
abbrev add0.lk:=RX.lk [0,1,5,6,21,22,23] [0,1,146]
theorem add0.rnd:rd Tryz.prog ⟨[],[(136,Tryz.f136)],[]⟩ [] 5 (Ag Tryz.f122 0) (add0.st op lp cp ob lb cb n m cr oa la ca z i xs ta ys tb out tc nx) 54 [0,1,5,6,21,22,23] [0,1,146]=
 bif decide (i<z) then bif decide (0≤i)&&decide (i<((la:Nat):Int)) then bif (oa+i.toNat*1).blt xs.length then bif decide (i<((lb:Nat):Int)) then bif decide (0≤i)&&decide (i<((lb:Nat):Int)) then bif (ob+i.toNat*1).blt ys.length then bif decide (0≤i)&&decide (i<((n:Nat):Int)) then bif (0+i.toNat*1).blt out.length then add0.lk .normal (add0.st op lp cp ob lb cb n m (IntKind.u32.wrap ((IntKind.u64.wrap (IntKind.u64.wrap (IntKind.u64.wrap (xs.getD (oa+i.toNat*1) 0)+IntKind.u64.wrap (ys.getD (ob+i.toNat*1) 0))+IntKind.u64.wrap cr)).fdiv (2^min (Int.toNat 32) IntKind.u64.bits))) oa la ca z (IntKind.i64.wrap (i+1)) xs ta ys tb (out.set (0+i.toNat*1) (IntKind.u32.wrap (IntKind.u64.wrap (IntKind.u64.wrap (IntKind.u64.wrap (xs.getD (oa+i.toNat*1) 0)+IntKind.u64.wrap (ys.getD (ob+i.toNat*1) 0))+IntKind.u64.wrap cr)))) tc nx) else none else none else none else none else bif decide (0≤i)&&decide (i<((n:Nat):Int)) then bif (0+i.toNat*1).blt out.length then add0.lk .normal (add0.st op lp cp ob lb cb n m (IntKind.u32.wrap ((IntKind.u64.wrap (IntKind.u64.wrap (IntKind.u64.wrap (xs.getD (oa+i.toNat*1) 0)+IntKind.u64.wrap 0)+IntKind.u64.wrap cr)).fdiv (2^min (Int.toNat 32) IntKind.u64.bits))) oa la ca z (IntKind.i64.wrap (i+1)) xs ta ys tb (out.set (0+i.toNat*1) (IntKind.u32.wrap (IntKind.u64.wrap (IntKind.u64.wrap (IntKind.u64.wrap (xs.getD (oa+i.toNat*1) 0)+IntKind.u64.wrap 0)+IntKind.u64.wrap cr)))) tc nx) else none else none else none else none else add0.lk (.exit 0) (add0.st op lp cp ob lb cb n m cr oa la ca z i xs ta ys tb out tc nx):=by kernel_rfl
def add0.step0:=fun h0 h1 h2 h3 h4 h5 h6 h7 (ih:Lq Tryz.prog N (Ag Tryz.f122 0) _ xe Se)=>Lq.toK (f:=5) ⟨Ac,Ex ⟨Tryz.func136,by decide,rfl⟩ Ai,Ad,Ah⟩ Ba (((((((((add0.rnd op lp cp ob lb cb n m cr oa la ca z i xs ta ys tb out tc nx).ct h0).ct h1).ct h2).ct h3).ct h4).ct h5).ct h6).ct h7) rfl rfl ih
def add0.step1:=fun h0 h1 h2 h3 h4 h5 (ih:Lq Tryz.prog N (Ag Tryz.f122 0) _ xe Se)=>Lq.toK (f:=5) ⟨Ac,Ex ⟨Tryz.func136,by decide,rfl⟩ Ai,Ad,Ah⟩ Ba (((((((add0.rnd op lp cp ob lb cb n m cr oa la ca z i xs ta ys tb out tc nx).ct h0).ct h1).ct h2).cf h3).ct h4).ct h5) rfl rfl ih
def add0.stop2:=fun h0=>Lq.endK (N:=N) (f:=5) ⟨Ac,Ex ⟨Tryz.func136,by decide,rfl⟩ Ai,Ad,Ah⟩ Ba ((add0.rnd op lp cp ob lb cb n m cr oa la ca z i xs ta ys tb out tc nx).cf h0) (fun q=>by cases q) rfl rfl
end
def add0.lt (op lp cp ob lb cb n m:Nat) (cr:Int) (oa la ca:Nat) (z i:Int) (xs:List Int) (ta:TypeId) (ys:List Int) (tb:TypeId) (out:List Int) (tc:TypeId) (nx:Nat):LT:= .got (Ii oa la ob lb n cr z i xs ys out) (.exit 0) (add0.st op lp cp ob lb cb n m (sm xs oa la ys ob lb la/pw la) oa la ca z z xs ta ys tb (ap la (sm xs oa la ys ob lb la) n) tc nx)
theorem add0.go {N:Nat→Prop} (op lp cp oa la ca ob lb cb n m:Nat) (xs:List Int) (ta:TypeId) (ys:List Int) (tb tc:TypeId) (nx:Nat) (h1:oa+la≤xs.length) (h2:ob+lb≤ys.length) (h3:la≤4294967296) (h4:lb≤4294967296) (hn:la≤n) (hx:dig xs) (hy:dig ys):∀(j k:Nat),k+j=la→Lq Tryz.prog N (Ag Tryz.f122 0) (add0.st op lp cp ob lb cb n m (sm xs oa la ys ob lb k/pw k) oa la ca (la:Int) (k:Int) xs ta ys tb (ap k (sm xs oa la ys ob lb k) n) tc nx) (.exit 0) (add0.st op lp cp ob lb cb n m (sm xs oa la ys ob lb la/pw la) oa la ca (la:Int) (la:Int) xs ta ys tb (ap la (sm xs oa la ys ob lb la) n) tc nx)
 | 0,k,h=>by
  obtain rfl:k=la:=by omega
  exact add0.stop2 _ _ _ _ _ _ _ _ _ _ _ _ _ _ _ _ _ _ _ _ _ (dfalse (by omega))
 | j +1,k,h=>by
  have e1:IntKind.i64.wrap ((k:Int)+1)=((k+1:Nat):Int):=by rw [w64 (by omega) (by omega)]; omega
  have ea:oa+((k:Int)).toNat*1=oa+k:=by simp
  have eb:ob+((k:Int)).toNat*1=ob+k:=by simp
  have e0:0+((k:Int)).toNat*1=k:=by simp
  have hkn:k<n:=by omega
  have c1:(decide (0≤(k:Int))&&decide ((k:Int)<(la:Int)))=true:=dtrue2 (by omega) (by omega)
  have c2:(oa+((k:Int)).toNat*1).blt xs.length=true:=by rw [ea]; exact Eu (by omega)
  have c5:(decide (0≤(k:Int))&&decide ((k:Int)<(n:Int)))=true:=dtrue2 (by omega) (by omega)
  have c6:(0+((k:Int)).toNat*1).blt (ap k (sm xs oa la ys ob lb k) n).length=true:=by rw [e0,HE _ (by omega)]; exact Eu (by omega)
  have hX:=Ev hx (oa+k)
  have hY:=Ev hy (ob+k)
  have hC:=M8 hx hy h1 h2 k
  have hs:=Q8 (k:=k) h1 h2
  rw [if_pos (show k<la by omega)] at hs
  have ih:=add0.go (N:=N) op lp cp oa la ca ob lb cb n m xs ta ys tb tc nx h1 h2 h3 h4 hn hx hy j (k+1) (by omega)
  by_cases hk:k<lb
  ·rw [if_pos hk] at hs
   refine add0.step0 _ _ _ _ _ _ _ _ _ _ _ _ _ _ _ _ _ _ _ _ _ (dtrue (by omega)) c1 c2 (dtrue (by omega)) (dtrue2 (by omega) (by omega)) (by rw [eb]; exact Eu (by omega)) c5 c6 ?_
   rw [ea,eb,e0,e1,IO hX.1 hX.2 hY.1 hY.2 hC.1 hC.2,JR (by omega) (by omega),wu32]
   rw [hs,Gm,←IY hkn] at ih
   rw [show xs.getD (oa+k) 0+ys.getD (ob+k) 0+sm xs oa la ys ob lb k/pw k=sm xs oa la ys ob lb k/pw k+(xs.getD (oa+k) 0+ys.getD (ob+k) 0) by omega]
   exact ih
  ·rw [if_neg hk] at hs
   refine add0.step1 _ _ _ _ _ _ _ _ _ _ _ _ _ _ _ _ _ _ _ _ _ (dtrue (by omega)) c1 c2 (dfalse (by omega)) c5 c6 ?_
   rw [ea,e0,e1,IO hX.1 hX.2 (Int.le_refl 0) (by decide) hC.1 hC.2,JR (by omega) (by omega),wu32]
   rw [hs,Gm,←IY hkn] at ih
   rw [show xs.getD (oa+k) 0+0+sm xs oa la ys ob lb k/pw k=sm xs oa la ys ob lb k/pw k+(xs.getD (oa+k) 0+0) by omega]
   exact ih
theorem add0.lp {N:Nat→Prop} (op lp cp ob lb cb n m:Nat) (cr:Int) (oa la ca:Nat) (z i:Int) (xs:List Int) (ta:TypeId) (ys:List Int) (tb:TypeId) (out:List Int) (tc:TypeId) (nx:Nat) {x:X} {S':St} (h:(add0.lt op lp cp ob lb cb n m cr oa la ca z i xs ta ys tb out tc nx).at=some (x,S')):Lq Tryz.prog N (Ag Tryz.f122 0) (add0.st op lp cp ob lb cb n m cr oa la ca z i xs ta ys tb out tc nx) x S':=by
 obtain ⟨h1,rfl,rfl⟩:=Fk h
 simp only [Ii,Bool.and_eq_true,Nat.ble_eq,decide_eq_true_eq,Eb] at h1
 obtain ⟨rfl,rfl,rfl,rfl,h5,⟨h6,h7,h8⟩,h9,h10,h11⟩:=h1
 have e:sm xs oa la ys ob lb 0/pw 0=0:=by simp [sm,sg,Gh,nv]
 have:=add0.go (N:=N) op lp cp oa la ca ob lb cb n m xs ta ys tb tc nx h6 h9 h7 h10 h5 h8 h11 la 0 (by omega)
 rw [e,O5] at this
 exact this
def add0.t:LSpec:=fun S=>match RX.nth S.tmps 0,RX.nth S.tmps 1,RX.nth S.tmps 5,RX.nth S.tmps 6,RX.nth S.tmps 21,RX.nth S.tmps 22,RX.nth S.tmps 23,RX.look S.heap 0,RX.look S.heap 1,RX.look S.heap 146 with
 | .slice (some ⟨0,op,none⟩) lp cp,.slice (some ⟨1,ob,none⟩) lb cb,.slice (some ⟨146,0,none⟩) n m,.int .u32 cr,.slice (some ⟨0,oa,none⟩) la ca,.int .i64 z,.int .i64 i,some (.is .u32 xs ta),some (.is .u32 ys tb),some (.is .u32 out tc)=>bif Nat.beq S.tmps.length 54 then some (add0.lt op lp cp ob lb cb n m cr oa la ca z i xs ta ys tb out tc S.nxt) else none
 |_,_,_,_,_,_,_,_,_,_=>none
theorem add0.lok {N:Nat→Prop} :LOKn Tryz.prog N (Ag Tryz.f122 0) (add0.t):=by
 refine GO fun S lt x S' ht hat=> ?_
 unfold add0.t at ht
 split at ht
 ·rename_i op lp cp ob lb cb n m cr oa la ca z i xs ta ys tb out tc h0 h1 h5 h6 h21 h22 h23 g0 g1 g146
  cases hb:Nat.beq S.tmps.length 54 with
  |false=>rw [hb] at ht; cases ht
  | true=>
   rw [hb] at ht
   injection ht with ht
   subst ht
   have hb:=Nat.eq_of_beq_eq_true hb
   exact .enter (fun h=>Gc hb (.cons ⟨h0,bnth h h0⟩ (.cons ⟨h1,bnth h h1⟩ (.cons ⟨h5,bnth h h5⟩ (.cons ⟨h6,bnth h h6⟩ (.cons ⟨h21,bnth h h21⟩ (.cons ⟨h22,bnth h h22⟩ (.cons ⟨h23,bnth h h23⟩ .nil))))))) (.cons ⟨g0,bname h g0,rfl⟩ (.cons ⟨g1,bname h g1,rfl⟩ (.cons ⟨g146,bname h g146,rfl⟩ .nil)))) (add0.lp _ _ _ _ _ _ _ _ _ _ _ _ _ _ _ _ _ _ _ _ _ hat)
 ·cases ht
section
variable {N:Nat→Prop} {xe:X} {Se:St} (op lp cp ob lb cb n m:Nat) (cr:Int) (oa la ca:Nat) (z i:Int) (ys:List Int) (tb:TypeId) (xs:List Int) (ta:TypeId) (out:List Int) (tc:TypeId) (nx:Nat)
abbrev add1.st:St:=⟨gbuild [(0,.slice (some ⟨1,op,none⟩) lp cp),(1,.slice (some ⟨0,ob,none⟩) lb cb),(5,.slice (some ⟨210,0,none⟩) n m),(6,.int .u32 cr),(21,.slice (some ⟨1,oa,none⟩) la ca),(22,.int .i64 z),(23,.int .i64 i)] 0 54,[(0,.is .u32 ys tb),(1,.is .u32 xs ta),(210,.is .u32 out tc)],nx⟩
abbrev add1.lk:=RX.lk [0,1,5,6,21,22,23] [0,1,210]
theorem add1.rnd:rd Tryz.prog ⟨[],[(136,Tryz.f136)],[]⟩ [] 5 (Ag Tryz.f122 0) (add1.st op lp cp ob lb cb n m cr oa la ca z i ys tb xs ta out tc nx) 54 [0,1,5,6,21,22,23] [0,1,210]=
 bif decide (i<z) then bif decide (0≤i)&&decide (i<((la:Nat):Int)) then bif (oa+i.toNat*1).blt xs.length then bif decide (i<((lb:Nat):Int)) then bif decide (0≤i)&&decide (i<((lb:Nat):Int)) then bif (ob+i.toNat*1).blt ys.length then bif decide (0≤i)&&decide (i<((n:Nat):Int)) then bif (0+i.toNat*1).blt out.length then add1.lk .normal (add1.st op lp cp ob lb cb n m (IntKind.u32.wrap ((IntKind.u64.wrap (IntKind.u64.wrap (IntKind.u64.wrap (xs.getD (oa+i.toNat*1) 0)+IntKind.u64.wrap (ys.getD (ob+i.toNat*1) 0))+IntKind.u64.wrap cr)).fdiv (2^min (Int.toNat 32) IntKind.u64.bits))) oa la ca z (IntKind.i64.wrap (i+1)) ys tb xs ta (out.set (0+i.toNat*1) (IntKind.u32.wrap (IntKind.u64.wrap (IntKind.u64.wrap (IntKind.u64.wrap (xs.getD (oa+i.toNat*1) 0)+IntKind.u64.wrap (ys.getD (ob+i.toNat*1) 0))+IntKind.u64.wrap cr)))) tc nx) else none else none else none else none else bif decide (0≤i)&&decide (i<((n:Nat):Int)) then bif (0+i.toNat*1).blt out.length then add1.lk .normal (add1.st op lp cp ob lb cb n m (IntKind.u32.wrap ((IntKind.u64.wrap (IntKind.u64.wrap (IntKind.u64.wrap (xs.getD (oa+i.toNat*1) 0)+IntKind.u64.wrap 0)+IntKind.u64.wrap cr)).fdiv (2^min (Int.toNat 32) IntKind.u64.bits))) oa la ca z (IntKind.i64.wrap (i+1)) ys tb xs ta (out.set (0+i.toNat*1) (IntKind.u32.wrap (IntKind.u64.wrap (IntKind.u64.wrap (IntKind.u64.wrap (xs.getD (oa+i.toNat*1) 0)+IntKind.u64.wrap 0)+IntKind.u64.wrap cr)))) tc nx) else none else none else none else none else add1.lk (.exit 0) (add1.st op lp cp ob lb cb n m cr oa la ca z i ys tb xs ta out tc nx):=by kernel_rfl
def add1.step0:=fun h0 h1 h2 h3 h4 h5 h6 h7 (ih:Lq Tryz.prog N (Ag Tryz.f122 0) _ xe Se)=>Lq.toK (f:=5) ⟨Ac,Ex ⟨Tryz.func136,by decide,rfl⟩ Ai,Ad,Ah⟩ Ba (((((((((add1.rnd op lp cp ob lb cb n m cr oa la ca z i ys tb xs ta out tc nx).ct h0).ct h1).ct h2).ct h3).ct h4).ct h5).ct h6).ct h7) rfl rfl ih
def add1.step1:=fun h0 h1 h2 h3 h4 h5 (ih:Lq Tryz.prog N (Ag Tryz.f122 0) _ xe Se)=>Lq.toK (f:=5) ⟨Ac,Ex ⟨Tryz.func136,by decide,rfl⟩ Ai,Ad,Ah⟩ Ba (((((((add1.rnd op lp cp ob lb cb n m cr oa la ca z i ys tb xs ta out tc nx).ct h0).ct h1).ct h2).cf h3).ct h4).ct h5) rfl rfl ih
def add1.stop2:=fun h0=>Lq.endK (N:=N) (f:=5) ⟨Ac,Ex ⟨Tryz.func136,by decide,rfl⟩ Ai,Ad,Ah⟩ Ba ((add1.rnd op lp cp ob lb cb n m cr oa la ca z i ys tb xs ta out tc nx).cf h0) (fun q=>by cases q) rfl rfl
end
def add1.lt (op lp cp ob lb cb n m:Nat) (cr:Int) (oa la ca:Nat) (z i:Int) (ys:List Int) (tb:TypeId) (xs:List Int) (ta:TypeId) (out:List Int) (tc:TypeId) (nx:Nat):LT:= .got (Ii oa la ob lb n cr z i xs ys out) (.exit 0) (add1.st op lp cp ob lb cb n m (sm xs oa la ys ob lb la/pw la) oa la ca z z ys tb xs ta (ap la (sm xs oa la ys ob lb la) n) tc nx)
theorem add1.go {N:Nat→Prop} (op lp cp oa la ca ob lb cb n m:Nat) (xs:List Int) (ta:TypeId) (ys:List Int) (tb tc:TypeId) (nx:Nat) (h1:oa+la≤xs.length) (h2:ob+lb≤ys.length) (h3:la≤4294967296) (h4:lb≤4294967296) (hn:la≤n) (hx:dig xs) (hy:dig ys):∀(j k:Nat),k+j=la→Lq Tryz.prog N (Ag Tryz.f122 0) (add1.st op lp cp ob lb cb n m (sm xs oa la ys ob lb k/pw k) oa la ca (la:Int) (k:Int) ys tb xs ta (ap k (sm xs oa la ys ob lb k) n) tc nx) (.exit 0) (add1.st op lp cp ob lb cb n m (sm xs oa la ys ob lb la/pw la) oa la ca (la:Int) (la:Int) ys tb xs ta (ap la (sm xs oa la ys ob lb la) n) tc nx)
 | 0,k,h=>by
  obtain rfl:k=la:=by omega
  exact add1.stop2 _ _ _ _ _ _ _ _ _ _ _ _ _ _ _ _ _ _ _ _ _ (dfalse (by omega))
 | j +1,k,h=>by
  have e1:IntKind.i64.wrap ((k:Int)+1)=((k+1:Nat):Int):=by rw [w64 (by omega) (by omega)]; omega
  have ea:oa+((k:Int)).toNat*1=oa+k:=by simp
  have eb:ob+((k:Int)).toNat*1=ob+k:=by simp
  have e0:0+((k:Int)).toNat*1=k:=by simp
  have hkn:k<n:=by omega
  have c1:(decide (0≤(k:Int))&&decide ((k:Int)<(la:Int)))=true:=dtrue2 (by omega) (by omega)
  have c2:(oa+((k:Int)).toNat*1).blt xs.length=true:=by rw [ea]; exact Eu (by omega)
  have c5:(decide (0≤(k:Int))&&decide ((k:Int)<(n:Int)))=true:=dtrue2 (by omega) (by omega)
  have c6:(0+((k:Int)).toNat*1).blt (ap k (sm xs oa la ys ob lb k) n).length=true:=by rw [e0,HE _ (by omega)]; exact Eu (by omega)
  have hX:=Ev hx (oa+k)
  have hY:=Ev hy (ob+k)
  have hC:=M8 hx hy h1 h2 k
  have hs:=Q8 (k:=k) h1 h2
  rw [if_pos (show k<la by omega)] at hs
  have ih:=add1.go (N:=N) op lp cp oa la ca ob lb cb n m xs ta ys tb tc nx h1 h2 h3 h4 hn hx hy j (k+1) (by omega)
  by_cases hk:k<lb
  ·rw [if_pos hk] at hs
   refine add1.step0 _ _ _ _ _ _ _ _ _ _ _ _ _ _ _ _ _ _ _ _ _ (dtrue (by omega)) c1 c2 (dtrue (by omega)) (dtrue2 (by omega) (by omega)) (by rw [eb]; exact Eu (by omega)) c5 c6 ?_
   rw [ea,eb,e0,e1,IO hX.1 hX.2 hY.1 hY.2 hC.1 hC.2,JR (by omega) (by omega),wu32]
   rw [hs,Gm,←IY hkn] at ih
   rw [show xs.getD (oa+k) 0+ys.getD (ob+k) 0+sm xs oa la ys ob lb k/pw k=sm xs oa la ys ob lb k/pw k+(xs.getD (oa+k) 0+ys.getD (ob+k) 0) by omega]
   exact ih
  ·rw [if_neg hk] at hs
   refine add1.step1 _ _ _ _ _ _ _ _ _ _ _ _ _ _ _ _ _ _ _ _ _ (dtrue (by omega)) c1 c2 (dfalse (by omega)) c5 c6 ?_
   rw [ea,e0,e1,IO hX.1 hX.2 (Int.le_refl 0) (by decide) hC.1 hC.2,JR (by omega) (by omega),wu32]
   rw [hs,Gm,←IY hkn] at ih
   rw [show xs.getD (oa+k) 0+0+sm xs oa la ys ob lb k/pw k=sm xs oa la ys ob lb k/pw k+(xs.getD (oa+k) 0+0) by omega]
   exact ih
theorem add1.lp {N:Nat→Prop} (op lp cp ob lb cb n m:Nat) (cr:Int) (oa la ca:Nat) (z i:Int) (ys:List Int) (tb:TypeId) (xs:List Int) (ta:TypeId) (out:List Int) (tc:TypeId) (nx:Nat) {x:X} {S':St} (h:(add1.lt op lp cp ob lb cb n m cr oa la ca z i ys tb xs ta out tc nx).at=some (x,S')):Lq Tryz.prog N (Ag Tryz.f122 0) (add1.st op lp cp ob lb cb n m cr oa la ca z i ys tb xs ta out tc nx) x S':=by
 obtain ⟨h1,rfl,rfl⟩:=Fk h
 simp only [Ii,Bool.and_eq_true,Nat.ble_eq,decide_eq_true_eq,Eb] at h1
 obtain ⟨rfl,rfl,rfl,rfl,h5,⟨h6,h7,h8⟩,h9,h10,h11⟩:=h1
 have e:sm xs oa la ys ob lb 0/pw 0=0:=by simp [sm,sg,Gh,nv]
 have:=add1.go (N:=N) op lp cp oa la ca ob lb cb n m xs ta ys tb tc nx h6 h9 h7 h10 h5 h8 h11 la 0 (by omega)
 rw [e,O5] at this
 exact this
def add1.t:LSpec:=fun S=>match RX.nth S.tmps 0,RX.nth S.tmps 1,RX.nth S.tmps 5,RX.nth S.tmps 6,RX.nth S.tmps 21,RX.nth S.tmps 22,RX.nth S.tmps 23,RX.look S.heap 0,RX.look S.heap 1,RX.look S.heap 210 with
 | .slice (some ⟨1,op,none⟩) lp cp,.slice (some ⟨0,ob,none⟩) lb cb,.slice (some ⟨210,0,none⟩) n m,.int .u32 cr,.slice (some ⟨1,oa,none⟩) la ca,.int .i64 z,.int .i64 i,some (.is .u32 ys tb),some (.is .u32 xs ta),some (.is .u32 out tc)=>bif Nat.beq S.tmps.length 54 then some (add1.lt op lp cp ob lb cb n m cr oa la ca z i ys tb xs ta out tc S.nxt) else none
 |_,_,_,_,_,_,_,_,_,_=>none
theorem add1.lok {N:Nat→Prop} :LOKn Tryz.prog N (Ag Tryz.f122 0) (add1.t):=by
 refine GO fun S lt x S' ht hat=> ?_
 unfold add1.t at ht
 split at ht
 ·rename_i op lp cp ob lb cb n m cr oa la ca z i ys tb xs ta out tc h0 h1 h5 h6 h21 h22 h23 g0 g1 g210
  cases hb:Nat.beq S.tmps.length 54 with
  |false=>rw [hb] at ht; cases ht
  | true=>
   rw [hb] at ht
   injection ht with ht
   subst ht
   have hb:=Nat.eq_of_beq_eq_true hb
   exact .enter (fun h=>Gc hb (.cons ⟨h0,bnth h h0⟩ (.cons ⟨h1,bnth h h1⟩ (.cons ⟨h5,bnth h h5⟩ (.cons ⟨h6,bnth h h6⟩ (.cons ⟨h21,bnth h h21⟩ (.cons ⟨h22,bnth h h22⟩ (.cons ⟨h23,bnth h h23⟩ .nil))))))) (.cons ⟨g0,bname h g0,rfl⟩ (.cons ⟨g1,bname h g1,rfl⟩ (.cons ⟨g210,bname h g210,rfl⟩ .nil)))) (add1.lp _ _ _ _ _ _ _ _ _ _ _ _ _ _ _ _ _ _ _ _ _ hat)
 ·cases ht
end Go.Proofs.YtphlckkbihmlnaaGreatDoor.G
end
section
namespace Go.Proofs.YtphlckkbihmlnaaGreatDoor.G
set_option maxRecDepth 100000
open Go Go.Proofs RX
section
variable {N:Nat→Prop} {xe:X} {Se:St} (ob lb cb n m:Nat) (cr:Int) (oa la ca:Nat) (z i:Int) (xs:List Int) (ta:TypeId) (ys:List Int) (tb:TypeId) (out:List Int) (tc:TypeId) (nx:Nat)
abbrev less.st:St:=⟨gbuild [(1,.slice (some ⟨1,ob,none⟩) lb cb),(5,.slice (some ⟨50,0,none⟩) n m),(6,.int .u32 cr),(13,.slice (some ⟨0,oa,none⟩) la ca),(14,.int .i64 z),(15,.int .i64 i)] 0 41,[(0,.is .u32 xs ta),(1,.is .u32 ys tb),(50,.is .u32 out tc)],nx⟩
abbrev less.lk:=RX.lk [1,5,6,13,14,15] [0,1,50]
theorem less.rnd:rd Tryz.prog ⟨[],[(137,Tryz.f137)],[]⟩ [] 5 (Ag Tryz.f124 0) (less.st ob lb cb n m cr oa la ca z i xs ta ys tb out tc nx) 41 [1,5,6,13,14,15] [0,1,50]=
 bif decide (i<z) then bif decide (0≤i)&&decide (i<((la:Nat):Int)) then bif (oa+i.toNat*1).blt xs.length then bif decide (i<((lb:Nat):Int)) then bif decide (0≤i)&&decide (i<((lb:Nat):Int)) then bif (ob+i.toNat*1).blt ys.length then bif decide (0≤i)&&decide (i<((n:Nat):Int)) then bif (0+i.toNat*1).blt out.length then less.lk .normal (less.st ob lb cb n m ((Ei BinOp.or IntKind.u32 (Ei BinOp.and IntKind.u32 (Ei BinOp.xor IntKind.u32 (if IntKind.u32.signed=true then -1 else IntKind.u32.max) (xs.getD (oa+i.toNat*1) 0)) (ys.getD (ob+i.toNat*1) 0)) (Ei BinOp.and IntKind.u32 (Ei BinOp.xor IntKind.u32 (if IntKind.u32.signed=true then -1 else IntKind.u32.max) (Ei BinOp.xor IntKind.u32 (xs.getD (oa+i.toNat*1) 0) (ys.getD (ob+i.toNat*1) 0))) (IntKind.u32.wrap (IntKind.u32.wrap (xs.getD (oa+i.toNat*1) 0-ys.getD (ob+i.toNat*1) 0)-cr)))).fdiv (2^min (Int.toNat 31) IntKind.u32.bits)) oa la ca z (IntKind.i64.wrap (i+1)) xs ta ys tb (out.set (0+i.toNat*1) (IntKind.u32.wrap (IntKind.u32.wrap (xs.getD (oa+i.toNat*1) 0-ys.getD (ob+i.toNat*1) 0)-cr))) tc nx) else none else none else none else none else bif decide (0≤i)&&decide (i<((n:Nat):Int)) then bif (0+i.toNat*1).blt out.length then less.lk .normal (less.st ob lb cb n m ((Ei BinOp.or IntKind.u32 (Ei BinOp.and IntKind.u32 (Ei BinOp.xor IntKind.u32 (if IntKind.u32.signed=true then -1 else IntKind.u32.max) (xs.getD (oa+i.toNat*1) 0)) 0) (Ei BinOp.and IntKind.u32 (Ei BinOp.xor IntKind.u32 (if IntKind.u32.signed=true then -1 else IntKind.u32.max) (Ei BinOp.xor IntKind.u32 (xs.getD (oa+i.toNat*1) 0) 0)) (IntKind.u32.wrap (IntKind.u32.wrap (xs.getD (oa+i.toNat*1) 0-0)-cr)))).fdiv (2^min (Int.toNat 31) IntKind.u32.bits)) oa la ca z (IntKind.i64.wrap (i+1)) xs ta ys tb (out.set (0+i.toNat*1) (IntKind.u32.wrap (IntKind.u32.wrap (xs.getD (oa+i.toNat*1) 0-0)-cr))) tc nx) else none else none else none else none else less.lk (.exit 0) (less.st ob lb cb n m cr oa la ca z i xs ta ys tb out tc nx):=by kernel_rfl
def less.step0:=fun h0 h1 h2 h3 h4 h5 h6 h7 (ih:Lq Tryz.prog N (Ag Tryz.f124 0) _ xe Se)=>Lq.toK (f:=5) ⟨Ac,Ex ⟨Tryz.func137,by decide,rfl⟩ Ai,Ad,Ah⟩ Ba (((((((((less.rnd ob lb cb n m cr oa la ca z i xs ta ys tb out tc nx).ct h0).ct h1).ct h2).ct h3).ct h4).ct h5).ct h6).ct h7) rfl rfl ih
def less.step1:=fun h0 h1 h2 h3 h4 h5 (ih:Lq Tryz.prog N (Ag Tryz.f124 0) _ xe Se)=>Lq.toK (f:=5) ⟨Ac,Ex ⟨Tryz.func137,by decide,rfl⟩ Ai,Ad,Ah⟩ Ba (((((((less.rnd ob lb cb n m cr oa la ca z i xs ta ys tb out tc nx).ct h0).ct h1).ct h2).cf h3).ct h4).ct h5) rfl rfl ih
def less.stop2:=fun h0=>Lq.endK (N:=N) (f:=5) ⟨Ac,Ex ⟨Tryz.func137,by decide,rfl⟩ Ai,Ad,Ah⟩ Ba ((less.rnd ob lb cb n m cr oa la ca z i xs ta ys tb out tc nx).cf h0) (fun q=>by cases q) rfl rfl
end
def less.lt (ob lb cb n m:Nat) (cr:Int) (oa la ca:Nat) (z i:Int) (xs:List Int) (ta:TypeId) (ys:List Int) (tb:TypeId) (out:List Int) (tc:TypeId) (nx:Nat):LT:= .got (Ii oa la ob lb n cr z i xs ys out) (.exit 0) (less.st ob lb cb n m (-(df xs oa la ys ob lb la/pw la)) oa la ca z z xs ta ys tb (ap la (df xs oa la ys ob lb la) n) tc nx)
theorem Lh {x y b:Int} :IntKind.u32.wrap (IntKind.u32.wrap (x-y)-b)=(-b+(x-y))%4294967296:=by rw [wu32,wu32]; omega
theorem less.go {N:Nat→Prop} (oa la ca ob lb cb n m:Nat) (xs:List Int) (ta:TypeId) (ys:List Int) (tb tc:TypeId) (nx:Nat) (h1:oa+la≤xs.length) (h2:ob+lb≤ys.length) (h3:la≤4294967296) (h4:lb≤4294967296) (hn:la≤n) (hx:dig xs) (hy:dig ys):∀(j k:Nat),k+j=la→Lq Tryz.prog N (Ag Tryz.f124 0) (less.st ob lb cb n m (-(df xs oa la ys ob lb k/pw k)) oa la ca (la:Int) (k:Int) xs ta ys tb (ap k (df xs oa la ys ob lb k) n) tc nx) (.exit 0) (less.st ob lb cb n m (-(df xs oa la ys ob lb la/pw la)) oa la ca (la:Int) (la:Int) xs ta ys tb (ap la (df xs oa la ys ob lb la) n) tc nx)
 | 0,k,h=>by
  obtain rfl:k=la:=by omega
  exact less.stop2 _ _ _ _ _ _ _ _ _ _ _ _ _ _ _ _ _ _ (dfalse (by omega))
 | j +1,k,h=>by
  have e1:IntKind.i64.wrap ((k:Int)+1)=((k+1:Nat):Int):=by rw [w64 (by omega) (by omega)]; omega
  have ea:oa+((k:Int)).toNat*1=oa+k:=by simp
  have eb:ob+((k:Int)).toNat*1=ob+k:=by simp
  have e0:0+((k:Int)).toNat*1=k:=by simp
  have hkn:k<n:=by omega
  have c1:(decide (0≤(k:Int))&&decide ((k:Int)<(la:Int)))=true:=dtrue2 (by omega) (by omega)
  have c2:(oa+((k:Int)).toNat*1).blt xs.length=true:=by rw [ea]; exact Eu (by omega)
  have c5:(decide (0≤(k:Int))&&decide ((k:Int)<(n:Int)))=true:=dtrue2 (by omega) (by omega)
  have c6:(0+((k:Int)).toNat*1).blt (ap k (df xs oa la ys ob lb k) n).length=true:=by rw [e0,HE _ (by omega)]; exact Eu (by omega)
  have hX:=Ev hx (oa+k)
  have hY:=Ev hy (ob+k)
  have hC:=RM hx hy h1 h2 k
  have hs:=df_succ (k:=k) h1 h2
  rw [if_pos (show k<la by omega)] at hs
  have ih:=less.go (N:=N) oa la ca ob lb cb n m xs ta ys tb tc nx h1 h2 h3 h4 hn hx hy j (k+1) (by omega)
  by_cases hk:k<lb
  ·rw [if_pos hk] at hs
   refine less.step0 _ _ _ _ _ _ _ _ _ _ _ _ _ _ _ _ _ _ (dtrue (by omega)) c1 c2 (dtrue (by omega)) (dtrue2 (by omega) (by omega)) (by rw [eb]; exact Eu (by omega)) c5 c6 ?_
   rw [ea,eb,e0,e1,borrow hX.1 hX.2 hY.1 hY.2 (by omega) (by omega),Lh,Int.neg_neg]
   rw [hs,Gm,←IY hkn] at ih
   rw [show xs.getD (oa+k) 0-ys.getD (ob+k) 0- -(df xs oa la ys ob lb k/pw k)=df xs oa la ys ob lb k/pw k+(xs.getD (oa+k) 0-ys.getD (ob+k) 0) by omega]
   exact ih
  ·rw [if_neg hk] at hs
   refine less.step1 _ _ _ _ _ _ _ _ _ _ _ _ _ _ _ _ _ _ (dtrue (by omega)) c1 c2 (dfalse (by omega)) c5 c6 ?_
   rw [ea,e0,e1,borrow hX.1 hX.2 (Int.le_refl 0) (by decide) (by omega) (by omega),Lh,Int.neg_neg]
   rw [hs,Gm,←IY hkn] at ih
   rw [show xs.getD (oa+k) 0-0- -(df xs oa la ys ob lb k/pw k)=df xs oa la ys ob lb k/pw k+(xs.getD (oa+k) 0-0) by omega]
   exact ih
theorem less.lp {N:Nat→Prop} (ob lb cb n m:Nat) (cr:Int) (oa la ca:Nat) (z i:Int) (xs:List Int) (ta:TypeId) (ys:List Int) (tb:TypeId) (out:List Int) (tc:TypeId) (nx:Nat) {x:X} {S':St} (h:(less.lt ob lb cb n m cr oa la ca z i xs ta ys tb out tc nx).at=some (x,S')):Lq Tryz.prog N (Ag Tryz.f124 0) (less.st ob lb cb n m cr oa la ca z i xs ta ys tb out tc nx) x S':=by
 obtain ⟨h1,rfl,rfl⟩:=Fk h
 simp only [Ii,Bool.and_eq_true,Nat.ble_eq,decide_eq_true_eq,Eb] at h1
 obtain ⟨rfl,rfl,rfl,rfl,h5,⟨h6,h7,h8⟩,h9,h10,h11⟩:=h1
 have e: -(df xs oa la ys ob lb 0/pw 0)=0:=by simp [df,sg,Gh,nv]
 have:=less.go (N:=N) oa la ca ob lb cb n m xs ta ys tb tc nx h6 h9 h7 h10 h5 h8 h11 la 0 (by omega)
 rw [e,O5] at this
 exact this
def less.t:LSpec:=fun S=>match RX.nth S.tmps 1,RX.nth S.tmps 5,RX.nth S.tmps 6,RX.nth S.tmps 13,RX.nth S.tmps 14,RX.nth S.tmps 15,RX.look S.heap 0,RX.look S.heap 1,RX.look S.heap 50 with
 | .slice (some ⟨1,ob,none⟩) lb cb,.slice (some ⟨50,0,none⟩) n m,.int .u32 cr,.slice (some ⟨0,oa,none⟩) la ca,.int .i64 z,.int .i64 i,some (.is .u32 xs ta),some (.is .u32 ys tb),some (.is .u32 out tc)=>bif Nat.beq S.tmps.length 41 then some (less.lt ob lb cb n m cr oa la ca z i xs ta ys tb out tc S.nxt) else none
 |_,_,_,_,_,_,_,_,_=>none
theorem less.lok {N:Nat→Prop} :LOKn Tryz.prog N (Ag Tryz.f124 0) (less.t):=by
 refine GO fun S lt x S' ht hat=> ?_
 unfold less.t at ht
 split at ht
 ·rename_i ob lb cb n m cr oa la ca z i xs ta ys tb out tc h1 h5 h6 h13 h14 h15 g0 g1 g50
  cases hb:Nat.beq S.tmps.length 41 with
  |false=>rw [hb] at ht; cases ht
  | true=>
   rw [hb] at ht
   injection ht with ht
   subst ht
   have hb:=Nat.eq_of_beq_eq_true hb
   exact .enter (fun h=>Gc hb (.cons ⟨h1,bnth h h1⟩ (.cons ⟨h5,bnth h h5⟩ (.cons ⟨h6,bnth h h6⟩ (.cons ⟨h13,bnth h h13⟩ (.cons ⟨h14,bnth h h14⟩ (.cons ⟨h15,bnth h h15⟩ .nil)))))) (.cons ⟨g0,bname h g0,rfl⟩ (.cons ⟨g1,bname h g1,rfl⟩ (.cons ⟨g50,bname h g50,rfl⟩ .nil)))) (less.lp _ _ _ _ _ _ _ _ _ _ _ _ _ _ _ _ _ _ hat)
 ·cases ht
def addL:LSpec:=fun S=>match add0.t S with|some lt=>some lt|none=>add1.t S
end Go.Proofs.YtphlckkbihmlnaaGreatDoor.G
end
section
namespace Go.Proofs.YtphlckkbihmlnaaGreatDoor.G
set_option maxRecDepth 100000
open Go Go.Proofs RX
theorem badd0.run (oa la ca ob lb cb:Nat) (xs ys:List Int):xfnN Tryz.prog ⟨[(134,Eg.sp)],[(136,Tryz.f136)],[]⟩ [(0,addL)] 10 Tryz.f122 [.slice (some ⟨0,oa,none⟩) la ca,.slice (some ⟨1,ob,none⟩) lb cb] [.is .u32 xs 144,.is .u32 ys 144] [146]=
 bif decide (((la:Nat):Int)<((lb:Nat):Int)) then bif decide (0≤IntKind.i64.wrap (((lb:Nat):Int)+1))&&(decide (IntKind.i64.wrap (((lb:Nat):Int)+1)≤IntKind.i64.wrap (((lb:Nat):Int)+1))&&(decide (IntKind.i64.wrap (((lb:Nat):Int)+1)≤140737488355328)&&decide (((3+1:Nat):Int)*IntKind.i64.wrap (((lb:Nat):Int)+1)≤140737488355328))) then bif Ii ob lb oa la (IntKind.i64.wrap (((lb:Nat):Int)+1)).toNat 0 (((lb:Nat):Int)) 0 ys xs (List.replicate ((IntKind.i64.wrap (((lb:Nat):Int)+1)).toNat*1) 0) then bif decide (0≤((lb:Nat):Int))&&decide (((lb:Nat):Int)<(((IntKind.i64.wrap (((lb:Nat):Int)+1)).toNat:Nat):Int)) then bif (0+(((lb:Nat):Int)).toNat*1).blt (ap lb (sm ys ob lb xs oa la lb) (IntKind.i64.wrap (((lb:Nat):Int)+1)).toNat).length then bif trim.ok 0 (IntKind.i64.wrap (((lb:Nat):Int)+1)).toNat (IntKind.i64.wrap (((lb:Nat):Int)+1)).toNat ((ap lb (sm ys ob lb xs oa la lb) (IntKind.i64.wrap (((lb:Nat):Int)+1)).toNat).set (0+(((lb:Nat):Int)).toNat*1) (sm ys ob lb xs oa la lb/pw lb)) then none else none else none else none else none else none else bif decide (0≤IntKind.i64.wrap (((la:Nat):Int)+1))&&(decide (IntKind.i64.wrap (((la:Nat):Int)+1)≤IntKind.i64.wrap (((la:Nat):Int)+1))&&(decide (IntKind.i64.wrap (((la:Nat):Int)+1)≤140737488355328)&&decide (((3+1:Nat):Int)*IntKind.i64.wrap (((la:Nat):Int)+1)≤140737488355328))) then bif Ii oa la ob lb (IntKind.i64.wrap (((la:Nat):Int)+1)).toNat 0 (((la:Nat):Int)) 0 xs ys (List.replicate ((IntKind.i64.wrap (((la:Nat):Int)+1)).toNat*1) 0) then bif decide (0≤((la:Nat):Int))&&decide (((la:Nat):Int)<(((IntKind.i64.wrap (((la:Nat):Int)+1)).toNat:Nat):Int)) then bif (0+(((la:Nat):Int)).toNat*1).blt (ap la (sm xs oa la ys ob lb la) (IntKind.i64.wrap (((la:Nat):Int)+1)).toNat).length then bif trim.ok 0 (IntKind.i64.wrap (((la:Nat):Int)+1)).toNat (IntKind.i64.wrap (((la:Nat):Int)+1)).toNat ((ap la (sm xs oa la ys ob lb la) (IntKind.i64.wrap (((la:Nat):Int)+1)).toNat).set (0+(((la:Nat):Int)).toNat*1) (sm xs oa la ys ob lb la/pw la)) then some ((Value.slice (some {block:=146,off:=0}) (tl (seg ((ap la (sm xs oa la ys ob lb la) (IntKind.i64.wrap (((la:Nat):Int)+1)).toNat).set (0+(((la:Nat):Int)).toNat*1) (sm xs oa la ys ob lb la/pw la)) 0 (IntKind.i64.wrap (((la:Nat):Int)+1)).toNat)) (IntKind.i64.wrap (((la:Nat):Int)+1)).toNat,[Blk.is IntKind.u32 xs 144,Blk.is IntKind.u32 ys 144,Blk.is IntKind.u32 ((ap la (sm xs oa la ys ob lb la) (IntKind.i64.wrap (((la:Nat):Int)+1)).toNat).set (0+(((la:Nat):Int)).toNat*1) (sm xs oa la ys ob lb la/pw la)) 144])) else none else none else none else none else none:=by kernel_rfl
def badd0.run0:=fun oa la ca ob lb cb xs ys h0 h1 h2 h3 h4 h5=>(((((((badd0.run oa la ca ob lb cb xs ys).cf h0).ct h1).ct h2).ct h3).ct h4).ct h5)
theorem badd1.run (oa la ca ob lb cb:Nat) (xs ys:List Int):xfnN Tryz.prog ⟨[(134,Eg.sp)],[(136,Tryz.f136)],[]⟩ [(0,addL)] 10 Tryz.f122 [.slice (some ⟨0,oa,none⟩) la ca,.slice (some ⟨1,ob,none⟩) lb cb] [.is .u32 xs 144,.is .u32 ys 144] [210]=
 bif decide (((la:Nat):Int)<((lb:Nat):Int)) then bif decide (0≤IntKind.i64.wrap (((lb:Nat):Int)+1))&&(decide (IntKind.i64.wrap (((lb:Nat):Int)+1)≤IntKind.i64.wrap (((lb:Nat):Int)+1))&&(decide (IntKind.i64.wrap (((lb:Nat):Int)+1)≤140737488355328)&&decide (((3+1:Nat):Int)*IntKind.i64.wrap (((lb:Nat):Int)+1)≤140737488355328))) then bif Ii ob lb oa la (IntKind.i64.wrap (((lb:Nat):Int)+1)).toNat 0 (((lb:Nat):Int)) 0 ys xs (List.replicate ((IntKind.i64.wrap (((lb:Nat):Int)+1)).toNat*1) 0) then bif decide (0≤((lb:Nat):Int))&&decide (((lb:Nat):Int)<(((IntKind.i64.wrap (((lb:Nat):Int)+1)).toNat:Nat):Int)) then bif (0+(((lb:Nat):Int)).toNat*1).blt (ap lb (sm ys ob lb xs oa la lb) (IntKind.i64.wrap (((lb:Nat):Int)+1)).toNat).length then bif trim.ok 0 (IntKind.i64.wrap (((lb:Nat):Int)+1)).toNat (IntKind.i64.wrap (((lb:Nat):Int)+1)).toNat ((ap lb (sm ys ob lb xs oa la lb) (IntKind.i64.wrap (((lb:Nat):Int)+1)).toNat).set (0+(((lb:Nat):Int)).toNat*1) (sm ys ob lb xs oa la lb/pw lb)) then some ((Value.slice (some {block:=210,off:=0}) (tl (seg ((ap lb (sm ys ob lb xs oa la lb) (IntKind.i64.wrap (((lb:Nat):Int)+1)).toNat).set (0+(((lb:Nat):Int)).toNat*1) (sm ys ob lb xs oa la lb/pw lb)) 0 (IntKind.i64.wrap (((lb:Nat):Int)+1)).toNat)) (IntKind.i64.wrap (((lb:Nat):Int)+1)).toNat,[Blk.is IntKind.u32 xs 144,Blk.is IntKind.u32 ys 144,Blk.is IntKind.u32 ((ap lb (sm ys ob lb xs oa la lb) (IntKind.i64.wrap (((lb:Nat):Int)+1)).toNat).set (0+(((lb:Nat):Int)).toNat*1) (sm ys ob lb xs oa la lb/pw lb)) 144])) else none else none else none else none else none else bif decide (0≤IntKind.i64.wrap (((la:Nat):Int)+1))&&(decide (IntKind.i64.wrap (((la:Nat):Int)+1)≤IntKind.i64.wrap (((la:Nat):Int)+1))&&(decide (IntKind.i64.wrap (((la:Nat):Int)+1)≤140737488355328)&&decide (((3+1:Nat):Int)*IntKind.i64.wrap (((la:Nat):Int)+1)≤140737488355328))) then bif Ii oa la ob lb (IntKind.i64.wrap (((la:Nat):Int)+1)).toNat 0 (((la:Nat):Int)) 0 xs ys (List.replicate ((IntKind.i64.wrap (((la:Nat):Int)+1)).toNat*1) 0) then bif decide (0≤((la:Nat):Int))&&decide (((la:Nat):Int)<(((IntKind.i64.wrap (((la:Nat):Int)+1)).toNat:Nat):Int)) then bif (0+(((la:Nat):Int)).toNat*1).blt (ap la (sm xs oa la ys ob lb la) (IntKind.i64.wrap (((la:Nat):Int)+1)).toNat).length then bif trim.ok 0 (IntKind.i64.wrap (((la:Nat):Int)+1)).toNat (IntKind.i64.wrap (((la:Nat):Int)+1)).toNat ((ap la (sm xs oa la ys ob lb la) (IntKind.i64.wrap (((la:Nat):Int)+1)).toNat).set (0+(((la:Nat):Int)).toNat*1) (sm xs oa la ys ob lb la/pw la)) then none else none else none else none else none else none:=by kernel_rfl
def badd1.run0:=fun oa la ca ob lb cb xs ys h0 h1 h2 h3 h4 h5=>(((((((badd1.run oa la ca ob lb cb xs ys).ct h0).ct h1).ct h2).ct h3).ct h4).ct h5)
theorem bless.run (oa la ca ob lb cb:Nat) (xs ys:List Int):xfnN Tryz.prog ⟨[(134,Eg.sp)],[(137,Tryz.f137)],[]⟩ [(0,less.t)] 10 Tryz.f124 [.slice (some ⟨0,oa,none⟩) la ca,.slice (some ⟨1,ob,none⟩) lb cb] [.is .u32 xs 144,.is .u32 ys 144] [50]=
 bif decide (0≤((la:Nat):Int))&&(decide (((la:Nat):Int)≤((la:Nat):Int))&&(decide (((la:Nat):Int)≤140737488355328)&&decide (((3+1:Nat):Int)*((la:Nat):Int)≤140737488355328))) then bif Ii oa la ob lb (((la:Nat):Int)).toNat 0 (((la:Nat):Int)) 0 xs ys (List.replicate ((((la:Nat):Int)).toNat*1) 0) then bif trim.ok 0 (((la:Nat):Int)).toNat (((la:Nat):Int)).toNat (ap la (df xs oa la ys ob lb la) (((la:Nat):Int)).toNat) then some ((Value.slice (some {block:=50,off:=0}) (tl (seg (ap la (df xs oa la ys ob lb la) (((la:Nat):Int)).toNat) 0 (((la:Nat):Int)).toNat)) (((la:Nat):Int)).toNat,[Blk.is IntKind.u32 xs 144,Blk.is IntKind.u32 ys 144,Blk.is IntKind.u32 (ap la (df xs oa la ys ob lb la) (((la:Nat):Int)).toNat) 144])) else none else none else none:=by kernel_rfl
def bless.run0:=fun oa la ca ob lb cb xs ys h0 h1 h2=>((((bless.run oa la ca ob lb cb xs ys).ct h0).ct h1).ct h2)
def add.sp:HSpec
 |[.slice (some ⟨0,oa,none⟩) la ca,.slice (some ⟨1,ob,none⟩) lb cb],[.is .u32 xs 144,.is .u32 ys 144]=>some (Dl oa la xs&&Dl ob lb ys,.slice (some ⟨2,0,none⟩) (tl (dg (max la lb+1) (nv (seg xs oa la)+nv (seg ys ob lb)))) (max la lb+1),[.is .u32 xs 144,.is .u32 ys 144,.is .u32 (dg (max la lb+1) (nv (seg xs oa la)+nv (seg ys ob lb))) 144])
 |_,_=>none
def less.sp:HSpec
 |[.slice (some ⟨0,oa,none⟩) la ca,.slice (some ⟨1,ob,none⟩) lb cb],[.is .u32 xs 144,.is .u32 ys 144]=>some (Dl oa la xs&&(Dl ob lb ys&&decide (nv (seg ys ob lb)≤nv (seg xs oa la))),.slice (some ⟨2,0,none⟩) (tl (dg la (nv (seg xs oa la)-nv (seg ys ob lb)))) la,[.is .u32 xs 144,.is .u32 ys 144,.is .u32 (dg la (nv (seg xs oa la)-nv (seg ys ob lb))) 144])
 |_,_=>none
theorem ap_last {k:Nat} {v:Int} (h:0≤v/pw k) (h':v/pw k<4294967296):(ap k v (k+1)).set k (v/pw k)=dg (k+1) v:=by
 have:=IY (k:=k) (n:=k+1) (by omega) v 0
 rw [Int.add_zero,Int.mul_zero,Int.add_zero,O6,Int.emod_eq_of_lt h h'] at this
 exact this
theorem Qr {xs ys:List Int} (hx:dig xs) (hy:dig ys) {oa la ob lb:Nat} (h:oa+la≤xs.length) (h':ob+lb≤ys.length) (hl:lb≤la):(ap la (sm xs oa la ys ob lb la) (la+1)).set la (sm xs oa la ys ob lb la/pw la)=dg (la+1) (nv (seg xs oa la)+nv (seg ys ob lb)):=by
 have:=M8 hx hy h h' la
 rw [ap_last this.1 (by omega)]
 unfold sm
 rw [Lk _ _ _ _ (Nat.le_refl _),Lk _ _ _ _ hl]
theorem Mq {oa la ob lb:Nat} {xs ys:List Int} {n:Nat} (hn:la≤n) (h:Dl oa la xs=true) (h':Dl ob lb ys=true):Ii oa la ob lb n 0 (la:Int) 0 xs ys (List.replicate n 0)=true:=by
 simp only [Ii,h,h',decide_true,Bool.and_true,Bool.true_and,Nat.ble_eq]; exact hn
theorem MS {l:Nat} (h:l≤4294967297):(decide (0≤(l:Int))&&(decide ((l:Int)≤(l:Int))&&(decide ((l:Int)≤140737488355328)&&decide (((3+1:Nat):Int)*(l:Int)≤140737488355328))))=true:=by
 simp only [Bool.and_eq_true,decide_eq_true_eq]; omega
theorem Hf {l:Nat} {xs:List Int} (h:xs.length=l) (hl:l≤4294967297):trim.ok 0 l l xs=true:=by
 simp only [trim.ok,Bool.and_eq_true,Nat.ble_eq]; omega
theorem add.ok:SOK Tryz.prog 122 add.sp:=by
 refine HJ (E:=⟨[(134,Eg.sp)],[(136,Tryz.f136)],[]⟩) (L:=[(0,addL)]) ⟨Aa Eg.ok Ac,Ex ⟨Tryz.func136,by decide,rfl⟩ Ai,Ad,Ah⟩ 10 Tryz.func122 (by decide) rfl (Fy rfl rfl (LE add0.lok add1.lok)) fun vs bl v bl' h=> ?_
 unfold add.sp at h
 split at h
 ·rename_i oa la ca ob lb cb xs ys
  simp only [Option.some.injEq,Prod.mk.injEq,Bool.and_eq_true] at h
  obtain ⟨⟨hA,hB⟩,rfl,rfl⟩:=h
  obtain ⟨h1,h2,h3⟩:=Eb.1 hA
  obtain ⟨h4,h5,h6⟩:=Eb.1 hB
  by_cases hl:la<lb
  ·have e1:IntKind.i64.wrap (((lb:Nat):Int)+1)=((lb+1:Nat):Int):=by rw [w64 (by omega) (by omega)]; omega
   have hmx:max la lb=lb:=by omega
   have hr:=badd1.run0 oa la ca ob lb cb xs ys (dtrue (by omega)) (by rw [e1]; exact MS (by omega)) (by rw [e1,Int.toNat_natCast,Nat.mul_one]; exact Mq (by omega) hB hA) (by rw [e1,Int.toNat_natCast]; exact dtrue2 (by omega) (by omega)) (by rw [e1,Int.toNat_natCast,HE _ (by omega),Int.toNat_natCast]; exact Eu (by omega)) (by rw [e1,Int.toNat_natCast]; exact Hf (by rw [List.length_set,HE _ (by omega)]) (by omega))
   have hf:=Qr h6 h3 h4 h1 (show la≤lb by omega)
   refine ⟨[210],hr.trans ?_,by simp [okV,Nat.blt],rfl,As rfl,List.nodup_cons.2 ⟨by simp,List.nodup_nil⟩,by simp⟩
   have e2:0+(((lb:Nat):Int)).toNat*1=lb:=by simp
   rw [e1,e2,Int.toNat_natCast,hf,hmx,JD,Int.add_comm]
   rfl
  ·have e1:IntKind.i64.wrap (((la:Nat):Int)+1)=((la+1:Nat):Int):=by rw [w64 (by omega) (by omega)]; omega
   have hmx:max la lb=la:=by omega
   have hr:=badd0.run0 oa la ca ob lb cb xs ys (dfalse (by omega)) (by rw [e1]; exact MS (by omega)) (by rw [e1,Int.toNat_natCast,Nat.mul_one]; exact Mq (by omega) hA hB) (by rw [e1,Int.toNat_natCast]; exact dtrue2 (by omega) (by omega)) (by rw [e1,Int.toNat_natCast,HE _ (by omega),Int.toNat_natCast]; exact Eu (by omega)) (by rw [e1,Int.toNat_natCast]; exact Hf (by rw [List.length_set,HE _ (by omega)]) (by omega))
   have hf:=Qr h3 h6 h1 h4 (show lb≤la by omega)
   refine ⟨[146],hr.trans ?_,by simp [okV,Nat.blt],rfl,As rfl,List.nodup_cons.2 ⟨by simp,List.nodup_nil⟩,by simp⟩
   have e2:0+(((la:Nat):Int)).toNat*1=la:=by simp
   rw [e1,e2,Int.toNat_natCast,hf,hmx,JD]
   rfl
 ·cases h
theorem P7.ok:SOK Tryz.prog 124 less.sp:=by
  refine HJ (E:=⟨[(134,Eg.sp)],[(137,Tryz.f137)],[]⟩) (L:=[(0,less.t)]) ⟨Aa Eg.ok Ac,Ex ⟨Tryz.func137,by decide,rfl⟩ Ai,Ad,Ah⟩ 10 Tryz.func124 (by decide) rfl (Fy rfl rfl less.lok) fun vs bl v bl' h=> ?_
  unfold less.sp at h
  split at h
  · rename_i oa la ca ob lb cb xs ys
    simp only [Option.some.injEq,Prod.mk.injEq,Bool.and_eq_true,decide_eq_true_eq] at h
    obtain ⟨⟨hA,hB,hle⟩,rfl,rfl⟩:=h
    obtain ⟨h1,h2,h3⟩:=Eb.1 hA
    obtain ⟨h4,h5,h6⟩:=Eb.1 hB
    have hr:=bless.run0 oa la ca ob lb cb xs ys (MS (by omega)) (by rw [Int.toNat_natCast,Nat.mul_one]; exact Mq (Nat.le_refl _) hA hB) (by rw [Int.toNat_natCast]; exact Hf (HE _ (Nat.le_refl _)) (by omega))
    refine ⟨[50],hr.trans ?_,by simp [okV,Nat.blt],rfl,As rfl,List.nodup_cons.2 ⟨by simp,List.nodup_nil⟩,by simp⟩
    have hdf:dg la (df xs oa la ys ob lb la)=dg la (nv (seg xs oa la)-nv (seg ys ob lb)):=by
      unfold df
      rw [Lk _ _ _ _ (Nat.le_refl _)]
      by_cases hl:lb≤la
      · rw [Lk _ _ _ _ hl]
      ·
        have hs:sg ys ob lb la=nv (seg ys ob la):=by unfold sg; rw [Nat.min_eq_left (by omega)]
        obtain ⟨d,rfl⟩:=Nat.exists_eq_add_of_le (show la≤lb by omega)
        have hsp:seg ys ob (la+d)=seg ys ob la++seg ys (ob+la) d:=by
          unfold seg
          rw [List.take_add,List.drop_drop]
        rw [hs,hsp,L9,Et (by omega),show nv (seg xs oa la)-(nv (seg ys ob la)+pw la*nv (seg ys (ob+la) d))=nv (seg xs oa la)-nv (seg ys ob la)+pw la* -nv (seg ys (ob+la) d) by rw [Int.mul_neg]; omega,KC]
    rw [Int.toNat_natCast,O6,hdf,JD]
    rfl
  · cases h
end Go.Proofs.YtphlckkbihmlnaaGreatDoor.G
end
section
namespace Go.Proofs.YtphlckkbihmlnaaGreatDoor.G
set_option maxRecDepth 100000
open Go Go.Proofs RX
theorem L2.run (na:Bool) (sa:ByteArray):xfn Tryz.prog ⟨[],[],[]⟩ [] 10 Tryz.f96 [.agg ⟨[.bool na,.string sa]⟩] []=
 bif sa.toList==(⟨#[]⟩:ByteArray).toList then some ((Value.bool !na,[])) else bif decide (0≤0)&&decide (0<((sa.size:Nat):Int)) then some ((Value.bool ((((sa.data.toList.getD (Int.toNat 0) 0).toNat:Nat):Int) !=0),[])) else none:=by kernel_rfl
def L2.run0:=fun na sa h0=>((L2.run na sa).ct h0)
def L2.run1:=fun na sa h0 h1=>(((L2.run na sa).cf h0).ct h1)
theorem rword.run (n:Int):xfnN Tryz.prog ⟨[(134,Eg.sp)],[],[]⟩ [] 10 Tryz.f119 [.int .u64 n] [] [96]=
 some ((Value.slice (some {block:=96,off:=0}) (tl (seg [IntKind.u32.wrap n,IntKind.u32.wrap (n.fdiv (2^min (Int.toNat 32) IntKind.u64.bits))] 0 2)) 2,[Blk.is IntKind.u32 [IntKind.u32.wrap n,IntKind.u32.wrap (n.fdiv (2^min (Int.toNat 32) IntKind.u64.bits))] 144])):=by kernel_rfl
def rword.run0:=fun n=>(rword.run n)
def vldL (n:Bool):List UInt8→Bool
 |[]=> !n
 |b::_=> !(b.toNat==0)
def vld (n:Bool) (s:ByteArray):Bool:=vldL n s.data.toList
def vl (n:Bool) (s:ByteArray):Int:=bif n then -bv s.data.toList else bv s.data.toList
def iI (z:Int):Value:= .agg ⟨[.bool (decide (z<0)),.string (str (enc (z.natAbs:Int)))]⟩
theorem JO {b:UInt8} {r:List UInt8} (h:(b.toNat==0)=false):p8 r.length≤bv (b::r):=by
 have hb:b.toNat≠0:=by simpa using h
 have hp:=HO r.length
 rw [O3]
 have h1:=Ep r
 have h2:1*p8 r.length≤(b.toNat:Int)*p8 r.length:=Int.mul_le_mul_of_nonneg_right (by omega) (by omega)
 omega
theorem J7 {n:Bool} {s:ByteArray} (h:vld n s=true):tz s.data.toList=s.data.toList:=by
 unfold vld at h
 cases hs:s.data.toList with
 |nil=>rfl
 | cons b r=>
  rw [hs] at h
  simp only [vldL,Bool.not_eq_true'] at h
  simp only [tz,h,cond_false]
theorem J6 (z:Int):vld (decide (z<0)) (str (enc (z.natAbs:Int)))=true:=by
 show vldL (decide (z<0)) (enc (z.natAbs:Int))=true
 cases he:enc (z.natAbs:Int) with
 | nil=>
  have:=(Qj (by omega)).1 he
  simp only [vldL,Bool.not_eq_true']
  exact dfalse (by omega)
 | cons b r=>
  simp only [vldL]
  have:=tz_enc (z.natAbs:Int)
  rw [he] at this
  simp only [tz] at this
  cases hb:b.toNat==0 with
  |false=>rfl
  | true=>
   rw [hb,cond_true] at this
   have h2:=Kw r
   rw [this] at h2
   simp only [List.length_cons] at h2
   omega
theorem LQ (z:Int):vl (decide (z<0)) (str (enc (z.natAbs:Int)))=z:=by
 show (bif decide (z<0) then -bv (enc (z.natAbs:Int)) else bv (enc (z.natAbs:Int)))=z
 rw [Pl (by omega)]
 by_cases h:z<0
 ·rw [dtrue h,cond_true]; omega
 ·rw [dfalse h,cond_false]; omega
theorem iI_vl {n:Bool} {s:ByteArray} (h:vld n s=true):iI (vl n s)= .agg ⟨[.bool n,.string s]⟩:=by
 have ht:=J7 h
 have hb:=Ep s.data.toList
 have e1:((vl n s).natAbs:Int)=bv s.data.toList:=by unfold vl; cases n<;>simp only [cond_true,cond_false]<;>omega
 have e2:decide (vl n s<0)=n:=by
  unfold vl
  cases n with
  |false=>exact dfalse (by simp only [cond_false]; omega)
  | true=>
   refine dtrue ?_
   simp only [cond_true]
   unfold vld at h
   cases hs:s.data.toList with
   |nil=>rw [hs] at h; simp [vldL] at h
   | cons b r=>
    rw [hs] at h
    simp only [vldL,Bool.not_eq_true'] at h
    have:=JO (r:=r) h
    have:=HO r.length
    omega
 unfold iI
 rw [e1,e2,Iv ht]
 rfl
def Valid.sp:HSpec
 |[.agg ⟨[.bool n,.string s]⟩],[]=>some (true,.bool (vld n s),[])
 |_,_=>none
theorem Valid.ok : SOK Tryz.prog 96 Valid.sp:=by
  refine Cq (E:=⟨[],[],[]⟩) (L:=[]) ⟨Ac,Ai,Ad,Ah⟩ 10 Tryz.func96 (by decide) rfl Bs fun vs bl v bl' h=> ?_
  unfold Valid.sp at h
  split at h
  · rename_i n s
    simp only [Option.some.injEq,Prod.mk.injEq,true_and] at h
    obtain ⟨rfl,rfl⟩:=h
    refine ⟨?_,by simp [okV],clo_spec 8 _ rfl,As rfl⟩
    obtain ⟨⟨l⟩⟩:=s
    have hs:((⟨⟨l⟩⟩:ByteArray).toList==(⟨#[]⟩:ByteArray).toList)=l.isEmpty:=HD l
    cases l with
    |nil=>exact L2.run0 n _ hs
    | cons b r=>
      refine (L2.run1 n _ hs (dtrue2 (by omega) (by show (0:Int)<(((b::r).length:Nat):Int); rw [List.length_cons]; omega))).trans ?_
      have:((((((b::r:List UInt8).getD (Int.toNat 0) 0).toNat:Nat):Int) !=0))= !(b.toNat==0):=by
        show ((((b.toNat:Nat):Int)) !=0)=_
        cases hb:b.toNat==0 with
        | true => have:b.toNat=0:=by simpa using hb
                  rw [this]; rfl
        | false => have:b.toNat≠0:=by simpa using hb
                   simp only [Bool.not_false]; exact Fh (by omega)
      show some (Value.bool _,_)=some (Value.bool _,_)
      rw [this]
      rfl
  · cases h
def word.sp:HSpec
 |[.int .u64 n],[]=>some (decide (0≤n)&&decide (n<18446744073709551616),.slice (some ⟨0,0,none⟩) (tl (dg 2 n)) 2,[.is .u32 (dg 2 n) 144])
 |_,_=>none
theorem word.ok:SOK Tryz.prog 119 word.sp:=by
 refine HJ (E:=⟨[(134,Eg.sp)],[],[]⟩) (L:=[]) ⟨Aa Eg.ok Ac,Ai,Ad,Ah⟩ 10 Tryz.func119 (by decide) rfl Bs fun vs bl v bl' h=> ?_
 unfold word.sp at h
 split at h
 ·rename_i n
  simp only [Option.some.injEq,Prod.mk.injEq,Bool.and_eq_true,decide_eq_true_eq] at h
  obtain ⟨⟨h0,h1⟩,rfl,rfl⟩:=h
  refine ⟨[96],(rword.run0 n).trans ?_,by simp [okV,Nat.blt],rfl,As rfl,List.nodup_cons.2 ⟨by simp,List.nodup_nil⟩,by simp⟩
  have e:[IntKind.u32.wrap n,IntKind.u32.wrap (n.fdiv (2^min (Int.toNat 32) IntKind.u64.bits))]=dg 2 n:=by
   rw [Int.fdiv_eq_ediv_of_nonneg _ (by decide),show ((2:Int)^min (Int.toNat 32) IntKind.u64.bits)=4294967296 from rfl,wu32,wu32]
   rfl
  rw [e,JD]
  rfl
 ·cases h
end Go.Proofs.YtphlckkbihmlnaaGreatDoor.G
end
section
namespace Go.Proofs.YtphlckkbihmlnaaGreatDoor.G
set_option maxRecDepth 100000
open Go Go.Proofs RX
theorem rOf.run (n:Int):xfn Tryz.prog ⟨[(119,word.sp),(120,with.sp)],[],[]⟩ [] 10 Tryz.f99 [.int .i64 n] []=
 bif decide (n<0) then bif decide (0≤IntKind.u64.wrap (0-IntKind.u64.wrap n))&&decide (IntKind.u64.wrap (0-IntKind.u64.wrap n)<18446744073709551616) then bif Dl 0 (tl (dg 2 (IntKind.u64.wrap (0-IntKind.u64.wrap n)))) (dg 2 (IntKind.u64.wrap (0-IntKind.u64.wrap n))) then some ((Value.agg ⟨[Value.bool (true&& !nv (seg (dg 2 (IntKind.u64.wrap (0-IntKind.u64.wrap n))) 0 (tl (dg 2 (IntKind.u64.wrap (0-IntKind.u64.wrap n)))))==0),Value.string (str (enc (nv (seg (dg 2 (IntKind.u64.wrap (0-IntKind.u64.wrap n))) 0 (tl (dg 2 (IntKind.u64.wrap (0-IntKind.u64.wrap n))))))))]⟩,[])) else none else none else bif decide (0≤IntKind.u64.wrap n)&&decide (IntKind.u64.wrap n<18446744073709551616) then bif Dl 0 (tl (dg 2 (IntKind.u64.wrap n))) (dg 2 (IntKind.u64.wrap n)) then some ((Value.agg ⟨[Value.bool (false&& !nv (seg (dg 2 (IntKind.u64.wrap n)) 0 (tl (dg 2 (IntKind.u64.wrap n))))==0),Value.string (str (enc (nv (seg (dg 2 (IntKind.u64.wrap n)) 0 (tl (dg 2 (IntKind.u64.wrap n)))))))]⟩,[])) else none else none:=by kernel_rfl
def rOf.run0:=fun n h0 h1 h2=>((((rOf.run n).ct h0).ct h1).ct h2)
def rOf.run1:=fun n h0 h1 h2=>((((rOf.run n).cf h0).ct h1).ct h2)
theorem rNeg.run (na:Bool) (sa:ByteArray):xfn Tryz.prog ⟨[(96,Valid.sp)],[],[]⟩ [] 10 Tryz.f126 [.agg ⟨[.bool na,.string sa]⟩] []=
 bif !vld na sa then some ((Value.agg ⟨[Value.bool false,Value.string (⟨#[]⟩:ByteArray)]⟩,[])) else bif !na then some ((Value.agg ⟨[Value.bool !sa.toList==(⟨#[]⟩:ByteArray).toList,Value.string sa]⟩,[])) else some ((Value.agg ⟨[Value.bool false,Value.string sa]⟩,[])):=by kernel_rfl
def rNeg.run0:=fun na sa h0=>((rNeg.run na sa).ct h0)
def rNeg.run1:=fun na sa h0 h1=>(((rNeg.run na sa).cf h0).ct h1)
def rNeg.run2:=fun na sa h0 h1=>(((rNeg.run na sa).cf h0).cf h1)
theorem J3.run (na:Bool) (sa:ByteArray):xfn Tryz.prog ⟨[(96,Valid.sp)],[],[]⟩ [] 10 Tryz.f97 [.agg ⟨[.bool na,.string sa]⟩] []=
 bif !vld na sa then some ((Value.int IntKind.i64 0,[])) else bif sa.toList==(⟨#[]⟩:ByteArray).toList then some ((Value.int IntKind.i64 0,[])) else bif na then some ((Value.int IntKind.i64 (-1),[])) else some ((Value.int IntKind.i64 1,[])):=by kernel_rfl
def J3.run0:=fun na sa h0=>((J3.run na sa).ct h0)
def J3.run1:=fun na sa h0 h1=>(((J3.run na sa).cf h0).ct h1)
def J3.run2:=fun na sa h0 h1 h2=>((((J3.run na sa).cf h0).cf h1).ct h2)
def J3.run3:=fun na sa h0 h1 h2=>((((J3.run na sa).cf h0).cf h1).cf h2)
theorem rAdd.run (na:Bool) (sa:ByteArray) (nb:Bool) (sb:ByteArray):xfn Tryz.prog ⟨[(96,Valid.sp),(121,of.sp),(120,with.sp),(123,compare.sp),(122,add.sp),(124,less.sp)],[],[]⟩ [] 10 Tryz.f101 [.agg ⟨[.bool na,.string sa]⟩,.agg ⟨[.bool nb,.string sb]⟩] []=
 let c0:=seg (dg (nd sa) (bv sa.data.toList)) 0 (tl (dg (nd sa) (bv sa.data.toList)))
 let c1:=seg (dg (nd sb) (bv sb.data.toList)) 0 (tl (dg (nd sb) (bv sb.data.toList)))
 let c2:=dg (max (tl (dg (nd sa) (bv sa.data.toList))) (tl (dg (nd sb) (bv sb.data.toList)))+1) (nv c0+nv c1)
 let c3:=dg (tl (dg (nd sa) (bv sa.data.toList))) (nv c0-nv c1)
 let c4:=dg (tl (dg (nd sb) (bv sb.data.toList))) (nv c1-nv c0)
 bif !vld na sa then some ((Value.agg ⟨[Value.bool false,Value.string (⟨#[]⟩:ByteArray)]⟩,[])) else bif !vld nb sb then some ((Value.agg ⟨[Value.bool false,Value.string (⟨#[]⟩:ByteArray)]⟩,[])) else bif sa.size.ble 8589934592 then bif sb.size.ble 8589934592 then bif na==nb then bif Dl 0 (tl (dg (nd sa) (bv sa.data.toList))) (dg (nd sa) (bv sa.data.toList))&&Dl 0 (tl (dg (nd sb) (bv sb.data.toList))) (dg (nd sb) (bv sb.data.toList)) then bif Dl 0 (tl c2) c2 then some ((Value.agg ⟨[Value.bool (na&& !nv (seg c2 0 (tl c2))==0),Value.string (str (enc (nv (seg c2 0 (tl c2)))))]⟩,[])) else none else none else bif Dl 0 (tl (dg (nd sa) (bv sa.data.toList))) (dg (nd sa) (bv sa.data.toList))&&Dl 0 (tl (dg (nd sb) (bv sb.data.toList))) (dg (nd sb) (bv sb.data.toList)) then bif decide (cmpI (tl (dg (nd sa) (bv sa.data.toList))) (tl (dg (nd sb) (bv sb.data.toList))) (nv c0) (nv c1)≥0) then bif Dl 0 (tl (dg (nd sa) (bv sa.data.toList))) (dg (nd sa) (bv sa.data.toList))&&(Dl 0 (tl (dg (nd sb) (bv sb.data.toList))) (dg (nd sb) (bv sb.data.toList))&&decide (nv c1≤nv c0)) then bif Dl 0 (tl c3) c3 then some ((Value.agg ⟨[Value.bool (na&& !nv (seg c3 0 (tl c3))==0),Value.string (str (enc (nv (seg c3 0 (tl c3)))))]⟩,[])) else none else none else bif Dl 0 (tl (dg (nd sb) (bv sb.data.toList))) (dg (nd sb) (bv sb.data.toList))&&(Dl 0 (tl (dg (nd sa) (bv sa.data.toList))) (dg (nd sa) (bv sa.data.toList))&&decide (nv c0≤nv c1)) then bif Dl 0 (tl c4) c4 then some ((Value.agg ⟨[Value.bool (nb&& !nv (seg c4 0 (tl c4))==0),Value.string (str (enc (nv (seg c4 0 (tl c4)))))]⟩,[])) else none else none else none else none else none:=by kernel_rfl
def rAdd.run0:=fun na sa nb sb h0=>((rAdd.run na sa nb sb).ct h0)
def rAdd.run1:=fun na sa nb sb h0 h1=>(((rAdd.run na sa nb sb).cf h0).ct h1)
def rAdd.run2:=fun na sa nb sb h0 h1 h2 h3 h4 h5 h6=>((((((((rAdd.run na sa nb sb).cf h0).cf h1).ct h2).ct h3).ct h4).ct h5).ct h6)
def rAdd.run3:=fun na sa nb sb h0 h1 h2 h3 h4 h5 h6 h7 h8=>((((((((((rAdd.run na sa nb sb).cf h0).cf h1).ct h2).ct h3).cf h4).ct h5).ct h6).ct h7).ct h8)
def rAdd.run4:=fun na sa nb sb h0 h1 h2 h3 h4 h5 h6 h7 h8=>((((((((((rAdd.run na sa nb sb).cf h0).cf h1).ct h2).ct h3).cf h4).ct h5).cf h6).ct h7).ct h8)
theorem nvc {n:Nat} {v:Int} (h:0≤v) (h':v<pw n):nv (seg (dg n v) 0 (tl (dg n v)))=v:=by
 rw [NE (GZ n v) n,Hd n v h h']
theorem okc {n:Nat} (v:Int) (h:n≤4294967296):Dl 0 (tl (dg n v)) (dg n v)=true:=by
 have:=Hc (dg n v)
 rw [Cx] at this
 exact Eb.2 ⟨by rw [Cx]; omega,by omega,GZ n v⟩
theorem IL {n:Nat} {v:Int} (h:0≤v) (h':v<pw n):v<pw (tl (dg n v)):=by
 have h1:=nvc h h'
 have h2:=Gk (Es (GZ n v) 0 (tl (dg n v)))
 have h3:=Hc (dg n v)
 rw [h1,Et (by omega)] at h2
 exact h2
theorem RY {n k:Nat} {v:Int} (h:0≤v) (h':v<pw n) (hk:tl (dg n v)=k+1):pw k≤v:=by
 have:=Pz (GZ n v) hk
 rwa [Hd n v h h'] at this
theorem HK {j k:Nat} (h:j≤k):pw j≤pw k:=by
 have:=Nat.pow_le_pow_right (show 0<4294967296 by decide) h
 simp only [pw]; omega
theorem OC {n m:Nat} {a b:Int} (ha:0≤a) (ha':a<pw n) (hb:0≤b) (hb':b<pw m) (h:tl (dg n a)<tl (dg m b)):a<b:=by
 obtain ⟨k,hk⟩:∃k,tl (dg m b)=k+1:=⟨tl (dg m b)-1,by omega⟩
 have h1:=RY hb hb' hk
 have h2:=IL ha ha'
 have h3:=HK (show tl (dg n a)≤k by omega)
 omega
theorem Jo {n m:Nat} {a b:Int} (ha:0≤a) (ha':a<pw n) (hb:0≤b) (hb':b<pw m):cmpI (tl (dg n a)) (tl (dg m b)) a b≥0↔b≤a:=by
 unfold cmpI
 split
 ·split
  ·omega
  ·split<;>omega
 ·rename_i hne
  rcases Nat.lt_or_gt_of_ne hne with h|h
  ·have:=OC ha ha' hb hb' h; omega
  ·have:=OC hb hb' ha ha' h; omega
theorem Hn (n:Bool) {v:Int} (h:0≤v):iv n v=iI (bif n then -v else v):=by
 unfold iv iI
 cases n with
 | false=>
  have:¬v<0:=by omega
  simp only [cond_false,Bool.false_and,dfalse this]
  rw [show (v.natAbs:Int)=v by omega]
 | true=>
  simp only [cond_true,Bool.true_and]
  rw [show ((-v).natAbs:Int)=v by omega]
  by_cases h0:v=0
  ·subst h0; rfl
  ·rw [Fu h0,dtrue (show -v<0 by omega)]; rfl
theorem Gr (s:ByteArray):bv s.data.toList<pw (nd s):=by
 have h:=JP s.data.toList
 have h1:s.data.toList.length=s.size:=rfl
 rw [h1] at h
 rw [←Lr]
 exact Int.lt_of_lt_of_le h (Gu (by unfold nd; omega))
theorem GY:iI 0= .agg ⟨[.bool false,.string (⟨#[]⟩:ByteArray)]⟩:=rfl
def Of.sp:HSpec
 |[.int .i64 n],[]=>some (decide (-9223372036854775808≤n)&&decide (n≤9223372036854775807),iI n,[])
 |_,_=>none
def Neg.sp:HSpec
 |[.agg ⟨[.bool n,.string s]⟩],[]=>some (true,iI (bif vld n s then -vl n s else 0),[])
 |_,_=>none
def sgn (z:Int):Int:=if z<0 then -1 else if z=0 then 0 else 1
def Sign.sp:HSpec
 |[.agg ⟨[.bool n,.string s]⟩],[]=>some (true,.int .i64 (sgn (bif vld n s then vl n s else 0)),[])
 |_,_=>none
def szOk (s:ByteArray):Bool:=Nat.ble s.size 8589934592
def Add.sp:HSpec
 |[.agg ⟨[.bool na,.string sa]⟩,.agg ⟨[.bool nb,.string sb]⟩],[]=>some (szOk sa&&szOk sb,iI (bif vld na sa&&vld nb sb then vl na sa+vl nb sb else 0),[])
 |_,_=>none
theorem Df {b:Bool} (h:b=true):(!b)=false:=by rw [h]; rfl
theorem Fs {b:Bool} (h:b=false):(!b)=true:=by rw [h]; rfl
theorem Add.ok:SOK Tryz.prog 101 Add.sp:=by
 refine Cq (E:=⟨[(96,Valid.sp),(121,of.sp),(120,with.sp),(123,compare.sp),(122,add.sp),(124,less.sp)],[],[]⟩) (L:=[]) ⟨Aa Valid.ok (Aa of.ok (Aa with.ok (Aa compare.ok (Aa add.ok (Aa P7.ok Ac))))),Ai,Ad,Ah⟩ 10 Tryz.func101 (by decide) rfl Bs fun vs bl v bl' h=> ?_
 unfold Add.sp at h
 split at h
 ·rename_i na sa nb sb
  simp only [Option.some.injEq,Prod.mk.injEq,Bool.and_eq_true] at h
  obtain ⟨⟨h1,h2⟩,rfl,rfl⟩:=h
  refine ⟨?_,by simp [okV],clo_spec 8 _ rfl,As rfl⟩
  cases va:vld na sa with
  |false=>exact (rAdd.run0 na sa nb sb (Fs va)).trans (by simp only [Bool.false_and,cond_false]; rw [GY])
  |true=>
  cases vb:vld nb sb with
  |false=>exact (rAdd.run1 na sa nb sb (Df va) (Fs vb)).trans (by simp only [Bool.and_false,cond_false]; rw [GY])
  |true=>
  have hsa:=Nat.le_of_ble_eq_true h1
  have hsb:=Nat.le_of_ble_eq_true h2
  have na_:nd sa≤2147483648:=by unfold nd; omega
  have nb_:nd sb≤2147483648:=by unfold nd; omega
  have a0:=Ep sa.data.toList
  have b0:=Ep sb.data.toList
  have a1:=Gr sa
  have b1:=Gr sb
  have oa:=okc (n:=nd sa) (bv sa.data.toList) (by omega)
  have ob:=okc (n:=nd sb) (bv sb.data.toList) (by omega)
  have ta:=Hc (dg (nd sa) (bv sa.data.toList))
  have tb:=Hc (dg (nd sb) (bv sb.data.toList))
  rw [Cx] at ta tb
  have oab:(Dl 0 (tl (dg (nd sa) (bv sa.data.toList))) (dg (nd sa) (bv sa.data.toList))&&Dl 0 (tl (dg (nd sb) (bv sb.data.toList))) (dg (nd sb) (bv sb.data.toList)))=true:=by rw [oa,ob]; rfl
  simp only [Bool.and_true,cond_true]
  cases hn:na==nb with
  | true=>
   have:na=nb:=by simpa using hn
   subst this
   refine (rAdd.run2 na sa na sb (Df va) (Df vb) h1 h2 hn oab (okc _ (by omega))).trans ?_
   have hlt:bv sa.data.toList+bv sb.data.toList<pw (max (tl (dg (nd sa) (bv sa.data.toList))) (tl (dg (nd sb) (bv sb.data.toList)))+1):=by
    have q1:=IL a0 a1
    have q2:=IL b0 b1
    have q3:=HK (Nat.le_max_left (tl (dg (nd sa) (bv sa.data.toList))) (tl (dg (nd sb) (bv sb.data.toList))))
    have q4:=HK (Nat.le_max_right (tl (dg (nd sa) (bv sa.data.toList))) (tl (dg (nd sb) (bv sb.data.toList))))
    rw [Fp]; omega
   show some (iv na _,_)=_
   rw [nvc a0 a1,nvc b0 b1,nvc (by omega) hlt,Hn na (by omega)]
   unfold vl
   cases na<;>simp only [cond_true,cond_false]<;>congr 3<;>omega
  | false=>
   by_cases hc:bv sb.data.toList≤bv sa.data.toList
   ·have hcm:=(Jo a0 a1 b0 b1).2 hc
    refine (rAdd.run3 na sa nb sb (Df va) (Df vb) h1 h2 hn oab (by rw [nvc a0 a1,nvc b0 b1]; exact dtrue hcm) (by rw [oa,ob,nvc a0 a1,nvc b0 b1,dtrue hc]; rfl) (okc _ (by omega))).trans ?_
    have hlt:bv sa.data.toList-bv sb.data.toList<pw (tl (dg (nd sa) (bv sa.data.toList))):=by
     have q1:=IL a0 a1
     omega
    show some (iv na _,_)=_
    rw [nvc a0 a1,nvc b0 b1,nvc (by omega) hlt,Hn na (by omega)]
    unfold vl
    cases na<;>cases nb<;>simp at hn<;>simp only [cond_true,cond_false]<;>congr 3<;>omega
   ·have hcm:¬_:=fun q=>hc ((Jo a0 a1 b0 b1).1 q)
    refine (rAdd.run4 na sa nb sb (Df va) (Df vb) h1 h2 hn oab (by rw [nvc a0 a1,nvc b0 b1]; exact dfalse hcm) (by rw [oa,ob,nvc a0 a1,nvc b0 b1,dtrue (show bv sa.data.toList≤bv sb.data.toList by omega)]; rfl) (okc _ (by omega))).trans ?_
    have hlt:bv sb.data.toList-bv sa.data.toList<pw (tl (dg (nd sb) (bv sb.data.toList))):=by
     have q1:=IL b0 b1
     omega
    show some (iv nb _,_)=_
    rw [nvc a0 a1,nvc b0 b1,nvc (by omega) hlt,Hn nb (by omega)]
    unfold vl
    cases na<;>cases nb<;>simp at hn<;>simp only [cond_true,cond_false]<;>congr 3<;>omega
 ·cases h
theorem Of.ok:SOK Tryz.prog 99 Of.sp:=by
 refine Cq (E:=⟨[(119,word.sp),(120,with.sp)],[],[]⟩) (L:=[]) ⟨Aa word.ok (Aa with.ok Ac),Ai,Ad,Ah⟩ 10 Tryz.func99 (by decide) rfl Bs fun vs bl v bl' h=> ?_
 unfold Of.sp at h
 split at h
 ·rename_i n
  simp only [Option.some.injEq,Prod.mk.injEq,Bool.and_eq_true,decide_eq_true_eq] at h
  obtain ⟨⟨h1,h2⟩,rfl,rfl⟩:=h
  refine ⟨?_,by simp [okV],clo_spec 8 _ rfl,As rfl⟩
  have hp:pw 2=18446744073709551616:=by decide
  by_cases hn:n<0
  ·have e:IntKind.u64.wrap (0-IntKind.u64.wrap n)= -n:=by rw [wu64,wu64]; omega
   refine (rOf.run0 n (dtrue hn) (by rw [e]; exact dtrue2 (by omega) (by omega)) (okc _ (by decide))).trans ?_
   show some (iv true _,_)=_
   rw [e,nvc (by omega) (by rw [hp]; omega),Hn true (by omega)]
   simp only [cond_true,Int.neg_neg]
  ·have e:IntKind.u64.wrap n=n:=u64of (by omega) (by omega)
   refine (rOf.run1 n (dfalse hn) (by rw [e]; exact dtrue2 (by omega) (by omega)) (okc _ (by decide))).trans ?_
   show some (iv false _,_)=_
   rw [e,nvc (by omega) (by rw [hp]; omega),Hn false (by omega)]
   rfl
 ·cases h
theorem Neg.ok:SOK Tryz.prog 126 Neg.sp:=by
 refine Cq (E:=⟨[(96,Valid.sp)],[],[]⟩) (L:=[]) ⟨Aa Valid.ok Ac,Ai,Ad,Ah⟩ 10 Tryz.func126 (by decide) rfl Bs fun vs bl v bl' h=> ?_
 unfold Neg.sp at h
 split at h
 ·rename_i n s
  simp only [Option.some.injEq,Prod.mk.injEq,true_and] at h
  obtain ⟨rfl,rfl⟩:=h
  refine ⟨?_,by simp [okV],clo_spec 8 _ rfl,As rfl⟩
  cases va:vld n s with
  |false=>exact (rNeg.run0 n s (Fs va)).trans (by simp only [cond_false]; rw [GY])
  | true=>
   have ht:=J7 va
   have hb:=Ep s.data.toList
   have hstr:str s.data.toList=s:=rfl
   have hnil:(s.toList==(⟨#[]⟩:ByteArray).toList)=(bv s.data.toList==0):=by
    have h1:=HD s.data.toList
    have h2:=H0 hb
    rw [Iv ht] at h2
    rw [←h2]; exact h1
   have key:∀m:Bool,(.agg ⟨[.bool (m&& !(s.toList==(⟨#[]⟩:ByteArray).toList)),.string s]⟩:Value)=iI (bif m then -bv s.data.toList else bv s.data.toList):=fun m=>by
    rw [hnil,←Hn m hb]
    unfold iv
    rw [Iv ht,hstr]
   cases n with
   | false=>
    refine (rNeg.run1 false s (Df va) rfl).trans ?_
    have:=key true
    simp only [Bool.true_and,cond_true] at this
    simp only [cond_true,vl,cond_false,Bool.not_false]
    rw [←this]
   | true=>
    refine (rNeg.run2 true s (Df va) rfl).trans ?_
    have:=key false
    simp only [Bool.false_and,cond_false] at this
    simp only [cond_true,vl,Int.neg_neg]
    rw [←this]
 ·cases h
theorem Sign.ok:SOK Tryz.prog 97 Sign.sp:=by
 refine Cq (E:=⟨[(96,Valid.sp)],[],[]⟩) (L:=[]) ⟨Aa Valid.ok Ac,Ai,Ad,Ah⟩ 10 Tryz.func97 (by decide) rfl Bs fun vs bl v bl' h=> ?_
 unfold Sign.sp at h
 split at h
 ·rename_i n s
  simp only [Option.some.injEq,Prod.mk.injEq,true_and] at h
  obtain ⟨rfl,rfl⟩:=h
  refine ⟨?_,by simp [okV],clo_spec 8 _ rfl,As rfl⟩
  cases va:vld n s with
  |false=>exact J3.run0 n s (Fs va)
  | true=>
   have ht:=J7 va
   have hb:=Ep s.data.toList
   have hnil:(s.toList==(⟨#[]⟩:ByteArray).toList)=(bv s.data.toList==0):=by
    have h1:=HD s.data.toList
    have h2:=H0 hb
    rw [Iv ht] at h2
    rw [←h2]; exact h1
   simp only [cond_true]
   cases h0:bv s.data.toList==0 with
   | true=>
    have h0':bv s.data.toList=0:=by simpa using h0
    refine (J3.run1 n s (Df va) (by rw [hnil]; exact h0)).trans ?_
    unfold vl
    rw [h0']
    cases n<;>rfl
   | false=>
    have h0':bv s.data.toList≠0:=by simpa using h0
    cases n with
    | true=>
     refine (J3.run2 true s (Df va) (by rw [hnil]; exact h0) rfl).trans ?_
     have:sgn (vl true s)= -1:=by unfold sgn vl; simp only [cond_true]; rw [if_pos (by omega)]
     rw [this]
    | false=>
     refine (J3.run3 false s (Df va) (by rw [hnil]; exact h0) rfl).trans ?_
     have:sgn (vl false s)=1:=by unfold sgn vl; simp only [cond_false]; rw [if_neg (by omega),if_neg h0']
     rw [this]
 ·cases h
end Go.Proofs.YtphlckkbihmlnaaGreatDoor.G
end
section
namespace Go.Proofs.YtphlckkbihmlnaaGreatDoor.G
set_option maxRecDepth 100000
open Go Go.Proofs RX
section
variable {N:Nat→Prop} {xe:X} {Se:St} (o n m:Nat) (c i:Int) (xs:List Int) (ty:TypeId) (nx:Nat)
abbrev put.st:St:=⟨gbuild [(0,.slice (some ⟨0,o,none⟩) n m),(10,.int .u32 c),(11,.int .i64 i)] 0 63,[(0,.is .u32 xs ty)],nx⟩
abbrev put.lk:=RX.lk [0,10,11] [0]
theorem put.rnd:rd Tryz.prog ⟨[],[(136,Tryz.f136)],[]⟩ [] 5 (Ag Tryz.f138 0) (put.st o n m c i xs ty nx) 63 [0,10,11] [0]=
 bif c !=0 then bif decide (0≤i)&&decide (i<((n:Nat):Int)) then bif (o+i.toNat*1).blt xs.length then bif decide (0≤i)&&decide (i<((n:Nat):Int)) then bif (o+i.toNat*1).blt xs.length then put.lk .normal (put.st o n m (IntKind.u32.wrap ((IntKind.u64.wrap (IntKind.u64.wrap (IntKind.u64.wrap (xs.getD (o+i.toNat*1) 0)+IntKind.u64.wrap 0)+IntKind.u64.wrap c)).fdiv (2^min (Int.toNat 32) IntKind.u64.bits))) (IntKind.i64.wrap (i+1)) (xs.set (o+i.toNat*1) (IntKind.u32.wrap (IntKind.u64.wrap (IntKind.u64.wrap (IntKind.u64.wrap (xs.getD (o+i.toNat*1) 0)+IntKind.u64.wrap 0)+IntKind.u64.wrap c)))) ty nx) else none else none else none else none else some ((X.exit 0,[Value.slice (some {block:=0,off:=o}) n m,Value.int IntKind.u32 c,Value.int IntKind.i64 i],[some (Blk.is IntKind.u32 xs ty)])):=by kernel_rfl
def put.step0:=fun h0 h1 h2 h3 h4 (ih:Lq Tryz.prog N (Ag Tryz.f138 0) _ xe Se)=>Lq.toK (f:=5) ⟨Ac,Ex ⟨Tryz.func136,by decide,rfl⟩ Ai,Ad,Ah⟩ Ba ((((((put.rnd o n m c i xs ty nx).ct h0).ct h1).ct h2).ct h3).ct h4) rfl rfl ih
def put.stop1:=fun h0=>Lq.stop (S2:=⟨gbuild [] 0 63,[(0,Blk.is IntKind.u32 xs ty)],nx⟩) (N:=N) (f:=5) ⟨Ac,Ex ⟨Tryz.func136,by decide,rfl⟩ Ai,Ad,Ah⟩ Ba ((put.rnd o n m c i xs ty nx).cf h0) (fun q=>by cases q) (fun h=>q_of .nil (.cons ⟨rfl,(bname h (m:=0) rfl),rfl⟩ .nil))
end
theorem SC:∀(xs:List Int) (i:Nat) (v:Int),i<xs.length→nv (xs.set i v)=nv xs+pw i*(v-xs.getD i 0)
 |[],i,v,h=>by simp at h
 |x::r,0,v,_=>by simp [nv,IH]; omega
 | x::r,i+1,v,h=>by
  simp only [List.set_cons_succ,nv,List.getD_cons_succ,Fp]
  rw [SC r i v (by simpa using h),Int.mul_add,Int.mul_assoc]
  omega
theorem Ny {xs:List Int} (h:dig xs) (i:Nat) {v:Int} (h0:0≤v) (h1:v<4294967296):dig (xs.set i v):=fun x hx=>by
 rcases List.mem_or_eq_of_mem_set hx with hx|rfl
 ·exact h x hx
 ·exact ⟨h0,h1⟩
theorem MP (xs:List Int) (i:Nat) (v:Int) (h:i<xs.length):nv (xs.set i ((xs.getD i 0+v)%4294967296))+pw (i+1)*((xs.getD i 0+v)/4294967296)=nv xs+pw i*v:=by
 rw [SC xs i _ h,Fp,Int.mul_comm 4294967296,Int.mul_assoc,Int.add_assoc,←Int.mul_add]
 congr 2
 omega
def put.ok (o n:Nat) (c i:Int) (xs:List Int):Bool:=Nat.beq o 0&&(Nat.beq n xs.length&&(Nat.ble n 4294967299&&(digB xs&&(decide (0≤c)&&(decide (c≤1)&&(decide (0≤i)&&decide (nv xs+pw i.toNat*c<pw n)))))))
def put.lt (o n m:Nat) (c i:Int) (xs:List Int) (ty:TypeId) (nx:Nat):LT:= .got (put.ok o n c i xs) (.exit 0) ⟨gbuild [] 0 63,[(0,.is .u32 (dg n (nv xs+pw i.toNat*c)) ty)],nx⟩
theorem put.go {N:Nat→Prop} (n m:Nat) (ty:TypeId) (nx:Nat) (hn:n≤4294967299) (V:Int) (hV:V<pw n):∀(j k:Nat) (c:Int) (xs:List Int),n≤k+j→xs.length=n→dig xs→0≤c→c≤1→nv xs+pw k*c=V→Lq Tryz.prog N (Ag Tryz.f138 0) (put.st 0 n m c (k:Int) xs ty nx) (.exit 0) ⟨gbuild [] 0 63,[(0,.is .u32 (dg n V) ty)],nx⟩
 | j, k, c,xs,hj,hl,hd,hc,hc1,hv=>by
  by_cases h0:c=0
  ·subst h0
   rw [Int.mul_zero,Int.add_zero] at hv
   have:dg n V=xs:=by rw [←hv,←hl]; exact JM hd
   rw [this]
   exact put.stop1 _ _ _ _ _ _ _ _ rfl
  ·have hlt:k<n:=by
    rcases Nat.lt_or_ge k n with h|h
    ·exact h
    ·exfalso
     have h1:=HK h
     have h2:=Ea hd
     have h3:c=1:=by omega
     rw [h3,Int.mul_one] at hv
     omega
   match j,hj with
   |0,hj=>omega
   | j+1,hj=>
    have e0:0+((k:Int)).toNat*1=k:=by simp
    have e1:IntKind.i64.wrap ((k:Int)+1)=((k+1:Nat):Int):=by rw [w64 (by omega) (by omega)]; omega
    have hX:=Ev hd k
    have c1:(decide (0≤(k:Int))&&decide ((k:Int)<(n:Int)))=true:=dtrue2 (by omega) (by omega)
    have c2:(0+((k:Int)).toNat*1).blt xs.length=true:=by rw [e0]; exact Eu (by omega)
    refine put.step0 _ _ _ _ _ _ _ _ (Fh h0) c1 c2 c1 c2 ?_
    rw [e0,e1,IO hX.1 hX.2 (Int.le_refl 0) (by decide) hc hc1,Int.add_zero,JR (by omega) (by omega),wu32]
    have hcar:=MP xs k c (by omega)
    exact put.go n m ty nx hn V hV j (k+1) _ _ (by omega) (by rw [List.length_set]; exact hl) (Ny hd k (Int.emod_nonneg _ (by decide)) (Int.emod_lt_of_pos _ (by decide))) (by omega) (by omega) (by rw [hcar]; exact hv)
theorem put.lp {N:Nat→Prop} (o n m:Nat) (c i:Int) (xs:List Int) (ty:TypeId) (nx:Nat) {x:X} {S':St} (h:(put.lt o n m c i xs ty nx).at=some (x,S')):Lq Tryz.prog N (Ag Tryz.f138 0) (put.st o n m c i xs ty nx) x S':=by
 obtain ⟨h1,rfl,rfl⟩:=Fk h
 simp only [put.ok,Bool.and_eq_true,Nat.ble_eq,decide_eq_true_eq,Ha] at h1
 obtain ⟨h1,h2,h3,h4,h5,h6,h7,h8⟩:=h1
 obtain rfl:=Nat.eq_of_beq_eq_true h1
 have h2:=Nat.eq_of_beq_eq_true h2
 obtain ⟨k,rfl⟩:=Int.eq_ofNat_of_zero_le h7
 exact put.go n m ty nx h3 _ h8 n k c xs (by omega) h2.symm h4 h5 h6 rfl
def put.t:LSpec:=fun S=>match RX.nth S.tmps 0,RX.nth S.tmps 10,RX.nth S.tmps 11,RX.look S.heap 0 with
 | .slice (some ⟨0,o,none⟩) n m,.int .u32 c,.int .i64 i,some (.is .u32 xs ty)=>bif Nat.beq S.tmps.length 63 then some (put.lt o n m c i xs ty S.nxt) else none
 |_,_,_,_=>none
theorem put.lok {N:Nat→Prop} :LOKn Tryz.prog N (Ag Tryz.f138 0) (put.t):=by
 refine GO fun S lt x S' ht hat=> ?_
 unfold put.t at ht
 split at ht
 ·rename_i o n m c i xs ty h0 h10 h11 g0
  cases hb:Nat.beq S.tmps.length 63 with
  |false=>rw [hb] at ht; cases ht
  | true=>
   rw [hb] at ht
   injection ht with ht
   subst ht
   have hb:=Nat.eq_of_beq_eq_true hb
   exact .enter (fun h=>Gc hb (.cons ⟨h0,bnth h h0⟩ (.cons ⟨h10,bnth h h10⟩ (.cons ⟨h11,bnth h h11⟩ .nil))) (.cons ⟨g0,bname h g0,rfl⟩ .nil)) (put.lp _ _ _ _ _ _ _ _ hat)
 ·cases ht
end Go.Proofs.YtphlckkbihmlnaaGreatDoor.G
end
section
namespace Go.Proofs.YtphlckkbihmlnaaGreatDoor.G
set_option maxRecDepth 100000
open Go Go.Proofs RX
theorem rput.run (o n m:Nat) (xs:List Int) (at_ x y:Int):xfn Tryz.prog ⟨[],[(136,Tryz.f136),(145,Tryz.f145)],[]⟩ [(0,put.t)] 10 Tryz.f138 [.slice (some ⟨0,o,none⟩) n m,.int .i64 at_,.int .u32 x,.int .u32 y] [.is .u32 xs 144]=
 bif decide (0≤at_)&&decide (at_<((n:Nat):Int)) then bif (o+at_.toNat*1).blt xs.length then bif decide (0≤at_)&&decide (at_<((n:Nat):Int)) then bif (o+at_.toNat*1).blt xs.length then bif decide (0≤IntKind.i64.wrap (at_+1))&&decide (IntKind.i64.wrap (at_+1)<((n:Nat):Int)) then bif (o+(IntKind.i64.wrap (at_+1)).toNat*1).blt (xs.set (o+at_.toNat*1) (IntKind.u32.wrap (IntKind.u64.wrap (IntKind.u64.wrap (IntKind.u64.wrap (xs.getD (o+at_.toNat*1) 0)+IntKind.u64.wrap (IntKind.u32.wrap (IntKind.u64.wrap (IntKind.u64.wrap x*IntKind.u64.wrap y))))+IntKind.u64.wrap 0)))).length then bif decide (0≤IntKind.i64.wrap (at_+1))&&decide (IntKind.i64.wrap (at_+1)<((n:Nat):Int)) then bif (o+(IntKind.i64.wrap (at_+1)).toNat*1).blt (xs.set (o+at_.toNat*1) (IntKind.u32.wrap (IntKind.u64.wrap (IntKind.u64.wrap (IntKind.u64.wrap (xs.getD (o+at_.toNat*1) 0)+IntKind.u64.wrap (IntKind.u32.wrap (IntKind.u64.wrap (IntKind.u64.wrap x*IntKind.u64.wrap y))))+IntKind.u64.wrap 0)))).length then bif put.ok o n (IntKind.u32.wrap ((IntKind.u64.wrap (IntKind.u64.wrap (IntKind.u64.wrap ((xs.set (o+at_.toNat*1) (IntKind.u32.wrap (IntKind.u64.wrap (IntKind.u64.wrap (IntKind.u64.wrap (xs.getD (o+at_.toNat*1) 0)+IntKind.u64.wrap (IntKind.u32.wrap (IntKind.u64.wrap (IntKind.u64.wrap x*IntKind.u64.wrap y))))+IntKind.u64.wrap 0)))).getD (o+(IntKind.i64.wrap (at_+1)).toNat*1) 0)+IntKind.u64.wrap (IntKind.u32.wrap ((IntKind.u64.wrap (IntKind.u64.wrap x*IntKind.u64.wrap y)).fdiv (2^min (Int.toNat 32) IntKind.u64.bits))))+IntKind.u64.wrap (IntKind.u32.wrap ((IntKind.u64.wrap (IntKind.u64.wrap (IntKind.u64.wrap (xs.getD (o+at_.toNat*1) 0)+IntKind.u64.wrap (IntKind.u32.wrap (IntKind.u64.wrap (IntKind.u64.wrap x*IntKind.u64.wrap y))))+IntKind.u64.wrap 0)).fdiv (2^min (Int.toNat 32) IntKind.u64.bits))))).fdiv (2^min (Int.toNat 32) IntKind.u64.bits))) (IntKind.i64.wrap (at_+2)) ((xs.set (o+at_.toNat*1) (IntKind.u32.wrap (IntKind.u64.wrap (IntKind.u64.wrap (IntKind.u64.wrap (xs.getD (o+at_.toNat*1) 0)+IntKind.u64.wrap (IntKind.u32.wrap (IntKind.u64.wrap (IntKind.u64.wrap x*IntKind.u64.wrap y))))+IntKind.u64.wrap 0)))).set (o+(IntKind.i64.wrap (at_+1)).toNat*1) (IntKind.u32.wrap (IntKind.u64.wrap (IntKind.u64.wrap (IntKind.u64.wrap ((xs.set (o+at_.toNat*1) (IntKind.u32.wrap (IntKind.u64.wrap (IntKind.u64.wrap (IntKind.u64.wrap (xs.getD (o+at_.toNat*1) 0)+IntKind.u64.wrap (IntKind.u32.wrap (IntKind.u64.wrap (IntKind.u64.wrap x*IntKind.u64.wrap y))))+IntKind.u64.wrap 0)))).getD (o+(IntKind.i64.wrap (at_+1)).toNat*1) 0)+IntKind.u64.wrap (IntKind.u32.wrap ((IntKind.u64.wrap (IntKind.u64.wrap x*IntKind.u64.wrap y)).fdiv (2^min (Int.toNat 32) IntKind.u64.bits))))+IntKind.u64.wrap (IntKind.u32.wrap ((IntKind.u64.wrap (IntKind.u64.wrap (IntKind.u64.wrap (xs.getD (o+at_.toNat*1) 0)+IntKind.u64.wrap (IntKind.u32.wrap (IntKind.u64.wrap (IntKind.u64.wrap x*IntKind.u64.wrap y))))+IntKind.u64.wrap 0)).fdiv (2^min (Int.toNat 32) IntKind.u64.bits))))))) then some ((Value.tuple ⟨[]⟩,[Blk.is IntKind.u32 (dg n (nv ((xs.set (o+at_.toNat*1) (IntKind.u32.wrap (IntKind.u64.wrap (IntKind.u64.wrap (IntKind.u64.wrap (xs.getD (o+at_.toNat*1) 0)+IntKind.u64.wrap (IntKind.u32.wrap (IntKind.u64.wrap (IntKind.u64.wrap x*IntKind.u64.wrap y))))+IntKind.u64.wrap 0)))).set (o+(IntKind.i64.wrap (at_+1)).toNat*1) (IntKind.u32.wrap (IntKind.u64.wrap (IntKind.u64.wrap (IntKind.u64.wrap ((xs.set (o+at_.toNat*1) (IntKind.u32.wrap (IntKind.u64.wrap (IntKind.u64.wrap (IntKind.u64.wrap (xs.getD (o+at_.toNat*1) 0)+IntKind.u64.wrap (IntKind.u32.wrap (IntKind.u64.wrap (IntKind.u64.wrap x*IntKind.u64.wrap y))))+IntKind.u64.wrap 0)))).getD (o+(IntKind.i64.wrap (at_+1)).toNat*1) 0)+IntKind.u64.wrap (IntKind.u32.wrap ((IntKind.u64.wrap (IntKind.u64.wrap x*IntKind.u64.wrap y)).fdiv (2^min (Int.toNat 32) IntKind.u64.bits))))+IntKind.u64.wrap (IntKind.u32.wrap ((IntKind.u64.wrap (IntKind.u64.wrap (IntKind.u64.wrap (xs.getD (o+at_.toNat*1) 0)+IntKind.u64.wrap (IntKind.u32.wrap (IntKind.u64.wrap (IntKind.u64.wrap x*IntKind.u64.wrap y))))+IntKind.u64.wrap 0)).fdiv (2^min (Int.toNat 32) IntKind.u64.bits)))))))+pw (IntKind.i64.wrap (at_+2)).toNat*IntKind.u32.wrap ((IntKind.u64.wrap (IntKind.u64.wrap (IntKind.u64.wrap ((xs.set (o+at_.toNat*1) (IntKind.u32.wrap (IntKind.u64.wrap (IntKind.u64.wrap (IntKind.u64.wrap (xs.getD (o+at_.toNat*1) 0)+IntKind.u64.wrap (IntKind.u32.wrap (IntKind.u64.wrap (IntKind.u64.wrap x*IntKind.u64.wrap y))))+IntKind.u64.wrap 0)))).getD (o+(IntKind.i64.wrap (at_+1)).toNat*1) 0)+IntKind.u64.wrap (IntKind.u32.wrap ((IntKind.u64.wrap (IntKind.u64.wrap x*IntKind.u64.wrap y)).fdiv (2^min (Int.toNat 32) IntKind.u64.bits))))+IntKind.u64.wrap (IntKind.u32.wrap ((IntKind.u64.wrap (IntKind.u64.wrap (IntKind.u64.wrap (xs.getD (o+at_.toNat*1) 0)+IntKind.u64.wrap (IntKind.u32.wrap (IntKind.u64.wrap (IntKind.u64.wrap x*IntKind.u64.wrap y))))+IntKind.u64.wrap 0)).fdiv (2^min (Int.toNat 32) IntKind.u64.bits))))).fdiv (2^min (Int.toNat 32) IntKind.u64.bits)))) 144]))
 else none else none else none else none else none else none else none else none else none:=by kernel_rfl
def rput.run0:=fun o n m xs at_ x y h0 h1 h2 h3 h4 h5 h6 h7 h8=>((((((((((rput.run o n m xs at_ x y).ct h0).ct h1).ct h2).ct h3).ct h4).ct h5).ct h6).ct h7).ct h8)
def QL (o n:Nat) (xs:List Int) (at_ x y:Int):Bool:=Nat.beq o 0&&(Nat.beq n xs.length&&(Nat.ble n 4294967299&&(digB xs&&(decide (0≤at_)&&(decide (at_+1<(n:Int))&&(decide (0≤x)&&(decide (x<4294967296)&&(decide (0≤y)&&(decide (y<4294967296)&&decide (nv xs+pw at_.toNat*(x*y)<pw n))))))))))
def put.sp:HSpec
 |[.slice (some ⟨0,o,none⟩) n m,.int .i64 at_,.int .u32 x,.int .u32 y],[.is .u32 xs 144]=>some (QL o n xs at_ x y,.tuple ⟨[]⟩,[.is .u32 (dg n (nv xs+pw at_.toNat*(x*y))) 144])
 |_,_=>none
theorem II.ok:SOK Tryz.prog 138 put.sp:=by
 refine Cq (E:=⟨[],[(136,Tryz.f136),(145,Tryz.f145)],[]⟩) (L:=[(0,put.t)]) ⟨Ac,Ex ⟨Tryz.func136,by decide,rfl⟩ (Ex ⟨Tryz.func145,by decide,rfl⟩ Ai),Ad,Ah⟩ 10 Tryz.func138 (by decide) rfl (Fy rfl rfl put.lok) fun vs bl v bl' h=> ?_
 unfold put.sp at h
 split at h
 ·rename_i o n m at_ x y xs
  simp only [Option.some.injEq,Prod.mk.injEq] at h
  obtain ⟨h1,rfl,rfl⟩:=h
  simp only [QL,Bool.and_eq_true,Nat.ble_eq,decide_eq_true_eq,Ha] at h1
  obtain ⟨h1,h2,h3,hd,h5,h6,x0,x1,y0,y1,hV⟩:=h1
  obtain rfl:=Nat.eq_of_beq_eq_true h1
  have hl:=(Nat.eq_of_beq_eq_true h2).symm
  obtain ⟨k,rfl⟩:=Int.eq_ofNat_of_zero_le h5
  refine ⟨?_,by simp [okV,Nat.blt],clo_spec 8 _ rfl,As rfl⟩
  have p0:0≤x*y:=Int.mul_nonneg x0 y0
  have p1:x*y≤4294967295*4294967295:=Int.mul_le_mul (by omega) (by omega) (by omega) (by omega)
  have eP:IntKind.u64.wrap (IntKind.u64.wrap x*IntKind.u64.wrap y)=x*y:=by rw [u64of (n:=x) (by omega) (by omega),u64of (n:=y) (by omega) (by omega),u64of (by omega) (by omega)]
  have eHi:IntKind.u32.wrap ((x*y).fdiv (2^min (Int.toNat 32) IntKind.u64.bits))=x*y/4294967296:=by
   rw [Int.fdiv_eq_ediv_of_nonneg _ (by decide),show ((2:Int)^min (Int.toNat 32) IntKind.u64.bits)=4294967296 from rfl,u32of (by omega) (by omega)]
  have e0:0+((k:Int)).toNat*1=k:=by simp
  have e1:IntKind.i64.wrap ((k:Int)+1)=((k+1:Nat):Int):=by rw [w64 (by omega) (by omega)]; omega
  have e2:IntKind.i64.wrap ((k:Int)+2)=((k+2:Nat):Int):=by rw [w64 (by omega) (by omega)]; omega
  have e3:0+(((k+1:Nat):Int)).toNat*1=k+1:=by simp
  have hr:=rput.run0 0 n m xs (k:Int) x y
  simp only [eP,eHi,e0,e1,e2,e3] at hr
  rw [wu32 (x*y)] at hr
  have l0:=Int.emod_nonneg (x*y) (show (4294967296:Int)≠0 by decide)
  have l1:=Int.emod_lt_of_pos (x*y) (show (0:Int)<4294967296 by decide)
  have hsplit:x*y=x*y%4294967296+4294967296*(x*y/4294967296):=(Int.emod_add_mul_ediv _ _).symm
  have u0:0≤x*y/4294967296:=by omega
  have u1:x*y/4294967296<4294967295:=by omega
  generalize x*y%4294967296=lo at*
  generalize x*y/4294967296=hi at*
  have hX:=Ev hd k
  rw [IO hX.1 hX.2 l0 l1 (Int.le_refl 0) (by decide),Int.add_zero,JR (v:=xs.getD k 0+lo) (by omega) (by omega),wu32 (xs.getD k 0+lo)] at hr
  have hd1:dig (xs.set k ((xs.getD k 0+lo)%4294967296)):=Ny hd k (Int.emod_nonneg _ (by decide)) (Int.emod_lt_of_pos _ (by decide))
  have hc1:=MP xs k lo (by omega)
  have hcb0:0≤(xs.getD k 0+lo)/4294967296:=by omega
  have hcb1:(xs.getD k 0+lo)/4294967296≤1:=by omega
  have hl1:(xs.set k ((xs.getD k 0+lo)%4294967296)).length=n:=by rw [List.length_set]; exact hl
  generalize (xs.getD k 0+lo)/4294967296=c1 at*
  generalize xs.set k ((xs.getD k 0+lo)%4294967296)=zs at*
  have hZ:=Ev hd1 (k+1)
  rw [IO hZ.1 hZ.2 u0 (by omega) hcb0 hcb1,JR (v:=zs.getD (k+1) 0+hi+c1) (by omega) (by omega),wu32 (zs.getD (k+1) 0+hi+c1),Int.add_assoc] at hr
  have hc2:=MP zs (k+1) (hi+c1) (by omega)
  have hd2:dig (zs.set (k+1) ((zs.getD (k+1) 0+(hi+c1))%4294967296)):=Ny hd1 (k+1) (Int.emod_nonneg _ (by decide)) (Int.emod_lt_of_pos _ (by decide))
  have hl2:(zs.set (k+1) ((zs.getD (k+1) 0+(hi+c1))%4294967296)).length=n:=by rw [List.length_set]; exact hl1
  have hfin:nv (zs.set (k+1) ((zs.getD (k+1) 0+(hi+c1))%4294967296))+pw (k+2)*((zs.getD (k+1) 0+(hi+c1))/4294967296)=nv xs+pw k*(x*y):=by
   rw [hc2,Int.mul_add,hsplit,Int.mul_add,←Int.mul_assoc,Int.mul_comm (pw k) 4294967296,←Fp]
   omega
  have hcc0:0≤(zs.getD (k+1) 0+(hi+c1))/4294967296:=by omega
  have hcc1:(zs.getD (k+1) 0+(hi+c1))/4294967296≤1:=by omega
  have k1:(decide (0≤(k:Int))&&decide ((k:Int)<(n:Int)))=true:=dtrue2 (by omega) (by omega)
  have k2:k.blt xs.length=true:=Eu (by omega)
  have k3:(decide (0≤((k+1:Nat):Int))&&decide (((k+1:Nat):Int)<(n:Int)))=true:=dtrue2 (by omega) (by omega)
  have k4:(k+1).blt zs.length=true:=Eu (by omega)
  have ht2:(((k+2:Nat):Int)).toNat=k+2:=by omega
  rw [ht2,hfin] at hr
  rw [Int.toNat_natCast]
  refine hr k1 k2 k1 k2 k3 k4 k3 k4 ?_
  simp only [put.ok,Bool.and_eq_true,Nat.ble_eq,decide_eq_true_eq,Ha,Nat.beq_eq]
  exact ⟨trivial,hl2.symm,h3,hd2,hcc0,hcc1,by omega,by rw [ht2,hfin]; rw [Int.toNat_natCast] at hV; exact hV⟩
 ·cases h
end Go.Proofs.YtphlckkbihmlnaaGreatDoor.G
end
section
namespace Go.Proofs.YtphlckkbihmlnaaGreatDoor.G
set_option maxRecDepth 100000
open Go Go.Proofs RX
section
variable {N:Nat→Prop} {xe:X} {Se:St} (n2 m2 n m:Nat) (i xx:Int) (op lp cp oa la ca:Nat) (z i0:Int) (ob lb cb:Nat) (y k:Int) (xs:List Int) (ta:TypeId) (ys:List Int) (tb:TypeId) (out:List Int) (nx:Nat)
abbrev muli.st:St:=⟨gbuild [(1,.slice (some ⟨1,op,none⟩) lp cp),(5,.slice (some ⟨114,0,none⟩) n m),(6,.func (.func 138) ⟨[.slice (some ⟨114,0,none⟩) n2 m2]⟩ ⟨[]⟩),(7,.int .i64 i),(8,.int .u32 xx),(20,.slice (some ⟨0,oa,none⟩) la ca),(21,.int .i64 z),(22,.int .i64 i0),(27,.slice (some ⟨1,ob,none⟩) lb cb),(28,.int .i64 y),(29,.int .i64 k)] 0 45,[(0,.is .u32 xs ta),(1,.is .u32 ys tb),(114,.is .u32 out 144)],nx⟩
abbrev muli.lk:=RX.lk [1,5,6,7,8,20,21,22,27,28,29] [0,1,114]
theorem muli.rnd:rd Tryz.prog ⟨[(138,put.sp)],[],[]⟩ [] 5 (JJ (Ag Tryz.f125 0) 2) (muli.st n2 m2 n m i xx op lp cp oa la ca z i0 ob lb cb y k xs ta ys tb out nx) 45 [1,5,6,7,8,20,21,22,27,28,29] [0,1,114]=
 bif decide (k<y) then bif decide (0≤k)&&decide (k<((lb:Nat):Int)) then bif (ob+k.toNat*1).blt ys.length then bif QL 0 n2 out (IntKind.i64.wrap (i+k)) xx (ys.getD (ob+k.toNat*1) 0) then muli.lk .normal (muli.st n2 m2 n m i xx op lp cp oa la ca z i0 ob lb cb y (IntKind.i64.wrap (k+1)) xs ta ys tb (dg n2 (nv out+pw (IntKind.i64.wrap (i+k)).toNat*(xx*ys.getD (ob+k.toNat*1) 0))) nx) else none else none else none else muli.lk (.exit 2) (muli.st n2 m2 n m i xx op lp cp oa la ca z i0 ob lb cb y k xs ta ys tb out nx):=by kernel_rfl
def muli.step0:=fun h0 h1 h2 h3 (ih:Lq Tryz.prog N (JJ (Ag Tryz.f125 0) 2) _ xe Se)=>Lq.toK (f:=5) ⟨Aa II.ok Ac,Ai,Ad,Ah⟩ Ba (((((muli.rnd n2 m2 n m i xx op lp cp oa la ca z i0 ob lb cb y k xs ta ys tb out nx).ct h0).ct h1).ct h2).ct h3) rfl rfl ih
def muli.stop1:=fun h0=>Lq.endK (N:=N) (f:=5) ⟨Aa II.ok Ac,Ai,Ad,Ah⟩ Ba ((muli.rnd n2 m2 n m i xx op lp cp oa la ca z i0 ob lb cb y k xs ta ys tb out nx).cf h0) (fun q=>by cases q) rfl rfl
end
theorem Ng (a b:Nat):pw (a+b)=pw a*pw b:=by simp only [pw,Nat.pow_add,Int.natCast_mul]
theorem NF {ys:List Int} (hy:dig ys) {ob:Nat} :∀(d k:Nat),ob+(k+d)≤ys.length→nv (seg ys ob k)≤nv (seg ys ob (k+d))
 |0,k,_=>Int.le_refl _
 | d+1,k,h=>by
  have ih:=NF hy (ob:=ob) d k (by omega)
  rw [←Nat.add_assoc,Fi (o:=ob) (l:=k+d) (by omega)]
  have h1:=(Ev hy (ob+(k+d))).1
  have h2:=Int.mul_nonneg (Int.le_of_lt (GN (k+d))) h1
  omega
def muli.ok (n2 n:Nat) (i xx:Int) (ob lb:Nat) (y k:Int) (ys out:List Int):Bool:=
 Nat.beq n2 n&&(Nat.beq n out.length&&(Nat.ble n 4294967299&&(digB out&&(decide (0≤i)&&(decide (i+(lb:Int)<(n:Int))&&(decide (0≤xx)&&(decide (xx<4294967296)&&(decide (k=0)&&(decide (y=(lb:Int))&&(Dl ob lb ys&&decide (nv out+pw i.toNat*(xx*nv (seg ys ob lb))<pw n)))))))))))
def muli.lt (n2 m2 n m:Nat) (i xx:Int) (op lp cp oa la ca:Nat) (z i0:Int) (ob lb cb:Nat) (y k:Int) (xs:List Int) (ta:TypeId) (ys:List Int) (tb:TypeId) (out:List Int) (nx:Nat):LT:= .got (muli.ok n2 n i xx ob lb y k ys out) (.exit 2) (muli.st n2 m2 n m i xx op lp cp oa la ca z i0 ob lb cb y y xs ta ys tb (dg n (nv out+pw i.toNat*(xx*nv (seg ys ob lb)))) nx)
theorem muli.go {N:Nat→Prop} (m2 n m:Nat) (i:Nat) (xx:Int) (op lp cp oa la ca:Nat) (z i0:Int) (ob lb cb:Nat) (xs:List Int) (ta:TypeId) (ys:List Int) (tb:TypeId) (nx:Nat) (Q:Int) (hn:n≤4294967299) (hQ:0≤Q) (hi:i+lb<n) (x0:0≤xx) (x1:xx<4294967296) (h4:ob+lb≤ys.length) (hy:dig ys) (hV:Q+pw i*(xx*nv (seg ys ob lb))<pw n):∀(j k:Nat),k+j=lb→Lq Tryz.prog N (JJ (Ag Tryz.f125 0) 2) (muli.st n m2 n m (i:Int) xx op lp cp oa la ca z i0 ob lb cb (lb:Int) (k:Int) xs ta ys tb (dg n (Q+pw i*(xx*nv (seg ys ob k)))) nx) (.exit 2) (muli.st n m2 n m (i:Int) xx op lp cp oa la ca z i0 ob lb cb (lb:Int) (lb:Int) xs ta ys tb (dg n (Q+pw i*(xx*nv (seg ys ob lb)))) nx)
 | 0,k,h=>by
  obtain rfl:k=lb:=by omega
  exact muli.stop1 _ _ _ _ _ _ _ _ _ _ _ _ _ _ _ _ _ _ _ _ _ _ _ _ _ (dfalse (by omega))
 | j +1,k,h=>by
  have e1:IntKind.i64.wrap ((k:Int)+1)=((k+1:Nat):Int):=by rw [w64 (by omega) (by omega)]; omega
  have e2:IntKind.i64.wrap ((i:Int)+(k:Int))=((i+k:Nat):Int):=by rw [w64 (by omega) (by omega)]; omega
  have eb:ob+((k:Int)).toNat*1=ob+k:=by simp
  have hY:=Ev hy (ob+k)
  have hp:=GN i
  have mono:∀q,q≤lb→0≤Q+pw i*(xx*nv (seg ys ob q))∧Q+pw i*(xx*nv (seg ys ob q))<pw n:=fun q hq=>by
   have hle:=NF hy (ob:=ob) (lb-q) q (by omega)
   rw [show q+(lb-q)=lb by omega] at hle
   have h1:xx*nv (seg ys ob q)≤xx*nv (seg ys ob lb):=Int.mul_le_mul_of_nonneg_left hle x0
   have h2:pw i*(xx*nv (seg ys ob q))≤pw i*(xx*nv (seg ys ob lb)):=Int.mul_le_mul_of_nonneg_left h1 (by omega)
   have h3:0≤pw i*(xx*nv (seg ys ob q)):=Int.mul_nonneg (by omega) (Int.mul_nonneg x0 (Ea (Es hy ob q)))
   omega
  have hk:=mono k (by omega)
  have hk1:=mono (k+1) (by omega)
  have hst:Q+pw i*(xx*nv (seg ys ob k))+pw (i+k)*(xx*ys.getD (ob+k) 0)=Q+pw i*(xx*nv (seg ys ob (k+1))):=by
   rw [Fi (o:=ob) (l:=k) (by omega),Ng,Int.mul_add xx,Int.mul_add (pw i),Int.mul_assoc (pw i),Int.mul_left_comm (pw k) xx,Int.add_assoc]
  have hnv:=Hd n (Q+pw i*(xx*nv (seg ys ob k))) hk.1 hk.2
  refine muli.step0 _ _ _ _ _ _ _ _ _ _ _ _ _ _ _ _ _ _ _ _ _ _ _ _ _ (dtrue (by omega)) (dtrue2 (by omega) (by omega)) (by rw [eb]; exact Eu (by omega)) ?_ ?_
  ·rw [eb,e2]
   simp only [QL,Bool.and_eq_true,Nat.ble_eq,decide_eq_true_eq,Ha,Nat.beq_eq,Cx,Int.toNat_natCast]
   rw [hnv,hst]
   exact ⟨trivial,trivial,hn,GZ _ _,by omega,by omega,x0,x1,hY.1,hY.2,hk1.2⟩
  ·rw [eb,e1,e2,Int.toNat_natCast,hnv,hst]
   exact muli.go m2 n m i xx op lp cp oa la ca z i0 ob lb cb xs ta ys tb nx Q hn hQ hi x0 x1 h4 hy hV j (k+1) (by omega)
theorem muli.lp {N:Nat→Prop} (n2 m2 n m:Nat) (i xx:Int) (op lp cp oa la ca:Nat) (z i0:Int) (ob lb cb:Nat) (y k:Int) (xs:List Int) (ta:TypeId) (ys:List Int) (tb:TypeId) (out:List Int) (nx:Nat) {x:X} {S':St} (h:(muli.lt n2 m2 n m i xx op lp cp oa la ca z i0 ob lb cb y k xs ta ys tb out nx).at=some (x,S')):Lq Tryz.prog N (JJ (Ag Tryz.f125 0) 2) (muli.st n2 m2 n m i xx op lp cp oa la ca z i0 ob lb cb y k xs ta ys tb out nx) x S':=by
 obtain ⟨h1,rfl,rfl⟩:=Fk h
 simp only [muli.ok,Bool.and_eq_true,Nat.ble_eq,decide_eq_true_eq,Ha,Eb] at h1
 obtain ⟨h1,h2,h3,h4,h5,h6,h7,h8,rfl,rfl,⟨h9,h10,h11⟩,h12⟩:=h1
 obtain rfl:=Nat.eq_of_beq_eq_true h1
 have h2:=Nat.eq_of_beq_eq_true h2
 obtain ⟨i,rfl⟩:=Int.eq_ofNat_of_zero_le h5
 rw [Int.toNat_natCast] at h12 ⊢
 have:=muli.go (N:=N) m2 n2 m i xx op lp cp oa la ca z i0 ob lb cb xs ta ys tb nx (nv out) h3 (Ea h4) (by omega) h7 h8 h9 h11 h12 lb 0 (by omega)
 rw [Gh,show nv ([]:List Int)=0 from rfl,Int.mul_zero,Int.mul_zero,Int.add_zero] at this
 have he:dg n2 (nv out)=out:=by rw [h2]; exact JM h4
 rw [he] at this
 exact this
def muli.t:LSpec:=fun S=>match RX.nth S.tmps 1,RX.nth S.tmps 5,RX.nth S.tmps 6,RX.nth S.tmps 7,RX.nth S.tmps 8,RX.nth S.tmps 20,RX.nth S.tmps 21,RX.nth S.tmps 22,RX.nth S.tmps 27,RX.nth S.tmps 28,RX.nth S.tmps 29,RX.look S.heap 0,RX.look S.heap 1,RX.look S.heap 114 with
 | .slice (some ⟨1,op,none⟩) lp cp,.slice (some ⟨114,0,none⟩) n m,.func (.func 138) ⟨[.slice (some ⟨114,0,none⟩) n2 m2]⟩ ⟨[]⟩,.int .i64 i,.int .u32 xx,.slice (some ⟨0,oa,none⟩) la ca,.int .i64 z,.int .i64 i0,.slice (some ⟨1,ob,none⟩) lb cb,.int .i64 y,.int .i64 k,some (.is .u32 xs ta),some (.is .u32 ys tb),some (.is .u32 out 144)=>bif Nat.beq S.tmps.length 45 then some (muli.lt n2 m2 n m i xx op lp cp oa la ca z i0 ob lb cb y k xs ta ys tb out S.nxt) else none
 |_,_,_,_,_,_,_,_,_,_,_,_,_,_=>none
theorem muli.lok {N:Nat→Prop} :LOKn Tryz.prog N (JJ (Ag Tryz.f125 0) 2) (muli.t):=by
 refine GO fun S lt x S' ht hat=> ?_
 unfold muli.t at ht
 split at ht
 ·rename_i op lp cp n m n2 m2 i xx oa la ca z i0 ob lb cb y k xs ta ys tb out h1 h5 h6 h7 h8 h20 h21 h22 h27 h28 h29 g0 g1 g114
  cases hb:Nat.beq S.tmps.length 45 with
  |false=>rw [hb] at ht; cases ht
  | true=>
   rw [hb] at ht
   injection ht with ht
   subst ht
   have hb:=Nat.eq_of_beq_eq_true hb
   exact .enter (fun h=>Gc hb (.cons ⟨h1,bnth h h1⟩ (.cons ⟨h5,bnth h h5⟩ (.cons ⟨h6,bnth h h6⟩ (.cons ⟨h7,bnth h h7⟩ (.cons ⟨h8,bnth h h8⟩ (.cons ⟨h20,bnth h h20⟩ (.cons ⟨h21,bnth h h21⟩ (.cons ⟨h22,bnth h h22⟩ (.cons ⟨h27,bnth h h27⟩ (.cons ⟨h28,bnth h h28⟩ (.cons ⟨h29,bnth h h29⟩ .nil))))))))))) (.cons ⟨g0,bname h g0,rfl⟩ (.cons ⟨g1,bname h g1,rfl⟩ (.cons ⟨g114,bname h g114,rfl⟩ .nil)))) (muli.lp _ _ _ _ _ _ _ _ _ _ _ _ _ _ _ _ _ _ _ _ _ _ _ _ _ hat)
 ·cases ht
end Go.Proofs.YtphlckkbihmlnaaGreatDoor.G
end
section
namespace Go.Proofs.YtphlckkbihmlnaaGreatDoor.G
set_option maxRecDepth 100000
open Go Go.Proofs RX
section
variable {N:Nat→Prop} {xe:X} {Se:St} (n2 m2 n m ob lb cb oa la ca:Nat) (z i:Int) (xs:List Int) (ta:TypeId) (ys:List Int) (tb:TypeId) (out:List Int) (nx:Nat)
abbrev mulo.st:St:=⟨gbuild [(1,.slice (some ⟨1,ob,none⟩) lb cb),(5,.slice (some ⟨114,0,none⟩) n m),(6,.func (.func 138) ⟨[.slice (some ⟨114,0,none⟩) n2 m2]⟩ ⟨[]⟩),(20,.slice (some ⟨0,oa,none⟩) la ca),(21,.int .i64 z),(22,.int .i64 i)] 0 45,[(0,.is .u32 xs ta),(1,.is .u32 ys tb),(114,.is .u32 out 144)],nx⟩
abbrev mulo.lk:=RX.lk [1,5,6,20,21,22] [0,1,114]
theorem mulo.rnd:rd Tryz.prog ⟨[(138,put.sp)],[],[]⟩ [(2,muli.t)] 5 (Ag Tryz.f125 0) (mulo.st n2 m2 n m ob lb cb oa la ca z i xs ta ys tb out nx) 45 [1,5,6,20,21,22] [0,1,114]=
 bif decide (i<z) then bif decide (0≤i)&&decide (i<((la:Nat):Int)) then bif (oa+i.toNat*1).blt xs.length then bif muli.ok n2 n i (xs.getD (oa+i.toNat*1) 0) ob lb (((lb:Nat):Int)) 0 ys out then mulo.lk .normal (mulo.st n2 m2 n m ob lb cb oa la ca z (IntKind.i64.wrap (i+1)) xs ta ys tb (dg n (nv out+pw i.toNat*(xs.getD (oa+i.toNat*1) 0*nv (seg ys ob lb)))) nx) else none else none else none else mulo.lk (.exit 0) (mulo.st n2 m2 n m ob lb cb oa la ca z i xs ta ys tb out nx):=by kernel_rfl
def mulo.step0:=fun h0 h1 h2 h3 (ih:Lq Tryz.prog N (Ag Tryz.f125 0) _ xe Se)=>Lq.toK (f:=5) ⟨Aa II.ok Ac,Ai,Ad,Ah⟩ (Fj rfl muli.lok Ba) (((((mulo.rnd n2 m2 n m ob lb cb oa la ca z i xs ta ys tb out nx).ct h0).ct h1).ct h2).ct h3) rfl rfl ih
def mulo.stop1:=fun h0=>Lq.endK (N:=N) (f:=5) ⟨Aa II.ok Ac,Ai,Ad,Ah⟩ (Fj rfl muli.lok Ba) ((mulo.rnd n2 m2 n m ob lb cb oa la ca z i xs ta ys tb out nx).cf h0) (fun q=>by cases q) rfl rfl
end
def mulo.ok (n2 n ob lb oa la:Nat) (z i:Int) (xs ys out:List Int):Bool:=
 Nat.beq n2 n&&(Nat.beq n (la+lb+1)&&(decide (out=List.replicate n 0)&&(decide (i=0)&&(decide (z=(la:Int))&&(Dl oa la xs&&(Dl ob lb ys&&Nat.ble n 4294967299))))))
def mulo.lt (n2 m2 n m ob lb cb oa la ca:Nat) (z i:Int) (xs:List Int) (ta:TypeId) (ys:List Int) (tb:TypeId) (out:List Int) (nx:Nat):LT:= .got (mulo.ok n2 n ob lb oa la z i xs ys out) (.exit 0) (mulo.st n2 m2 n m ob lb cb oa la ca z z xs ta ys tb (dg n (nv (seg xs oa la)*nv (seg ys ob lb))) nx)
theorem SE {a b:Int} {j k:Nat} (a0:0≤a) (a1:a<pw j) (b0:0≤b) (b1:b<pw k):a*b<pw (j+k):=by
 rw [Ng]
 have hj:=GN j
 have h1:a*b≤(pw j-1)*b:=Int.mul_le_mul_of_nonneg_right (by omega) b0
 have h2:(pw j-1)*b≤(pw j-1)*(pw k-1):=Int.mul_le_mul_of_nonneg_left (by omega) (by omega)
 have h3:(pw j-1)*(pw k-1)=pw j*pw k-pw j-pw k+1:=by rw [Int.sub_mul,Int.mul_sub]; omega
 have hk:=GN k
 omega
theorem mulo.go {N:Nat→Prop} (m2 n m ob lb cb oa la ca:Nat) (xs:List Int) (ta:TypeId) (ys:List Int) (tb:TypeId) (nx:Nat) (hn:n=la+lb+1) (hn2:n≤4294967299) (hA:Dl oa la xs=true) (hB:Dl ob lb ys=true):∀(j i:Nat),i+j=la→Lq Tryz.prog N (Ag Tryz.f125 0) (mulo.st n m2 n m ob lb cb oa la ca (la:Int) (i:Int) xs ta ys tb (dg n (nv (seg xs oa i)*nv (seg ys ob lb))) nx) (.exit 0) (mulo.st n m2 n m ob lb cb oa la ca (la:Int) (la:Int) xs ta ys tb (dg n (nv (seg xs oa la)*nv (seg ys ob lb))) nx)
 | 0,i,h=>by
  obtain rfl:i=la:=by omega
  exact mulo.stop1 _ _ _ _ _ _ _ _ _ _ _ _ _ _ _ _ _ _ (dfalse (by omega))
 | j +1,i,h=>by
  obtain ⟨h1,h2,h3⟩:=Eb.1 hA
  obtain ⟨h4,h5,h6⟩:=Eb.1 hB
  have e1:IntKind.i64.wrap ((i:Int)+1)=((i+1:Nat):Int):=by rw [w64 (by omega) (by omega)]; omega
  have ea:oa+((i:Int)).toNat*1=oa+i:=by simp
  have hX:=Ev h3 (oa+i)
  have bB:=Gk (Es h6 ob lb)
  have bB0:=Ea (Es h6 ob lb)
  rw [Et h4] at bB
  have bnd:∀q,q≤la→0≤nv (seg xs oa q)*nv (seg ys ob lb)∧nv (seg xs oa q)*nv (seg ys ob lb)<pw n:=fun q hq=>by
   have a1:=Gk (Es h3 oa q)
   have a0:=Ea (Es h3 oa q)
   rw [Et (by omega)] at a1
   exact ⟨Int.mul_nonneg a0 bB0,Int.lt_of_lt_of_le (SE a0 a1 bB0 bB) (HK (by omega))⟩
  have hk:=bnd i (by omega)
  have hk1:=bnd (i+1) (by omega)
  have hst:nv (seg xs oa i)*nv (seg ys ob lb)+pw i*(xs.getD (oa+i) 0*nv (seg ys ob lb))=nv (seg xs oa (i+1))*nv (seg ys ob lb):=by
   rw [Fi (o:=oa) (l:=i) (by omega),Int.add_mul,Int.mul_assoc]
  have hnv:=Hd n _ hk.1 hk.2
  refine mulo.step0 _ _ _ _ _ _ _ _ _ _ _ _ _ _ _ _ _ _ (dtrue (by omega)) (dtrue2 (by omega) (by omega)) (by rw [ea]; exact Eu (by omega)) ?_ ?_
  ·rw [ea]
   simp only [muli.ok,Bool.and_eq_true,Nat.ble_eq,decide_eq_true_eq,Ha,Nat.beq_eq,Cx,Int.toNat_natCast]
   rw [hnv,hst]
   exact ⟨trivial,trivial,hn2,GZ _ _,by omega,by omega,hX.1,hX.2,trivial,trivial,hB,hk1.2⟩
  ·rw [ea,e1,Int.toNat_natCast,hnv,hst]
   exact mulo.go m2 n m ob lb cb oa la ca xs ta ys tb nx hn hn2 hA hB j (i+1) (by omega)
theorem mulo.lp {N:Nat→Prop} (n2 m2 n m ob lb cb oa la ca:Nat) (z i:Int) (xs:List Int) (ta:TypeId) (ys:List Int) (tb:TypeId) (out:List Int) (nx:Nat) {x:X} {S':St} (h:(mulo.lt n2 m2 n m ob lb cb oa la ca z i xs ta ys tb out nx).at=some (x,S')):Lq Tryz.prog N (Ag Tryz.f125 0) (mulo.st n2 m2 n m ob lb cb oa la ca z i xs ta ys tb out nx) x S':=by
 obtain ⟨h1,rfl,rfl⟩:=Fk h
 simp only [mulo.ok,Bool.and_eq_true,Nat.ble_eq,decide_eq_true_eq] at h1
 obtain ⟨h1,h2,rfl,rfl,rfl,h6,h7,h8⟩:=h1
 obtain rfl:=Nat.eq_of_beq_eq_true h1
 have h2:=Nat.eq_of_beq_eq_true h2
 have:=mulo.go (N:=N) m2 n2 m ob lb cb oa la ca xs ta ys tb nx h2 h8 h6 h7 la 0 (by omega)
 rw [Gh,show nv ([]:List Int)=0 from rfl,Int.zero_mul,Kn] at this
 exact this
def mulo.t:LSpec:=fun S=>match RX.nth S.tmps 1,RX.nth S.tmps 5,RX.nth S.tmps 6,RX.nth S.tmps 20,RX.nth S.tmps 21,RX.nth S.tmps 22,RX.look S.heap 0,RX.look S.heap 1,RX.look S.heap 114 with
 | .slice (some ⟨1,ob,none⟩) lb cb,.slice (some ⟨114,0,none⟩) n m,.func (.func 138) ⟨[.slice (some ⟨114,0,none⟩) n2 m2]⟩ ⟨[]⟩,.slice (some ⟨0,oa,none⟩) la ca,.int .i64 z,.int .i64 i,some (.is .u32 xs ta),some (.is .u32 ys tb),some (.is .u32 out 144)=>bif Nat.beq S.tmps.length 45 then some (mulo.lt n2 m2 n m ob lb cb oa la ca z i xs ta ys tb out S.nxt) else none
 |_,_,_,_,_,_,_,_,_=>none
theorem mulo.lok {N:Nat→Prop} :LOKn Tryz.prog N (Ag Tryz.f125 0) (mulo.t):=by
 refine GO fun S lt x S' ht hat=> ?_
 unfold mulo.t at ht
 split at ht
 ·rename_i ob lb cb n m n2 m2 oa la ca z i xs ta ys tb out h1 h5 h6 h20 h21 h22 g0 g1 g114
  cases hb:Nat.beq S.tmps.length 45 with
  |false=>rw [hb] at ht; cases ht
  | true=>
   rw [hb] at ht
   injection ht with ht
   subst ht
   have hb:=Nat.eq_of_beq_eq_true hb
   exact .enter (fun h=>Gc hb (.cons ⟨h1,bnth h h1⟩ (.cons ⟨h5,bnth h h5⟩ (.cons ⟨h6,bnth h h6⟩ (.cons ⟨h20,bnth h h20⟩ (.cons ⟨h21,bnth h h21⟩ (.cons ⟨h22,bnth h h22⟩ .nil)))))) (.cons ⟨g0,bname h g0,rfl⟩ (.cons ⟨g1,bname h g1,rfl⟩ (.cons ⟨g114,bname h g114,rfl⟩ .nil)))) (mulo.lp _ _ _ _ _ _ _ _ _ _ _ _ _ _ _ _ _ _ hat)
 ·cases ht
end Go.Proofs.YtphlckkbihmlnaaGreatDoor.G
end
