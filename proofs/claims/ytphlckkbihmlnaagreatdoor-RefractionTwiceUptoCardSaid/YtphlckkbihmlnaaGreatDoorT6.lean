/- A part of what the law's proof leans on. PACKED BY pack.py of this repo. -/
import Derived.Test.YtphlckkbihmlnaaGreatDoorT5
set_option linter.unusedVariables false
set_option linter.unusedSimpArgs false
set_option linter.defProp false
set_option linter.unusedSectionVars false
section
namespace Go.Proofs.YtphlckkbihmlnaaGreatDoor.G
set_option maxRecDepth 100000
open Go Go.Proofs RX
theorem rmul.run (oa la ca ob lb cb:Nat) (xs ys:List Int):xfnN Tryz.prog ⟨[(134,Eg.sp)],[],[]⟩ [(0,mulo.t)] 10 Tryz.f125 [.slice (some ⟨0,oa,none⟩) la ca,.slice (some ⟨1,ob,none⟩) lb cb] [.is .u32 xs 144,.is .u32 ys 144] [114]=
 bif decide (0≤IntKind.i64.wrap (IntKind.i64.wrap (((la:Nat):Int)+((lb:Nat):Int))+1))&&(decide (IntKind.i64.wrap (IntKind.i64.wrap (((la:Nat):Int)+((lb:Nat):Int))+1)≤IntKind.i64.wrap (IntKind.i64.wrap (((la:Nat):Int)+((lb:Nat):Int))+1))&&(decide (IntKind.i64.wrap (IntKind.i64.wrap (((la:Nat):Int)+((lb:Nat):Int))+1)≤140737488355328)&&decide (((3+1:Nat):Int)*IntKind.i64.wrap (IntKind.i64.wrap (((la:Nat):Int)+((lb:Nat):Int))+1)≤140737488355328))) then bif mulo.ok (IntKind.i64.wrap (IntKind.i64.wrap (((la:Nat):Int)+((lb:Nat):Int))+1)).toNat (IntKind.i64.wrap (IntKind.i64.wrap (((la:Nat):Int)+((lb:Nat):Int))+1)).toNat ob lb oa la (((la:Nat):Int)) 0 xs ys (List.replicate ((IntKind.i64.wrap (IntKind.i64.wrap (((la:Nat):Int)+((lb:Nat):Int))+1)).toNat*1) 0) then bif trim.ok 0 (IntKind.i64.wrap (IntKind.i64.wrap (((la:Nat):Int)+((lb:Nat):Int))+1)).toNat (IntKind.i64.wrap (IntKind.i64.wrap (((la:Nat):Int)+((lb:Nat):Int))+1)).toNat (dg (IntKind.i64.wrap (IntKind.i64.wrap (((la:Nat):Int)+((lb:Nat):Int))+1)).toNat (nv (seg xs oa la)*nv (seg ys ob lb))) then some ((Value.slice (some {block:=114,off:=0}) (tl (seg (dg (IntKind.i64.wrap (IntKind.i64.wrap (((la:Nat):Int)+((lb:Nat):Int))+1)).toNat (nv (seg xs oa la)*nv (seg ys ob lb))) 0 (IntKind.i64.wrap (IntKind.i64.wrap (((la:Nat):Int)+((lb:Nat):Int))+1)).toNat)) (IntKind.i64.wrap (IntKind.i64.wrap (((la:Nat):Int)+((lb:Nat):Int))+1)).toNat,[Blk.is IntKind.u32 xs 144,Blk.is IntKind.u32 ys 144,Blk.is IntKind.u32 (dg (IntKind.i64.wrap (IntKind.i64.wrap (((la:Nat):Int)+((lb:Nat):Int))+1)).toNat (nv (seg xs oa la)*nv (seg ys ob lb))) 144])) else none else none else none:=by kernel_rfl
def rmul.run0:=fun oa la ca ob lb cb xs ys h0 h1 h2=>((((rmul.run oa la ca ob lb cb xs ys).ct h0).ct h1).ct h2)
def mul.sp:HSpec
 |[.slice (some ⟨0,oa,none⟩) la ca,.slice (some ⟨1,ob,none⟩) lb cb],[.is .u32 xs 144,.is .u32 ys 144]=>some (Dl oa la xs&&(Dl ob lb ys&&Nat.ble (la+lb+1) 4294967296),.slice (some ⟨2,0,none⟩) (tl (dg (la+lb+1) (nv (seg xs oa la)*nv (seg ys ob lb)))) (la+lb+1),[.is .u32 xs 144,.is .u32 ys 144,.is .u32 (dg (la+lb+1) (nv (seg xs oa la)*nv (seg ys ob lb))) 144])
 |_,_=>none
theorem Om.ok:SOK Tryz.prog 125 mul.sp:=by
 refine HJ (E:=⟨[(134,Eg.sp)],[],[]⟩) (L:=[(0,mulo.t)]) ⟨Aa Eg.ok Ac,Ai,Ad,Ah⟩ 10 Tryz.func125 (by decide) rfl (Fy rfl rfl mulo.lok) fun vs bl v bl' h=> ?_
 unfold mul.sp at h
 split at h
 ·rename_i oa la ca ob lb cb xs ys
  simp only [Option.some.injEq,Prod.mk.injEq,Bool.and_eq_true,Nat.ble_eq] at h
  obtain ⟨⟨hA,hB,hb⟩,rfl,rfl⟩:=h
  have e1:IntKind.i64.wrap (IntKind.i64.wrap (((la:Nat):Int)+((lb:Nat):Int))+1)=((la+lb+1:Nat):Int):=by rw [w64 (n:=((la:Nat):Int)+((lb:Nat):Int)) (by omega) (by omega),w64 (by omega) (by omega)]; omega
  have hr:=rmul.run0 oa la ca ob lb cb xs ys
  rw [e1,Int.toNat_natCast] at hr
  refine ⟨[114],(hr (MS (by omega)) ?_ (Hf (Cx _ _) (by omega))).trans ?_,by simp [okV,Nat.blt],rfl,As rfl,List.nodup_cons.2 ⟨by simp,List.nodup_nil⟩,by simp⟩
  ·simp only [mulo.ok,Bool.and_eq_true,Nat.ble_eq,decide_eq_true_eq,Nat.beq_eq,Nat.mul_one]
   exact ⟨trivial,trivial,trivial,trivial,trivial,hA,hB,by omega⟩
  ·rw [JD]; rfl
 ·cases h
end Go.Proofs.YtphlckkbihmlnaaGreatDoor.G
end
section
namespace Go.Proofs.YtphlckkbihmlnaaGreatDoor.G
set_option maxRecDepth 100000
open Go Go.Proofs RX
theorem rMul.run (na:Bool) (sa:ByteArray) (nb:Bool) (sb:ByteArray):xfn Tryz.prog ⟨[(96,Valid.sp),(121,of.sp),(120,with.sp),(125,mul.sp)],[],[]⟩ [] 10 Tryz.f102 [.agg ⟨[.bool na,.string sa]⟩,.agg ⟨[.bool nb,.string sb]⟩] []=
 let c0:=dg (tl (dg (nd sa) (bv sa.data.toList))+tl (dg (nd sb) (bv sb.data.toList))+1) (nv (seg (dg (nd sa) (bv sa.data.toList)) 0 (tl (dg (nd sa) (bv sa.data.toList))))*nv (seg (dg (nd sb) (bv sb.data.toList)) 0 (tl (dg (nd sb) (bv sb.data.toList)))))
 bif !vld na sa then some ((Value.agg ⟨[Value.bool false,Value.string (⟨#[]⟩:ByteArray)]⟩,[])) else bif !vld nb sb then some ((Value.agg ⟨[Value.bool false,Value.string (⟨#[]⟩:ByteArray)]⟩,[])) else bif sa.size.ble 8589934592 then bif sb.size.ble 8589934592 then bif Dl 0 (tl (dg (nd sa) (bv sa.data.toList))) (dg (nd sa) (bv sa.data.toList))&&(Dl 0 (tl (dg (nd sb) (bv sb.data.toList))) (dg (nd sb) (bv sb.data.toList))&&(tl (dg (nd sa) (bv sa.data.toList))+tl (dg (nd sb) (bv sb.data.toList))+1).ble 4294967296) then bif Dl 0 (tl c0) c0 then some ((Value.agg ⟨[Value.bool (!na==nb&& !nv (seg c0 0 (tl c0))==0),Value.string (str (enc (nv (seg c0 0 (tl c0)))))]⟩,[])) else none else none else none else none:=by kernel_rfl
def rMul.run0:=fun na sa nb sb h0=>((rMul.run na sa nb sb).ct h0)
def rMul.run1:=fun na sa nb sb h0 h1=>(((rMul.run na sa nb sb).cf h0).ct h1)
def rMul.run2:=fun na sa nb sb h0 h1 h2 h3 h4 h5=>(((((((rMul.run na sa nb sb).cf h0).cf h1).ct h2).ct h3).ct h4).ct h5)
theorem rSub.run (na:Bool) (sa:ByteArray) (nb:Bool) (sb:ByteArray):xfn Tryz.prog ⟨[(96,Valid.sp),(126,Neg.sp),(101,Add.sp)],[],[]⟩ [] 10 Tryz.f108 [.agg ⟨[.bool na,.string sa]⟩,.agg ⟨[.bool nb,.string sb]⟩] []=
 bif !vld na sa then some ((Value.agg ⟨[Value.bool false,Value.string (⟨#[]⟩:ByteArray)]⟩,[])) else bif !vld nb sb then some ((Value.agg ⟨[Value.bool false,Value.string (⟨#[]⟩:ByteArray)]⟩,[])) else bif szOk sa&&szOk (str (enc (((bif vld nb sb then -vl nb sb else 0).natAbs:Nat):Int))) then some ((Value.agg ⟨[Value.bool (decide ((bif vld na sa&&vld (decide ((bif vld nb sb then -vl nb sb else 0)<0)) (str (enc (((bif vld nb sb then -vl nb sb else 0).natAbs:Nat):Int))) then vl na sa+vl (decide ((bif vld nb sb then -vl nb sb else 0)<0)) (str (enc (((bif vld nb sb then -vl nb sb else 0).natAbs:Nat):Int))) else 0)<0)),Value.string (str (enc (((bif vld na sa&&vld (decide ((bif vld nb sb then -vl nb sb else 0)<0)) (str (enc (((bif vld nb sb then -vl nb sb else 0).natAbs:Nat):Int))) then vl na sa+vl (decide ((bif vld nb sb then -vl nb sb else 0)<0)) (str (enc (((bif vld nb sb then -vl nb sb else 0).natAbs:Nat):Int))) else 0).natAbs:Nat):Int)))]⟩,[])) else none:=by kernel_rfl
def rSub.run0:=fun na sa nb sb h0=>((rSub.run na sa nb sb).ct h0)
def rSub.run1:=fun na sa nb sb h0 h1=>(((rSub.run na sa nb sb).cf h0).ct h1)
def rSub.run2:=fun na sa nb sb h0 h1 h2=>((((rSub.run na sa nb sb).cf h0).cf h1).ct h2)
def szM (s:ByteArray):Bool:=Nat.ble s.size 4294967296
theorem Ik {s:ByteArray} (h:szM s=true):szOk s=true:=by
 simp only [szM,szOk,Nat.ble_eq] at h ⊢
 omega
theorem Kv (n:Bool) (s:ByteArray):((vl n s).natAbs:Int)=bv s.data.toList:=by
 have hb:=Ep s.data.toList
 unfold vl
 cases n<;>simp only [cond_true,cond_false]<;>omega
theorem enc_vl {n:Bool} {s:ByteArray} (h:vld n s=true):str (enc ((vl n s).natAbs:Int))=s:=by
 rw [Kv,Iv (J7 h)]
 rfl
theorem Qk {n:Bool} {s:ByteArray} (h:vld n s=true):str (enc ((-vl n s).natAbs:Int))=s:=by
 rw [show ((-vl n s).natAbs:Int)=((vl n s).natAbs:Int) by omega,enc_vl h]
def Mul.sp:HSpec
 |[.agg ⟨[.bool na,.string sa]⟩,.agg ⟨[.bool nb,.string sb]⟩],[]=>some (szM sa&&szM sb,iI (bif vld na sa&&vld nb sb then vl na sa*vl nb sb else 0),[])
 |_,_=>none
def Sub.sp:HSpec
 |[.agg ⟨[.bool na,.string sa]⟩,.agg ⟨[.bool nb,.string sb]⟩],[]=>some (szOk sa&&szOk sb,iI (bif vld na sa&&vld nb sb then vl na sa-vl nb sb else 0),[])
 |_,_=>none
theorem Mul.ok:SOK Tryz.prog 102 Mul.sp:=by
 refine Cq (E:=⟨[(96,Valid.sp),(121,of.sp),(120,with.sp),(125,mul.sp)],[],[]⟩) (L:=[]) ⟨Aa Valid.ok (Aa of.ok (Aa with.ok (Aa Om.ok Ac))),Ai,Ad,Ah⟩ 10 Tryz.func102 (by decide) rfl Bs fun vs bl v bl' h=> ?_
 unfold Mul.sp at h
 split at h
 ·rename_i na sa nb sb
  simp only [Option.some.injEq,Prod.mk.injEq,Bool.and_eq_true] at h
  obtain ⟨⟨h1,h2⟩,rfl,rfl⟩:=h
  refine ⟨?_,by simp [okV],clo_spec 8 _ rfl,As rfl⟩
  cases va:vld na sa with
  |false=>exact (rMul.run0 na sa nb sb (Fs va)).trans (by simp only [Bool.false_and,cond_false]; rw [GY])
  |true=>
  cases vb:vld nb sb with
  |false=>exact (rMul.run1 na sa nb sb (Df va) (Fs vb)).trans (by simp only [Bool.and_false,cond_false]; rw [GY])
  |true=>
  have hsa:=Nat.le_of_ble_eq_true h1
  have hsb:=Nat.le_of_ble_eq_true h2
  have na_:nd sa≤1073741825:=by unfold nd; omega
  have nb_:nd sb≤1073741825:=by unfold nd; omega
  have a0:=Ep sa.data.toList
  have b0:=Ep sb.data.toList
  have a1:=Gr sa
  have b1:=Gr sb
  have oa:=okc (n:=nd sa) (bv sa.data.toList) (by omega)
  have ob:=okc (n:=nd sb) (bv sb.data.toList) (by omega)
  have ta:=Hc (dg (nd sa) (bv sa.data.toList))
  have tb:=Hc (dg (nd sb) (bv sb.data.toList))
  rw [Cx] at ta tb
  refine (rMul.run2 na sa nb sb (Df va) (Df vb) (Ik h1) (Ik h2) (by rw [oa,ob]; simp only [Bool.true_and,Nat.ble_eq]; omega) (okc _ (by omega))).trans ?_
  have q:=SE a0 (IL a0 a1) b0 (IL b0 b1)
  have q2:=HK (show tl (dg (nd sa) (bv sa.data.toList))+tl (dg (nd sb) (bv sb.data.toList))≤tl (dg (nd sa) (bv sa.data.toList))+tl (dg (nd sb) (bv sb.data.toList))+1 by omega)
  have p0:=Int.mul_nonneg a0 b0
  show some (iv (!(na==nb)) _,_)=_
  rw [nvc a0 a1,nvc b0 b1,nvc p0 (by omega),Hn _ p0]
  unfold vl
  simp only [Bool.and_true,cond_true]
  cases na<;>cases nb<;>simp only [cond_true,cond_false,Int.neg_mul,Int.mul_neg,Int.neg_neg]<;>rfl
 ·cases h
theorem Sub.ok:SOK Tryz.prog 108 Sub.sp:=by
 refine Cq (E:=⟨[(96,Valid.sp),(126,Neg.sp),(101,Add.sp)],[],[]⟩) (L:=[]) ⟨Aa Valid.ok (Aa Neg.ok (Aa Add.ok Ac)),Ai,Ad,Ah⟩ 10 Tryz.func108 (by decide) rfl Bs fun vs bl v bl' h=> ?_
 unfold Sub.sp at h
 split at h
 ·rename_i na sa nb sb
  simp only [Option.some.injEq,Prod.mk.injEq,Bool.and_eq_true] at h
  obtain ⟨⟨h1,h2⟩,rfl,rfl⟩:=h
  refine ⟨?_,by simp [okV],clo_spec 8 _ rfl,As rfl⟩
  cases va:vld na sa with
  |false=>exact (rSub.run0 na sa nb sb (Fs va)).trans (by simp only [Bool.false_and,cond_false]; rw [GY])
  |true=>
  cases vb:vld nb sb with
  |false=>exact (rSub.run1 na sa nb sb (Df va) (Fs vb)).trans (by simp only [Bool.and_false,cond_false]; rw [GY])
  |true=>
  have hr:=rSub.run2 na sa nb sb (Df va) (Df vb)
  simp only [va,vb,cond_true,Qk vb,J6,LQ,Bool.and_true] at hr
  rw [h1,h2] at hr
  have hv:=J6 (-vl nb sb)
  have hw:=LQ (-vl nb sb)
  rw [Qk vb] at hv hw
  simp only [hv,hw,cond_true] at hr
  refine (hr rfl).trans ?_
  simp only [Bool.and_true,cond_true]
  rfl
 ·cases h
end Go.Proofs.YtphlckkbihmlnaaGreatDoor.G
end
section
namespace Go.Proofs.YtphlckkbihmlnaaGreatDoor.G
set_option maxRecDepth 100000
open Go Go.Proofs RX
section
variable {N:Nat→Prop} {xe:X} {Se:St} (oa la ca:Nat) (r i:Int) (xs:List Int) (ta:TypeId) (nx:Nat)
abbrev single.st:St:=⟨gbuild [(0,.slice (some ⟨0,oa,none⟩) la ca),(3,.int .u64 r),(4,.int .i64 i)] 0 21,[(0,.is .u32 xs ta)],nx⟩
abbrev single.lk:=RX.lk [0,3,4] [0]
theorem single.rnd:rd Tryz.prog ⟨[],[],[]⟩ [] 3 (Ag Tryz.f133 0) (single.st oa la ca r i xs ta nx) 21 [0,3,4] [0]=
 bif decide (i≥0) then bif decide (0≤i)&&decide (i<((la:Nat):Int)) then bif (oa+i.toNat*1).blt xs.length then single.lk .normal (single.st oa la ca (Ei BinOp.or IntKind.u64 (IntKind.u64.wrap (r*2^min (Int.toNat 32) IntKind.u64.bits)) (IntKind.u64.wrap (xs.getD (oa+i.toNat*1) 0))) (IntKind.i64.wrap (i-1)) xs ta nx) else none else none else single.lk (.exit 0) (single.st oa la ca r i xs ta nx):=by kernel_rfl
def single.step0:=fun h0 h1 h2 (ih:Lq Tryz.prog N (Ag Tryz.f133 0) _ xe Se)=>Lq.toK (f:=3) ⟨Ac,Ai,Ad,Ah⟩ Ba ((((single.rnd oa la ca r i xs ta nx).ct h0).ct h1).ct h2) rfl rfl ih
def single.stop1:=fun h0=>Lq.endK (N:=N) (f:=3) ⟨Ac,Ai,Ad,Ah⟩ Ba ((single.rnd oa la ca r i xs ta nx).cf h0) (fun q=>by cases q) rfl rfl
end
section
variable {N:Nat→Prop} {xe:X} {Se:St} (oa la ca:Nat) (dv:Int) (n m:Nat) (r i:Int) (xs:List Int) (ta:TypeId) (out:List Int) (tc:TypeId) (nx:Nat)
abbrev small.st:St:=⟨gbuild [(0,.slice (some ⟨0,oa,none⟩) la ca),(1,.int .u32 dv),(6,.slice (some ⟨65,0,none⟩) n m),(7,.int .u32 r),(8,.int .i64 i)] 0 35,[(0,.is .u32 xs ta),(65,.is .u32 out tc)],nx⟩
abbrev small.lk:=RX.lk [0,1,6,7,8] [0,65]
theorem small.rnd:rd Tryz.prog ⟨[],[(146,Tryz.f146)],[]⟩ [] 5 (Ag Tryz.f140 0) (small.st oa la ca dv n m r i xs ta out tc nx) 35 [0,1,6,7,8] [0,65]=
 bif decide (i≥0) then bif decide (0≤i)&&decide (i<((la:Nat):Int)) then bif (oa+i.toNat*1).blt xs.length then bif dv !=0 then bif decide (dv≤r) then none else bif IntKind.u64.wrap dv !=0 then bif IntKind.u64.wrap dv !=0 then bif decide (0≤i)&&decide (i<((n:Nat):Int)) then bif (0+i.toNat*1).blt out.length then small.lk .normal (small.st oa la ca dv n m (IntKind.u32.wrap ((Ei BinOp.or IntKind.u64 (IntKind.u64.wrap (IntKind.u64.wrap r*2^min (Int.toNat 32) IntKind.u64.bits)) (IntKind.u64.wrap (xs.getD (oa+i.toNat*1) 0))).tmod (IntKind.u64.wrap dv))) (IntKind.i64.wrap (i-1)) xs ta (out.set (0+i.toNat*1) (IntKind.u32.wrap (IntKind.u64.wrap ((Ei BinOp.or IntKind.u64 (IntKind.u64.wrap (IntKind.u64.wrap r*2^min (Int.toNat 32) IntKind.u64.bits)) (IntKind.u64.wrap (xs.getD (oa+i.toNat*1) 0))).tdiv (IntKind.u64.wrap dv))))) tc nx) else none else none else none else none else bif IntKind.u64.wrap dv !=0 then bif IntKind.u64.wrap dv !=0 then bif decide (0≤i)&&decide (i<((n:Nat):Int)) then bif (0+i.toNat*1).blt out.length then small.lk .normal (small.st oa la ca dv n m (IntKind.u32.wrap ((Ei BinOp.or IntKind.u64 (IntKind.u64.wrap (IntKind.u64.wrap r*2^min (Int.toNat 32) IntKind.u64.bits)) (IntKind.u64.wrap (xs.getD (oa+i.toNat*1) 0))).tmod (IntKind.u64.wrap dv))) (IntKind.i64.wrap (i-1)) xs ta (out.set (0+i.toNat*1) (IntKind.u32.wrap (IntKind.u64.wrap ((Ei BinOp.or IntKind.u64 (IntKind.u64.wrap (IntKind.u64.wrap r*2^min (Int.toNat 32) IntKind.u64.bits)) (IntKind.u64.wrap (xs.getD (oa+i.toNat*1) 0))).tdiv (IntKind.u64.wrap dv))))) tc nx) else none else none else none else none else none else none else small.lk (.exit 0) (small.st oa la ca dv n m r i xs ta out tc nx):=by kernel_rfl
def small.step0:=fun h0 h1 h2 h3 h4 h5 h6 h7 h8 (ih:Lq Tryz.prog N (Ag Tryz.f140 0) _ xe Se)=>Lq.toK (f:=5) ⟨Ac,Ex ⟨Tryz.func146,by decide,rfl⟩ Ai,Ad,Ah⟩ Ba ((((((((((small.rnd oa la ca dv n m r i xs ta out tc nx).ct h0).ct h1).ct h2).ct h3).cf h4).ct h5).ct h6).ct h7).ct h8) rfl rfl ih
def small.stop2:=fun h0=>Lq.endK (N:=N) (f:=5) ⟨Ac,Ex ⟨Tryz.func146,by decide,rfl⟩ Ai,Ad,Ah⟩ Ba ((small.rnd oa la ca dv n m r i xs ta out tc nx).cf h0) (fun q=>by cases q) rfl rfl
end
def tw (xs:List Int) (o l k:Nat):Int:=nv (seg xs (o+k) (l-k))
theorem OM {xs:List Int} {o l:Nat} (h:o<xs.length):seg xs o (l+1)=xs.getD o 0::seg xs (o+1) l:=by
 unfold seg
 rw [List.drop_eq_getElem_cons h,List.take_succ_cons,List.getD_eq_getElem?_getD,List.getElem?_eq_getElem h]
 rfl
theorem RW (xs:List Int) (o l:Nat):tw xs o l l=0:=by unfold tw; rw [Nat.sub_self,Gh]; rfl
theorem Px {xs:List Int} {o l k:Nat} (hk:k<l) (h:o+l≤xs.length):tw xs o l k=xs.getD (o+k) 0+4294967296*tw xs o l (k+1):=by
 unfold tw
 rw [show l-k=(l-(k+1))+1 by omega,OM (by omega)]
 rfl
theorem tw_zero (xs:List Int) (o l:Nat):tw xs o l 0=nv (seg xs o l):=rfl
theorem N5 {xs:List Int} (hd:dig xs) (o l k:Nat):0≤tw xs o l k:=Ea (Es hd _ _)
theorem tw_lt {xs:List Int} (hd:dig xs) {o l k:Nat} (hk:k≤l) (h:o+l≤xs.length):tw xs o l k<pw (l-k):=by
 have:=Gk (Es hd (o+k) (l-k))
 rwa [Et (by omega)] at this
theorem Oa {x r:Int} (x0:0≤x) (x1:x<4294967296) (r0:0≤r) (r1:r<4294967296):Ei .or .u64 (IntKind.u64.wrap (r*2^min (Int.toNat 32) IntKind.u64.bits)) (IntKind.u64.wrap x)=x+4294967296*r:=by
 have h2:((2:Int)^min (Int.toNat 32) IntKind.u64.bits)=4294967296:=rfl
 rw [h2,u64of (n:=x) x0 (by omega),u64of (n:=r*4294967296) (by omega) (by omega),or_comm]
 have:=or64 (a:=x) (c:=r) (i:=32) x0 x1 r0 (by omega)
 rw [show ((2^32:Nat):Int)=4294967296 from rfl] at this
 rw [this,Int.mul_comm]
def single.ok (oa la:Nat) (r i:Int) (xs:List Int):Bool:=decide (r=0)&&(decide (i+1=(la:Int))&&(Dl oa la xs&&Nat.ble la 2))
def single.lt (oa la ca:Nat) (r i:Int) (xs:List Int) (ta:TypeId) (nx:Nat):LT:= .got (single.ok oa la r i xs) (.exit 0) (single.st oa la ca (nv (seg xs oa la)) (-1) xs ta nx)
theorem single.go {N:Nat→Prop} (oa la ca:Nat) (xs:List Int) (ta:TypeId) (nx:Nat) (h1:oa+la≤xs.length) (hd:dig xs) (h2:la≤2):∀(k:Nat),k≤la→Lq Tryz.prog N (Ag Tryz.f133 0) (single.st oa la ca (tw xs oa la k) ((k:Int)-1) xs ta nx) (.exit 0) (single.st oa la ca (nv (seg xs oa la)) (-1) xs ta nx)
 |0,_=>single.stop1 _ _ _ _ _ _ _ _ rfl
 | k+1,hk=>by
  have e0:(((k+1:Nat):Int)-1)=(k:Int):=by omega
  have e1:IntKind.i64.wrap ((k:Int)-1)=(k:Int)-1:=w64 (by omega) (by omega)
  have ea:oa+((k:Int)).toNat*1=oa+k:=by simp
  have hX:=Ev hd (oa+k)
  have t0:=N5 hd oa la (k+1)
  have t1:=tw_lt hd hk h1
  have t2:pw (la-(k+1))≤4294967296:=Int.le_trans (HK (show la-(k+1)≤1 by omega)) (by decide)
  rw [e0]
  refine single.step0 _ _ _ _ _ _ _ _ (dtrue (by omega)) (dtrue2 (by omega) (by omega)) (by rw [ea]; exact Eu (by omega)) ?_
  rw [ea,e1,Oa hX.1 hX.2 t0 (by omega),←Px (by omega) h1]
  exact single.go oa la ca xs ta nx h1 hd h2 k (by omega)
theorem single.lp {N:Nat→Prop} (oa la ca:Nat) (r i:Int) (xs:List Int) (ta:TypeId) (nx:Nat) {x:X} {S':St} (h:(single.lt oa la ca r i xs ta nx).at=some (x,S')):Lq Tryz.prog N (Ag Tryz.f133 0) (single.st oa la ca r i xs ta nx) x S':=by
 obtain ⟨h1,rfl,rfl⟩:=Fk h
 simp only [single.ok,Bool.and_eq_true,Nat.ble_eq,decide_eq_true_eq,Eb] at h1
 obtain ⟨rfl,h2,⟨h3,h4,h5⟩,h6⟩:=h1
 obtain rfl:i=(la:Int)-1:=by omega
 have:=single.go (N:=N) oa la ca xs ta nx h3 h5 h6 la (Nat.le_refl _)
 rw [RW] at this
 exact this
def single.t:LSpec:=fun S=>match RX.nth S.tmps 0,RX.nth S.tmps 3,RX.nth S.tmps 4,RX.look S.heap 0 with
 | .slice (some ⟨0,oa,none⟩) la ca,.int .u64 r,.int .i64 i,some (.is .u32 xs ta)=>bif Nat.beq S.tmps.length 21 then some (single.lt oa la ca r i xs ta S.nxt) else none
 |_,_,_,_=>none
theorem single.lok {N:Nat→Prop} :LOKn Tryz.prog N (Ag Tryz.f133 0) (single.t):=by
 refine GO fun S lt x S' ht hat=> ?_
 unfold single.t at ht
 split at ht
 ·rename_i oa la ca r i xs ta h0 h3 h4 g0
  cases hb:Nat.beq S.tmps.length 21 with
  |false=>rw [hb] at ht; cases ht
  | true=>
   rw [hb] at ht
   injection ht with ht
   subst ht
   have hb:=Nat.eq_of_beq_eq_true hb
   exact .enter (fun h=>Gc hb (.cons ⟨h0,bnth h h0⟩ (.cons ⟨h3,bnth h h3⟩ (.cons ⟨h4,bnth h h4⟩ .nil))) (.cons ⟨g0,bname h g0,rfl⟩ .nil)) (single.lp _ _ _ _ _ _ _ _ hat)
 ·cases ht
def small.ok (oa la:Nat) (dv:Int) (n:Nat) (r i:Int) (xs out:List Int):Bool:=decide (r=0)&&(decide (i+1=(la:Int))&&(Nat.beq n la&&(decide (out=List.replicate n 0)&&(Dl oa la xs&&(decide (0<dv)&&decide (dv<4294967296))))))
def small.lt (oa la ca:Nat) (dv:Int) (n m:Nat) (r i:Int) (xs:List Int) (ta:TypeId) (out:List Int) (tc:TypeId) (nx:Nat):LT:= .got (small.ok oa la dv n r i xs out) (.exit 0) (small.st oa la ca dv n m (nv (seg xs oa la)%dv) (-1) xs ta (dg la (nv (seg xs oa la)/dv)) tc nx)
theorem QI (k:Nat) (q:Int) (L:List Int):(List.replicate (k+1) 0++L).set k q=List.replicate k 0++q::L:=by
 rw [List.replicate_succ',List.append_assoc,List.set_append_right _ _ (by simp),List.length_replicate,Nat.sub_self]
 rfl
theorem small.go {N:Nat→Prop} (oa la ca:Nat) (dv:Int) (m:Nat) (xs:List Int) (ta tc:TypeId) (nx:Nat) (h1:oa+la≤xs.length) (h2:la≤4294967296) (hd:dig xs) (d0:0<dv) (d1:dv<4294967296):∀(k:Nat),k≤la→Lq Tryz.prog N (Ag Tryz.f140 0) (small.st oa la ca dv la m (tw xs oa la k%dv) ((k:Int)-1) xs ta (List.replicate k 0++dg (la-k) (tw xs oa la k/dv)) tc nx) (.exit 0) (small.st oa la ca dv la m (nv (seg xs oa la)%dv) (-1) xs ta (dg la (nv (seg xs oa la)/dv)) tc nx)
 | 0,_=>by
  rw [tw_zero]
  exact small.stop2 _ _ _ _ _ _ _ _ _ _ _ _ _ rfl
 | k +1,hk=>by
  have e0:(((k+1:Nat):Int)-1)=(k:Int):=by omega
  have e1:IntKind.i64.wrap ((k:Int)-1)=(k:Int)-1:=w64 (by omega) (by omega)
  have ea:oa+((k:Int)).toNat*1=oa+k:=by simp
  have ez:0+((k:Int)).toNat*1=k:=by simp
  have hX:=Ev hd (oa+k)
  have t0:=N5 hd oa la (k+1)
  have ts:=Px (xs:=xs) (o:=oa) (l:=la) (k:=k) (by omega) h1
  have r0:=Int.emod_nonneg (tw xs oa la (k+1)) (show dv≠0 by omega)
  have r1:=Int.emod_lt_of_pos (tw xs oa la (k+1)) d0
  have q0:0≤tw xs oa la (k+1)/dv:=Int.ediv_nonneg t0 (by omega)
  have hsp:dv*(tw xs oa la (k+1)/dv)+tw xs oa la (k+1)%dv=tw xs oa la (k+1):=Int.mul_ediv_add_emod _ _
  have ih:=small.go (N:=N) oa la ca dv m xs ta tc nx h1 h2 hd d0 d1 k (by omega)
  rw [show la-k=la-(k+1)+1 by omega] at ih
  generalize hq:tw xs oa la (k+1)/dv=q at*
  generalize hr:tw xs oa la (k+1)%dv=r at*
  generalize hx:xs.getD (oa+k) 0=u at*
  have hT:tw xs oa la k=(u+4294967296*r)+dv*(4294967296*q):=by rw [ts,←hsp,Int.mul_add,Int.mul_left_comm]; omega
  have hTd:tw xs oa la k/dv=(u+4294967296*r)/dv+4294967296*q:=by rw [hT]; exact Int.add_mul_ediv_left _ _ (by omega)
  have hTm:tw xs oa la k%dv=(u+4294967296*r)%dv:=by rw [hT]; exact Int.add_mul_emod_self_left _ _ _
  have z0:0≤(u+4294967296*r)/dv:=Int.ediv_nonneg (by omega) (by omega)
  have z1:(u+4294967296*r)/dv<4294967296:=Int.ediv_lt_of_lt_mul d0 (by
   have:4294967296*(r+1)≤4294967296*dv:=Int.mul_le_mul_of_nonneg_left (by omega) (by omega)
   omega)
  have m0:=Int.emod_nonneg (u+4294967296*r) (show dv≠0 by omega)
  have m1:=Int.emod_lt_of_pos (u+4294967296*r) d0
  have ed:IntKind.u64.wrap dv=dv:=u64of (by omega) (by omega)
  have er:IntKind.u64.wrap r=r:=u64of (by omega) (by omega)
  rw [e0]
  refine small.step0 _ _ _ _ _ _ _ _ _ _ _ _ _ (dtrue (by omega)) (dtrue2 (by omega) (by omega)) (by rw [ea]; exact Eu (by omega)) (Fh (by omega)) (dfalse (by omega)) (by rw [ed]; exact Fh (by omega)) (by rw [ed]; exact Fh (by omega)) (dtrue2 (by omega) (by omega)) (by rw [ez]; simp only [List.length_append,List.length_replicate,Cx]; exact Eu (by omega)) ?_
  rw [ea,ez,e1,ed,er,hx,Oa hX.1 hX.2 r0 (by omega),Int.tdiv_eq_ediv_of_nonneg (by omega),Int.tmod_eq_emod_of_nonneg (by omega),u64of (n:=(u+4294967296*r)/dv) z0 (by omega),u32of z0 z1,u32of m0 (by omega),QI]
  rw [hTm,hTd] at ih
  have hdg:dg (la-(k+1)+1) ((u+4294967296*r)/dv+4294967296*q)=(u+4294967296*r)/dv::dg (la-(k+1)) q:=by
   have y1:((u+4294967296*r)/dv+4294967296*q)%4294967296=(u+4294967296*r)/dv:=by omega
   have y2:((u+4294967296*r)/dv+4294967296*q)/4294967296=q:=by omega
   simp only [dg,y1,y2]
  rw [hdg] at ih
  exact ih
theorem small.lp {N:Nat→Prop} (oa la ca:Nat) (dv:Int) (n m:Nat) (r i:Int) (xs:List Int) (ta:TypeId) (out:List Int) (tc:TypeId) (nx:Nat) {x:X} {S':St} (h:(small.lt oa la ca dv n m r i xs ta out tc nx).at=some (x,S')):Lq Tryz.prog N (Ag Tryz.f140 0) (small.st oa la ca dv n m r i xs ta out tc nx) x S':=by
 obtain ⟨h1,rfl,rfl⟩:=Fk h
 simp only [small.ok,Bool.and_eq_true,decide_eq_true_eq,Eb] at h1
 obtain ⟨rfl,h2,h3,rfl,⟨h4,h5,h6⟩,h7,h8⟩:=h1
 obtain rfl:=Nat.eq_of_beq_eq_true h3
 obtain rfl:i=(n:Int)-1:=by omega
 have:=small.go (N:=N) oa n ca dv m xs ta tc nx h4 h5 h6 h7 h8 n (Nat.le_refl _)
 rw [RW,Nat.sub_self,Int.zero_ediv,Int.zero_emod] at this
 simp only [dg,List.append_nil] at this
 exact this
def small.t:LSpec:=fun S=>match RX.nth S.tmps 0,RX.nth S.tmps 1,RX.nth S.tmps 6,RX.nth S.tmps 7,RX.nth S.tmps 8,RX.look S.heap 0,RX.look S.heap 65 with
 | .slice (some ⟨0,oa,none⟩) la ca,.int .u32 dv,.slice (some ⟨65,0,none⟩) n m,.int .u32 r,.int .i64 i,some (.is .u32 xs ta),some (.is .u32 out tc)=>bif Nat.beq S.tmps.length 35 then some (small.lt oa la ca dv n m r i xs ta out tc S.nxt) else none
 |_,_,_,_,_,_,_=>none
theorem small.lok {N:Nat→Prop} :LOKn Tryz.prog N (Ag Tryz.f140 0) (small.t):=by
 refine GO fun S lt x S' ht hat=> ?_
 unfold small.t at ht
 split at ht
 ·rename_i oa la ca dv n m r i xs ta out tc h0 h1 h6 h7 h8 g0 g65
  cases hb:Nat.beq S.tmps.length 35 with
  |false=>rw [hb] at ht; cases ht
  | true=>
   rw [hb] at ht
   injection ht with ht
   subst ht
   have hb:=Nat.eq_of_beq_eq_true hb
   exact .enter (fun h=>Gc hb (.cons ⟨h0,bnth h h0⟩ (.cons ⟨h1,bnth h h1⟩ (.cons ⟨h6,bnth h h6⟩ (.cons ⟨h7,bnth h h7⟩ (.cons ⟨h8,bnth h h8⟩ .nil))))) (.cons ⟨g0,bname h g0,rfl⟩ (.cons ⟨g65,bname h g65,rfl⟩ .nil))) (small.lp _ _ _ _ _ _ _ _ _ _ _ _ _ hat)
 ·cases ht
end Go.Proofs.YtphlckkbihmlnaaGreatDoor.G
end
section
namespace Go.Proofs.YtphlckkbihmlnaaGreatDoor.G
set_option maxRecDepth 100000
open Go Go.Proofs RX
section
variable {N:Nat→Prop} {xe:X} {Se:St} (k:Int) (n m oa la ca:Nat) (z i:Int) (xs:List Int) (ta:TypeId) (out:List Int) (tc:TypeId) (nx:Nat)
abbrev shift.st:St:=⟨gbuild [(1,.int .i64 k),(5,.slice (some ⟨65,0,none⟩) n m),(12,.slice (some ⟨0,oa,none⟩) la ca),(13,.int .i64 z),(14,.int .i64 i)] 0 40,[(0,.is .u32 xs ta),(65,.is .u32 out tc)],nx⟩
abbrev shift.lk:=RX.lk [1,5,12,13,14] [0,65]
theorem shift.rnd:rd Tryz.prog ⟨[],[],[]⟩ [] 3 (Ag Tryz.f142 0) (shift.st k n m oa la ca z i xs ta out tc nx) 40 [1,5,12,13,14] [0,65]=
 bif decide (i<z) then bif decide (0≤i)&&decide (i<((la:Nat):Int)) then bif (oa+i.toNat*1).blt xs.length then bif decide (0≤i)&&decide (i<((n:Nat):Int)) then bif (0+i.toNat*1).blt out.length then bif decide (0≤k) then bif decide (0≤i)&&decide (i<((n:Nat):Int)) then bif (0+i.toNat*1).blt out.length then bif decide (0≤k) then bif decide (0≤IntKind.i64.wrap (i+1))&&decide (IntKind.i64.wrap (i+1)<((n:Nat):Int)) then bif (0+(IntKind.i64.wrap (i+1)).toNat*1).blt (out.set (0+i.toNat*1) (Ei BinOp.or IntKind.u32 (out.getD (0+i.toNat*1) 0) (IntKind.u32.wrap (xs.getD (oa+i.toNat*1) 0*2^min k.toNat IntKind.u32.bits)))).length then shift.lk .normal (shift.st k n m oa la ca z (IntKind.i64.wrap (i+1)) xs ta ((out.set (0+i.toNat*1) (Ei BinOp.or IntKind.u32 (out.getD (0+i.toNat*1) 0) (IntKind.u32.wrap (xs.getD (oa+i.toNat*1) 0*2^min k.toNat IntKind.u32.bits)))).set (0+(IntKind.i64.wrap (i+1)).toNat*1) (IntKind.u32.wrap ((IntKind.u64.wrap (IntKind.u64.wrap (xs.getD (oa+i.toNat*1) 0)*2^min k.toNat IntKind.u64.bits)).fdiv (2^min (Int.toNat 32) IntKind.u64.bits)))) tc nx) else none else none else none else none else none else none else none else none else none else none else shift.lk (.exit 0) (shift.st k n m oa la ca z i xs ta out tc nx):=by kernel_rfl
def shift.step0:=fun h0 h1 h2 h3 h4 h5 h6 h7 h8 h9 h10 (ih:Lq Tryz.prog N (Ag Tryz.f142 0) _ xe Se)=>Lq.toK (f:=3) ⟨Ac,Ai,Ad,Ah⟩ Ba ((((((((((((shift.rnd k n m oa la ca z i xs ta out tc nx).ct h0).ct h1).ct h2).ct h3).ct h4).ct h5).ct h6).ct h7).ct h8).ct h9).ct h10) rfl rfl ih
def shift.stop1:=fun h0=>Lq.endK (N:=N) (f:=3) ⟨Ac,Ai,Ad,Ah⟩ Ba ((shift.rnd k n m oa la ca z i xs ta out tc nx).cf h0) (fun q=>by cases q) rfl rfl
end
def p2 (k:Nat):Int:=((2^k:Nat):Int)
theorem K0 (k:Nat):0<p2 k:=by have:=Nat.two_pow_pos k; simp only [p2]; omega
theorem p2_le {k:Nat} (h:k≤31):p2 k≤2147483648:=by
 have:=Nat.pow_le_pow_right (show 0<2 by decide) h
 simp only [p2]; omega
theorem MK {k:Nat} (h:k≤32):p2 k*p2 (32-k)=4294967296:=by
 simp only [p2]
 rw [←Int.natCast_mul,←Nat.pow_add,show k+(32-k)=32 by omega]
 rfl
def shift.ok (k:Int) (n oa la:Nat) (z i:Int) (xs out:List Int):Bool:=decide (0≤k)&&(decide (k≤31)&&(Nat.beq n (la+1)&&(decide (z=(la:Int))&&(decide (i=0)&&(decide (out=List.replicate n 0)&&Dl oa la xs)))))
def shift.lt (k:Int) (n m oa la ca:Nat) (z i:Int) (xs:List Int) (ta:TypeId) (out:List Int) (tc:TypeId) (nx:Nat):LT:= .got (shift.ok k n oa la z i xs out) (.exit 0) (shift.st k n m oa la ca z z xs ta (dg (la+1) (nv (seg xs oa la)*p2 k.toNat)) tc nx)
theorem shl_or {h x:Int} {k:Nat} (hk:k≤31) (h0:0≤h) (h1:h<p2 k) (x0:0≤x) (x1:x<4294967296):Ei .or .u32 h (IntKind.u32.wrap (x*p2 k))=(h+x*p2 k)%4294967296∧(h+x*p2 k)/4294967296=x*p2 k/4294967296:=by
 have hp:=K0 k
 have hs:=MK (k:=k) (by omega)
 have hq:=K0 (32-k)
 have e1:x*p2 k%4294967296=x%p2 (32-k)*p2 k:=by
  rw [←hs,Int.mul_comm x,Int.mul_emod_mul_of_pos _ _ hp,Int.mul_comm]
 have m0:=Int.emod_nonneg x (show p2 (32-k)≠0 by omega)
 have m1:=Int.emod_lt_of_pos x hq
 have hle:(x%p2 (32-k)+1)*p2 k≤p2 (32-k)*p2 k:=Int.mul_le_mul_of_nonneg_right (by omega) (by omega)
 rw [Int.add_mul,Int.one_mul,Int.mul_comm (p2 (32-k)),hs] at hle
 have hb:h+x%p2 (32-k)*p2 k<4294967296:=by omega
 have hn:0≤x%p2 (32-k)*p2 k:=Int.mul_nonneg m0 (by omega)
 have hxd:=Int.mul_ediv_add_emod (x*p2 k) 4294967296
 rw [wu32,e1]
 refine ⟨?_,by rw [e1] at hxd; omega⟩
 have:=or32 (a:=h) (c:=x%p2 (32-k)) (i:=k) h0 h1 m0 hb
 rw [show ((2^k:Nat):Int)=p2 k from rfl] at this
 rw [this]
 rw [e1] at hxd
 omega
theorem ap_get {k n:Nat} (h:k<n) (v:Int):(ap (k+1) v n).getD k 0=v/pw k%4294967296:=by
 unfold ap
 rw [Ko,List.append_assoc,List.getD_eq_getElem?_getD,List.getElem?_append_right (by rw [Cx]; omega),Cx,Nat.sub_self]
 rfl
theorem shift.go {N:Nat→Prop} (k:Nat) (m oa la ca:Nat) (xs:List Int) (ta tc:TypeId) (nx:Nat) (hk:k≤31) (h1:oa+la≤xs.length) (h2:la≤4294967296) (hd:dig xs):∀(j i:Nat),i+j=la→Lq Tryz.prog N (Ag Tryz.f142 0) (shift.st (k:Int) (la+1) m oa la ca (la:Int) (i:Int) xs ta (ap (i+1) (nv (seg xs oa i)*p2 k) (la+1)) tc nx) (.exit 0) (shift.st (k:Int) (la+1) m oa la ca (la:Int) (la:Int) xs ta (dg (la+1) (nv (seg xs oa la)*p2 k)) tc nx)
 | 0,i,h=>by
  obtain rfl:i=la:=by omega
  rw [O6]
  exact shift.stop1 _ _ _ _ _ _ _ _ _ _ _ _ _ (dfalse (by omega))
 | j +1,i,h=>by
  have e1:IntKind.i64.wrap ((i:Int)+1)=((i+1:Nat):Int):=by rw [w64 (by omega) (by omega)]; omega
  have ea:oa+((i:Int)).toNat*1=oa+i:=by simp
  have ez:0+((i:Int)).toNat*1=i:=by simp
  have ey:0+(((i+1:Nat):Int)).toNat*1=i+1:=by simp
  have hX:=Ev hd (oa+i)
  have hp:=K0 k
  have hple:=p2_le hk
  have v0:=Ea (Es hd oa i)
  have v1:=Gk (Es hd oa i)
  rw [Et (by omega)] at v1
  have hpw:=GN i
  have hh0:0≤nv (seg xs oa i)*p2 k/pw i:=Int.ediv_nonneg (Int.mul_nonneg v0 (by omega)) (by omega)
  have hh1:nv (seg xs oa i)*p2 k/pw i<p2 k:=Int.ediv_lt_of_lt_mul hpw (by rw [Int.mul_comm]; exact Int.mul_lt_mul_of_pos_left v1 hp)
  have hst:nv (seg xs oa (i+1))*p2 k=nv (seg xs oa i)*p2 k+pw i*(xs.getD (oa+i) 0*p2 k):=by rw [Fi (o:=oa) (l:=i) (by omega),Int.add_mul,Int.mul_assoc]
  have hget:=ap_get (k:=i) (n:=la+1) (by omega) (nv (seg xs oa i)*p2 k)
  rw [Int.emod_eq_of_lt hh0 (by omega)] at hget
  have hlen:=HE (k:=i+1) (n:=la+1) (nv (seg xs oa i)*p2 k) (by omega)
  obtain ⟨so,sd⟩:=shl_or (x:=xs.getD (oa+i) 0) hk hh0 hh1 hX.1 hX.2
  have emin:min ((k:Int)).toNat IntKind.u32.bits=k:=by rw [Int.toNat_natCast]; exact Nat.min_eq_left (by show k≤32; omega)
  have emin2:min ((k:Int)).toNat IntKind.u64.bits=k:=by rw [Int.toNat_natCast]; exact Nat.min_eq_left (by show k≤64; omega)
  have epow:((2:Int)^k)=p2 k:=(Int.natCast_pow 2 k).symm
  have hmul:xs.getD (oa+i) 0*p2 k≤4294967295*2147483648:=Int.mul_le_mul (by omega) hple (by omega) (by omega)
  have hmul0:0≤xs.getD (oa+i) 0*p2 k:=Int.mul_nonneg hX.1 (by omega)
  have c3:(decide (0≤(i:Int))&&decide ((i:Int)<((la+1:Nat):Int)))=true:=dtrue2 (by omega) (by omega)
  have c4:(0+((i:Int)).toNat*1).blt (ap (i+1) (nv (seg xs oa i)*p2 k) (la+1)).length=true:=by rw [ez,hlen]; exact Eu (by omega)
  refine shift.step0 _ _ _ _ _ _ _ _ _ _ _ _ _ (dtrue (by omega)) (dtrue2 (by omega) (by omega)) (by rw [ea]; exact Eu (by omega)) c3 c4 (dtrue (by omega)) c3 c4 (dtrue (by omega)) (by rw [e1]; exact dtrue2 (by omega) (by omega)) (by rw [e1,ey,List.length_set,hlen]; exact Eu (by omega)) ?_
  rw [ea,ez,e1,ey,emin,emin2,epow,hget,so,u64of (n:=xs.getD (oa+i) 0) hX.1 (by omega),u64of (n:=xs.getD (oa+i) 0*p2 k) hmul0 (by omega),Int.fdiv_eq_ediv_of_nonneg _ (by decide),show ((2:Int)^min (Int.toNat 32) IntKind.u64.bits)=4294967296 from rfl,u32of (n:=xs.getD (oa+i) 0*p2 k/4294967296) (by omega) (by omega)]
  have ih:=shift.go (N:=N) k m oa la ca xs ta tc nx hk h1 h2 hd j (i+1) (by omega)
  have f1:(ap (i+1) (nv (seg xs oa i)*p2 k) (la+1)).set i ((nv (seg xs oa i)*p2 k/pw i+xs.getD (oa+i) 0*p2 k)%4294967296)=ap (i+1) (nv (seg xs oa (i+1))*p2 k) (la+1):=by
   have g:=IY (k:=i) (n:=la+1) (by omega) (nv (seg xs oa i)*p2 k) 0
   rw [Int.mul_zero,Int.add_zero,Int.add_zero] at g
   rw [←g,List.set_set,IY (by omega),hst]
  rw [f1]
  have f2:=IY (k:=i+1) (n:=la+1) (by omega) (nv (seg xs oa (i+1))*p2 k) 0
  rw [Int.mul_zero,Int.add_zero,Int.add_zero] at f2
  have f3:nv (seg xs oa (i+1))*p2 k/pw (i+1)=xs.getD (oa+i) 0*p2 k/4294967296:=by rw [hst,Gm,sd]
  rw [f3,Int.emod_eq_of_lt (by omega) (by omega)] at f2
  rw [f2]
  exact ih
theorem shift.lp {N:Nat→Prop} (k:Int) (n m oa la ca:Nat) (z i:Int) (xs:List Int) (ta:TypeId) (out:List Int) (tc:TypeId) (nx:Nat) {x:X} {S':St} (h:(shift.lt k n m oa la ca z i xs ta out tc nx).at=some (x,S')):Lq Tryz.prog N (Ag Tryz.f142 0) (shift.st k n m oa la ca z i xs ta out tc nx) x S':=by
 obtain ⟨h1,rfl,rfl⟩:=Fk h
 simp only [shift.ok,Bool.and_eq_true,decide_eq_true_eq] at h1
 obtain ⟨h1,h2,h3,rfl,rfl,rfl,h7⟩:=h1
 obtain ⟨h8,h9,h10⟩:=Eb.1 h7
 obtain rfl:=Nat.eq_of_beq_eq_true h3
 obtain ⟨k,rfl⟩:=Int.eq_ofNat_of_zero_le h1
 have:=shift.go (N:=N) k m oa la ca xs ta tc nx (by omega) h8 h9 h10 la 0 (by omega)
 rw [Gh,show nv ([]:List Int)*p2 k=0 from Int.zero_mul _] at this
 have e:ap (0+1) 0 (la+1)=List.replicate (la+1) 0:=by
  unfold ap
  rw [Kn,List.replicate_append_replicate]
  congr 1
  omega
 rw [e] at this
 exact this
def shift.t:LSpec:=fun S=>match RX.nth S.tmps 1,RX.nth S.tmps 5,RX.nth S.tmps 12,RX.nth S.tmps 13,RX.nth S.tmps 14,RX.look S.heap 0,RX.look S.heap 65 with
 | .int .i64 k,.slice (some ⟨65,0,none⟩) n m,.slice (some ⟨0,oa,none⟩) la ca,.int .i64 z,.int .i64 i,some (.is .u32 xs ta),some (.is .u32 out tc)=>bif Nat.beq S.tmps.length 40 then some (shift.lt k n m oa la ca z i xs ta out tc S.nxt) else none
 |_,_,_,_,_,_,_=>none
theorem shift.lok {N:Nat→Prop} :LOKn Tryz.prog N (Ag Tryz.f142 0) (shift.t):=by
 refine GO fun S lt x S' ht hat=> ?_
 unfold shift.t at ht
 split at ht
 ·rename_i k n m oa la ca z i xs ta out tc h1 h5 h12 h13 h14 g0 g65
  cases hb:Nat.beq S.tmps.length 40 with
  |false=>rw [hb] at ht; cases ht
  | true=>
   rw [hb] at ht
   injection ht with ht
   subst ht
   have hb:=Nat.eq_of_beq_eq_true hb
   exact .enter (fun h=>Gc hb (.cons ⟨h1,bnth h h1⟩ (.cons ⟨h5,bnth h h5⟩ (.cons ⟨h12,bnth h h12⟩ (.cons ⟨h13,bnth h h13⟩ (.cons ⟨h14,bnth h h14⟩ .nil))))) (.cons ⟨g0,bname h g0,rfl⟩ (.cons ⟨g65,bname h g65,rfl⟩ .nil))) (shift.lp _ _ _ _ _ _ _ _ _ _ _ _ _ hat)
 ·cases ht
end Go.Proofs.YtphlckkbihmlnaaGreatDoor.G
end
section
namespace Go.Proofs.YtphlckkbihmlnaaGreatDoor.G
set_option maxRecDepth 100000
open Go Go.Proofs RX
theorem rsingle.run (oa la ca:Nat) (xs:List Int):xfn Tryz.prog ⟨[],[],[]⟩ [(0,single.t)] 10 Tryz.f133 [.slice (some ⟨0,oa,none⟩) la ca] [.is .u32 xs 144]=
 bif single.ok oa la 0 (IntKind.i64.wrap (((la:Nat):Int)-1)) xs then some ((Value.int IntKind.u64 (nv (seg xs oa la)),[Blk.is IntKind.u32 xs 144])) else none:=by kernel_rfl
def rsingle.run0:=fun oa la ca xs h0=>((rsingle.run oa la ca xs).ct h0)
theorem rsmall.run (oa la ca:Nat) (xs:List Int) (dv:Int):xfnN Tryz.prog ⟨[(134,Eg.sp)],[(146,Tryz.f146)],[]⟩ [(0,small.t)] 10 Tryz.f140 [.slice (some ⟨0,oa,none⟩) la ca,.int .u32 dv] [.is .u32 xs 144] [65]=
 bif decide (0≤((la:Nat):Int))&&(decide (((la:Nat):Int)≤((la:Nat):Int))&&(decide (((la:Nat):Int)≤140737488355328)&&decide (((3+1:Nat):Int)*((la:Nat):Int)≤140737488355328))) then bif small.ok oa la dv (((la:Nat):Int)).toNat 0 (IntKind.i64.wrap (((la:Nat):Int)-1)) xs (List.replicate ((((la:Nat):Int)).toNat*1) 0) then bif trim.ok 0 (((la:Nat):Int)).toNat (((la:Nat):Int)).toNat (dg la (nv (seg xs oa la)/dv)) then some ((Value.tuple ⟨[Value.slice (some {block:=65,off:=0}) (tl (seg (dg la (nv (seg xs oa la)/dv)) 0 (((la:Nat):Int)).toNat)) (((la:Nat):Int)).toNat,Value.int IntKind.u32 (nv (seg xs oa la)%dv)]⟩,[Blk.is IntKind.u32 xs 144,Blk.is IntKind.u32 (dg la (nv (seg xs oa la)/dv)) 144])) else none else none else none:=by kernel_rfl
def rsmall.run0:=fun oa la ca xs dv h0 h1 h2=>((((rsmall.run oa la ca xs dv).ct h0).ct h1).ct h2)
theorem rshift.run (oa la ca:Nat) (xs:List Int) (k:Int):xfnN Tryz.prog ⟨[],[],[]⟩ [(0,shift.t)] 10 Tryz.f142 [.slice (some ⟨0,oa,none⟩) la ca,.int .i64 k] [.is .u32 xs 144] [65]=
 bif decide (0≤IntKind.i64.wrap (((la:Nat):Int)+1))&&(decide (IntKind.i64.wrap (((la:Nat):Int)+1)≤IntKind.i64.wrap (((la:Nat):Int)+1))&&(decide (IntKind.i64.wrap (((la:Nat):Int)+1)≤140737488355328)&&decide (((3+1:Nat):Int)*IntKind.i64.wrap (((la:Nat):Int)+1)≤140737488355328))) then bif shift.ok k (IntKind.i64.wrap (((la:Nat):Int)+1)).toNat oa la (((la:Nat):Int)) 0 xs (List.replicate ((IntKind.i64.wrap (((la:Nat):Int)+1)).toNat*1) 0) then some ((Value.slice (some {block:=65,off:=0}) (IntKind.i64.wrap (((la:Nat):Int)+1)).toNat (IntKind.i64.wrap (((la:Nat):Int)+1)).toNat,[Blk.is IntKind.u32 xs 144,Blk.is IntKind.u32 (dg (la+1) (nv (seg xs oa la)*p2 k.toNat)) 144])) else none else none:=by kernel_rfl
def rshift.run0:=fun oa la ca xs k h0 h1=>(((rshift.run oa la ca xs k).ct h0).ct h1)
def single.sp:HSpec
 |[.slice (some ⟨0,oa,none⟩) la ca],[.is .u32 xs 144]=>some (Dl oa la xs&&Nat.ble la 2,.int .u64 (nv (seg xs oa la)),[.is .u32 xs 144])
 |_,_=>none
theorem Mx.ok:SOK Tryz.prog 133 single.sp:=by
 refine Cq (E:=⟨[],[],[]⟩) (L:=[(0,single.t)]) ⟨Ac,Ai,Ad,Ah⟩ 10 Tryz.func133 (by decide) rfl (Fy rfl rfl single.lok) fun vs bl v bl' h=> ?_
 unfold single.sp at h
 split at h
 ·rename_i oa la ca xs
  simp only [Option.some.injEq,Prod.mk.injEq,Bool.and_eq_true] at h
  obtain ⟨⟨hA,hB⟩,rfl,rfl⟩:=h
  have hl:=Nat.le_of_ble_eq_true hB
  refine ⟨rsingle.run0 oa la ca xs ?_,by simp [okV,Nat.blt],clo_spec 8 _ rfl,As rfl⟩
  rw [w64 (by omega) (by omega)]
  simp only [single.ok,Bool.and_eq_true,decide_eq_true_eq]
  exact ⟨trivial,by omega,hA,hB⟩
 ·cases h
def small.sp:HSpec
 |[.slice (some ⟨0,oa,none⟩) la ca,.int .u32 dv],[.is .u32 xs 144]=>some (Dl oa la xs&&(decide (0<dv)&&decide (dv<4294967296)),.tuple ⟨[.slice (some ⟨1,0,none⟩) (tl (dg la (nv (seg xs oa la)/dv))) la,.int .u32 (nv (seg xs oa la)%dv)]⟩,[.is .u32 xs 144,.is .u32 (dg la (nv (seg xs oa la)/dv)) 144])
 |_,_=>none
theorem Mt.ok:SOK Tryz.prog 140 small.sp:=by
 refine HJ (E:=⟨[(134,Eg.sp)],[(146,Tryz.f146)],[]⟩) (L:=[(0,small.t)]) ⟨Aa Eg.ok Ac,Ex ⟨Tryz.func146,by decide,rfl⟩ Ai,Ad,Ah⟩ 10 Tryz.func140 (by decide) rfl (Fy rfl rfl small.lok) fun vs bl v bl' h=> ?_
 unfold small.sp at h
 split at h
 ·rename_i oa la ca dv xs
  simp only [Option.some.injEq,Prod.mk.injEq,Bool.and_eq_true,decide_eq_true_eq] at h
  obtain ⟨⟨hA,d0,d1⟩,rfl,rfl⟩:=h
  obtain ⟨h1,h2,h3⟩:=Eb.1 hA
  have hr:=rsmall.run0 oa la ca xs dv (MS (by omega))
  rw [Int.toNat_natCast,Nat.mul_one] at hr
  refine ⟨[65],(hr ?_ (Hf (Cx _ _) (by omega))).trans ?_,by simp [okV,Nat.blt],rfl,As rfl,List.nodup_cons.2 ⟨by simp,List.nodup_nil⟩,by simp⟩
  ·rw [w64 (by omega) (by omega)]
   simp only [small.ok,Bool.and_eq_true,decide_eq_true_eq,Nat.beq_eq]
   exact ⟨trivial,by omega,trivial,trivial,hA,d0,d1⟩
  ·rw [JD]; rfl
 ·cases h
def shift.sp:HSpec
 |[.slice (some ⟨0,oa,none⟩) la ca,.int .i64 k],[.is .u32 xs 144]=>some (Dl oa la xs&&(decide (0≤k)&&decide (k≤31)),.slice (some ⟨1,0,none⟩) (la+1) (la+1),[.is .u32 xs 144,.is .u32 (dg (la+1) (nv (seg xs oa la)*p2 k.toNat)) 144])
 |_,_=>none
theorem Mu.ok:SOK Tryz.prog 142 shift.sp:=by
 refine HJ (E:=⟨[],[],[]⟩) (L:=[(0,shift.t)]) ⟨Ac,Ai,Ad,Ah⟩ 10 Tryz.func142 (by decide) rfl (Fy rfl rfl shift.lok) fun vs bl v bl' h=> ?_
 unfold shift.sp at h
 split at h
 ·rename_i oa la ca k xs
  simp only [Option.some.injEq,Prod.mk.injEq,Bool.and_eq_true,decide_eq_true_eq] at h
  obtain ⟨⟨hA,d0,d1⟩,rfl,rfl⟩:=h
  obtain ⟨h1,h2,h3⟩:=Eb.1 hA
  have e1:IntKind.i64.wrap (((la:Nat):Int)+1)=((la+1:Nat):Int):=by rw [w64 (by omega) (by omega)]; omega
  have hr:=rshift.run0 oa la ca xs k
  rw [e1,Int.toNat_natCast,Nat.mul_one] at hr
  refine ⟨[65],(hr (MS (by omega)) ?_).trans ?_,by simp [okV,Nat.blt],rfl,As rfl,List.nodup_cons.2 ⟨by simp,List.nodup_nil⟩,by simp⟩
  ·simp only [shift.ok,Bool.and_eq_true,decide_eq_true_eq,Nat.beq_eq]
   exact ⟨d0,d1,trivial,trivial,trivial,trivial,hA⟩
  ·rfl
 ·cases h
end Go.Proofs.YtphlckkbihmlnaaGreatDoor.G
end
section
namespace Go.Proofs.YtphlckkbihmlnaaGreatDoor.G
set_option maxRecDepth 100000
open Go Go.Proofs RX
def ip (us:List Int) (o k:Nat) (v:Int):List Int:=us.take o++(dg k v++us.drop (o+k))
theorem Ns (us:List Int) (o:Nat) (v:Int):ip us o 0 v=us:=by simp [ip,dg]
theorem I4 {us:List Int} {o k:Nat} (v:Int) (h:o+k≤us.length):(ip us o k v).length=us.length:=by simp [ip,Cx]; omega
theorem LF {us:List Int} {o k j:Nat} (v:Int) (h:o+k≤us.length) (hj:o+k≤j):(ip us o k v).getD j 0=us.getD j 0:=by
 simp only [ip,List.getD_eq_getElem?_getD]
 rw [List.getElem?_append_right (by simp; omega),List.getElem?_append_right (by simp [Cx]; omega),List.getElem?_drop]
 congr 2
 simp [Cx]; omega
theorem MZ {us:List Int} {o k:Nat} (h:o+k<us.length) (v z:Int):(ip us o k v).set (o+k) ((v/pw k+z)%4294967296)=ip us o (k+1) (v+pw k*z):=by
 unfold ip
 rw [List.set_append_right _ _ (by simp; omega),List.set_append_right _ _ (by simp [Cx]; omega)]
 have e:o+k-(us.take o).length-(dg k v).length=0:=by simp [Cx]; omega
 rw [e,List.drop_eq_getElem_cons h,List.set_cons_zero,Ko k (v+pw k*z),KC,M6,List.append_assoc]
 rfl
theorem dig_ip {us:List Int} (hd:dig us) (o k:Nat) (v:Int):dig (ip us o k v):=fun x hx=>by
 unfold ip at hx
 rcases List.mem_append.1 hx with h|h
 ·exact hd x (List.mem_of_mem_take h)
 rcases List.mem_append.1 h with h|h
 ·exact GZ k v x h
 ·exact hd x (List.mem_of_mem_drop h)
theorem ip_ip {us:List Int} {o k:Nat} (v w:Int) (h:o+k≤us.length):ip (ip us o k v) o k w=ip us o k w:=by
 have e1:(ip us o k v).take o=us.take o:=by
  unfold ip; rw [List.take_append_of_le_length (by simp; omega),List.take_take,Nat.min_self]
 have e2:(ip us o k v).drop (o+k)=us.drop (o+k):=by
  unfold ip
  rw [←List.append_assoc,List.drop_append,List.drop_of_length_le (by simp [Cx]; omega)]
  simp [Cx,Nat.min_eq_left (show o≤us.length by omega)]
 show (ip us o k v).take o++(dg k w++(ip us o k v).drop (o+k))=_
 rw [e1,e2]; rfl
theorem seg_ip {us:List Int} {o k:Nat} (v:Int) (h:o+k≤us.length):seg (ip us o k v) o k=dg k v:=by
 unfold seg ip
 rw [List.drop_append,List.drop_of_length_le (by rw [List.length_take]; omega),List.nil_append]
 rw [show o-(us.take o).length=0 by simp; omega,List.drop_zero,List.take_append_of_le_length (by rw [Cx]; exact Nat.le_refl _),List.take_of_length_le (by rw [Cx]; exact Nat.le_refl _)]
theorem R5:∀(k:Nat) (v:Int),nv (dg k v)=v%pw k:=by
 intro k v
 have hp:=GN k
 have h1:=Int.emod_nonneg v (show pw k≠0 by omega)
 have h2:=Int.emod_lt_of_pos v hp
 have:=KC k (v%pw k) (v/pw k)
 rw [Int.emod_add_mul_ediv] at this
 rw [this,Hd k _ h1 h2]
def qd (us:List Int) (o:Nat) (ws:List Int) (ov:Nat) (q:Int) (k:Nat):Int:=nv (seg us o k)-q*nv (seg ws ov k)
theorem QK {us ws:List Int} {o ov k:Nat} (q:Int) (h:o+k<us.length) (h':ov+k<ws.length):qd us o ws ov q (k+1)=qd us o ws ov q k+pw k*(us.getD (o+k) 0-q*ws.getD (ov+k) 0):=by
 unfold qd
 rw [Fi h,Fi h',Int.mul_add,Int.mul_sub,Int.mul_left_comm q (pw k)]; omega
def qc (ws:List Int) (ov:Nat) (q:Int) (k:Nat):Int:=q*nv (seg ws ov k)/pw k
theorem qc_succ {ws:List Int} {ov k:Nat} (q:Int) (h':ov+k<ws.length):qc ws ov q (k+1)=(qc ws ov q k+q*ws.getD (ov+k) 0)/4294967296:=by
 unfold qc
 rw [Fi h',Int.mul_add,Int.mul_left_comm q (pw k),Gm]
theorem S6 {ws:List Int} (hd:dig ws) {ov k:Nat} {q:Int} (h0:0≤q) (h:ov+k≤ws.length):0≤qc ws ov q k∧qc ws ov q k≤q:=by
 have a:=Ea (Es hd ov k)
 have b:=Gk (Es hd ov k)
 rw [Et h] at b
 have hp:=GN k
 refine ⟨Int.ediv_nonneg (Int.mul_nonneg h0 a) (by omega),?_⟩
 have:q*nv (seg ws ov k)≤q*pw k:=Int.mul_le_mul_of_nonneg_left (by omega) h0
 exact Int.le_trans (Int.ediv_le_ediv hp this) (by rw [Int.mul_ediv_cancel _ (by omega)]; exact Int.le_refl _)
theorem S5 {us ws:List Int} (hd:dig us) (hd':dig ws) {o ov k:Nat} (q:Int) (h:o+k≤us.length) (h':ov+k≤ws.length): -1≤qd us o ws ov q k/pw k+qc ws ov q k∧qd us o ws ov q k/pw k+qc ws ov q k≤0:=by
 have a:=Ea (Es hd o k)
 have b:=Gk (Es hd o k)
 rw [Et h] at b
 have hp:=GN k
 have e:=Int.mul_ediv_add_emod (q*nv (seg ws ov k)) (pw k)
 have m0:=Int.emod_nonneg (q*nv (seg ws ov k)) (show pw k≠0 by omega)
 have m1:=Int.emod_lt_of_pos (q*nv (seg ws ov k)) hp
 have hs:qd us o ws ov q k/pw k+qc ws ov q k=(nv (seg us o k)-q*nv (seg ws ov k)%pw k)/pw k:=by
  unfold qd qc
  rw [←Int.add_mul_ediv_left _ _ (show pw k≠0 by omega)]
  congr 1
  omega
 rw [hs]
 constructor
 ·exact (Int.le_ediv_iff_mul_le hp).2 (by omega)
 ·have:(nv (seg us o k)-q*nv (seg ws ov k)%pw k)/pw k<1:=Int.ediv_lt_of_lt_mul hp (by omega)
  omega
def qa (v1 v2 u2:Int):Nat→Int→Int→Int
 |0,q,_=>q
 |k+1,q,r=>if 4294967296≤q∨r*4294967296+u2<q*v2 then (if 4294967296≤r+v1 then q-1 else qa v1 v2 u2 k (q-1) (r+v1)) else q
theorem KS (v1 v2 u2:Int) (k:Nat) (q r:Int):qa v1 v2 u2 (k+1) q r=if 4294967296≤q∨r*4294967296+u2<q*v2 then (if 4294967296≤r+v1 then q-1 else qa v1 v2 u2 k (q-1) (r+v1)) else q:=rfl
theorem qa_ok {v1 v2 u2 T:Int} (h1:2147483648≤v1) (h1':v1<4294967296) (h2:0≤v2) (h2':v2<4294967296) (hu:0≤u2) (hT:T<(v1+1)*4294967296):∀(k:Nat) (q r:Int),0≤q→q≤4294967297→0≤r→r<4294967296→4294967296≤r+k*2147483648→q*v1+r=T→0≤qa v1 v2 u2 k q r∧qa v1 v2 u2 k q r<4294967296∧qa v1 v2 u2 k q r*(v1*4294967296+v2)≤T*4294967296+u2∧qa v1 v2 u2 k q r≤q
 |0,q,r,a,b,c,d,e,f=>by omega
 | k + 1,q,r,a,b,c,d,e,f=>by
  unfold qa
  have hq0:0≤q*v2:=Int.mul_nonneg a h2
  have hsp:q*(v1*4294967296+v2)=(q*v1)*4294967296+q*v2:=by rw [Int.mul_add,Int.mul_assoc]
  by_cases hc:4294967296≤q∨r*4294967296+u2<q*v2
  ·rw [if_pos hc]
   have hq1:0<q:=by
    rcases hc with hc|hc
    ·omega
    ·refine Int.lt_of_not_ge fun hz=> ?_
     have:q=0:=by omega
     subst this; omega
   have hr:(q-1)*v1+(r+v1)=T:=by rw [Int.sub_mul]; omega
   by_cases hb:4294967296≤r+v1
   ·rw [if_pos hb]
    have hlt:q-1<4294967296:=by
     refine Int.lt_of_not_ge fun hz=> ?_
     have h3:4294967296*v1≤(q-1)*v1:=Int.mul_le_mul_of_nonneg_right hz (by omega)
     rw [Int.add_mul] at hT
     omega
    refine ⟨by omega,hlt,?_,by omega⟩
    have h3:(q-1)*v2≤4294967296*4294967295:=Int.mul_le_mul (by omega) (by omega) h2 (by omega)
    have h4:(q-1)*(v1*4294967296+v2)=((q-1)*v1)*4294967296+(q-1)*v2:=by rw [Int.mul_add,Int.mul_assoc]
    omega
   ·rw [if_neg hb]
    obtain ⟨x1,x2,x3,x4⟩:=qa_ok h1 h1' h2 h2' hu hT k (q-1) (r+v1) (by omega) (by omega) (by omega) (by omega) (by rw [Int.natCast_succ,Int.add_mul] at e; omega) hr
    exact ⟨x1,x2,x3,by omega⟩
  ·rw [if_neg hc]
   exact ⟨a,by omega,by rw [hsp]; omega,Int.le_refl _⟩
theorem qa_ge {v1 v2 u2 T Q:Int} (hQ:Q<4294967296) (hQ':Q*(v1*4294967296+v2)<T*4294967296+u2+1) (hV:0≤v1*4294967296+v2):∀(k:Nat) (q r:Int),q*v1+r=T→Q≤q→Q≤qa v1 v2 u2 k q r
 |0,q,r,_,h=>h
 | k + 1,q,r,f,h=>by
  unfold qa
  have hsp:q*(v1*4294967296+v2)=(q*v1)*4294967296+q*v2:=by rw [Int.mul_add,Int.mul_assoc]
  by_cases hc:4294967296≤q∨r*4294967296+u2<q*v2
  ·rw [if_pos hc]
   have hlt:Q≤q-1:=by
    rcases hc with hc|hc
    ·omega
    ·refine Int.le_sub_one_of_lt (Int.lt_of_not_ge fun hz=> ?_)
     obtain rfl:q=Q:=by omega
     omega
   have hr:(q-1)*v1+(r+v1)=T:=by rw [Int.sub_mul]; omega
   by_cases hb:4294967296≤r+v1
   ·rw [if_pos hb]; exact hlt
   ·rw [if_neg hb]; exact qa_ge hQ hQ' hV k _ _ hr hlt
  ·rw [if_neg hc]; exact h
theorem knuth {U V P v1 v2 vl u2 T ul:Int} (hP:0<P) (h1:2147483648≤v1) (h1':v1<4294967296) (h2:0≤v2) (h2':v2<4294967296) (hu:0≤u2) (hu':u2<4294967296) (hV:V=(v1*4294967296+v2)*P+vl) (hvl:0≤vl) (hvl':vl<P) (hU:U=(T*4294967296+u2)*P+ul) (hul:0≤ul) (hul':ul<P) (hT:0≤T) (hlt:U<V*4294967296):
  U/V≤qa v1 v2 u2 2 (T/v1) (T%v1)∧qa v1 v2 u2 2 (T/v1) (T%v1)≤U/V+1∧0≤qa v1 v2 u2 2 (T/v1) (T%v1)∧qa v1 v2 u2 2 (T/v1) (T%v1)<4294967296∧T/v1≤4294967297:=by
 have hvh:0<v1*4294967296+v2:=by omega
 have hV0:(v1*4294967296+v2)*P≤V:=by omega
 have hVp:0<V:=Int.lt_of_lt_of_le (Int.mul_pos hvh hP) hV0
 have e:=Int.mul_ediv_add_emod U V
 have m0:=Int.emod_nonneg U (show V≠0 by omega)
 have hQlt:U/V<4294967296:=Int.ediv_lt_of_lt_mul hVp (by rw [Int.mul_comm]; exact hlt)
 have hU0:0≤U:=by
  have:0≤(T*4294967296+u2)*P:=Int.mul_nonneg (by omega) (by omega)
  omega
 have hQ0:0≤U/V:=Int.ediv_nonneg hU0 (by omega)
 have hQV:(U/V)*(v1*4294967296+v2)<T*4294967296+u2+1:=by
  refine Int.lt_of_mul_lt_mul_right (a:=P) ?_ (by omega)
  have:(U/V)*((v1*4294967296+v2)*P)≤(U/V)*V:=Int.mul_le_mul_of_nonneg_left hV0 hQ0
  rw [Int.mul_assoc,Int.add_mul (T*4294967296+u2),Int.one_mul]
  rw [Int.mul_comm V] at e
  omega
 have hTlt:T<(v1+1)*4294967296:=by
  refine Int.lt_of_not_ge fun hz=> ?_
  have a1:(v1+1)*4294967296*4294967296*P≤(T*4294967296+u2)*P:=Int.mul_le_mul_of_nonneg_right (by omega) (by omega)
  have a2:V<(v1+1)*4294967296*P:=by
   have:(v1*4294967296+v2+1)*P≤((v1+1)*4294967296)*P:=Int.mul_le_mul_of_nonneg_right (by omega) (by omega)
   rw [Int.add_mul (v1*4294967296+v2),Int.one_mul] at this
   omega
  have a3:(v1+1)*4294967296*4294967296*P=(v1+1)*4294967296*P*4294967296:=by rw [Int.mul_assoc _ 4294967296 P,Int.mul_comm 4294967296 P,←Int.mul_assoc]
  omega
 have r0:=Int.emod_nonneg T (show v1≠0 by omega)
 have r1:=Int.emod_lt_of_pos T (show 0<v1 by omega)
 have eT:T/v1*v1+T%v1=T:=by rw [Int.mul_comm]; exact Int.mul_ediv_add_emod _ _
 have q0:0≤T/v1:=Int.ediv_nonneg hT (by omega)
 have q1:T/v1≤4294967297:=by
  refine Int.le_of_lt_add_one (Int.ediv_lt_of_lt_mul (by omega) ?_)
  rw [Int.add_mul] at hTlt
  omega
 have hge:U/V≤T/v1:=by
  refine (Int.le_ediv_iff_mul_le (by omega)).2 ?_
  have:(U/V)*(v1*4294967296+v2)=((U/V)*v1)*4294967296+(U/V)*v2:=by rw [Int.mul_add,Int.mul_assoc]
  have:0≤(U/V)*v2:=Int.mul_nonneg hQ0 h2
  omega
 obtain ⟨x1,x2,x3,x4⟩:=qa_ok h1 h1' h2 h2' hu hTlt 2 (T/v1) (T%v1) q0 q1 r0 (by omega) (by omega) eT
 have hg:=qa_ge hQlt hQV (by omega) 2 (T/v1) (T%v1) eT hge
 refine ⟨hg,?_,x1,x2,q1⟩
 clear x4 q1 hg hge eT
 generalize qa v1 v2 u2 2 (T/v1) (T%v1)=q at*
 have b1:q*((v1*4294967296+v2)*P)≤U:=by
  have:q*(v1*4294967296+v2)*P≤(T*4294967296+u2)*P:=Int.mul_le_mul_of_nonneg_right x3 (by omega)
  rw [Int.mul_assoc] at this
  omega
 have b2:(q-1)*V≤U:=by
  have c1:q*V=q*((v1*4294967296+v2)*P)+q*vl:=by rw [hV,Int.mul_add]
  have c2:q*vl≤4294967296*P:=Int.mul_le_mul (by omega) (by omega) hvl (by omega)
  have c3:4294967296*P≤(v1*4294967296+v2)*P:=Int.mul_le_mul_of_nonneg_right (by omega) (by omega)
  rw [Int.sub_mul,Int.one_mul]
  omega
 have:=(Int.le_ediv_iff_mul_le hVp).2 b2
 omega
end Go.Proofs.YtphlckkbihmlnaaGreatDoor.G
end
section
namespace Go.Proofs.YtphlckkbihmlnaaGreatDoor.G
set_option maxRecDepth 100000
open Go Go.Proofs RX
section
variable {N:Nat→Prop} {xe:X} {Se:St} (o lu cu ov lw cw:Nat) (n q r:Int) (us:List Int) (tu:TypeId) (ws:List Int) (tw:TypeId)
abbrev dg0.st:St:=⟨gbuild [(0,.slice (some ⟨0,o,none⟩) lu cu),(1,.slice (some ⟨1,ov,none⟩) lw cw),(5,.int .i64 n),(7,.int .u64 q),(8,.int .u64 r)] 0 159,[(0,.is .u32 us tu),(1,.is .u32 ws tw)],578⟩
abbrev dg0.lk:=RX.lk [0,1,5,7,8] [0,1]
theorem dg0.rnd:rd Tryz.prog ⟨[],[],[]⟩ [] 3 (Ag Tryz.f143 0) (dg0.st o lu cu ov lw cw n q r us tu ws tw) 159 [0,1,5,7,8] [0,1]=
 bif decide (q≥4294967296) then bif decide (0≤IntKind.i64.wrap (n-1))&&decide (IntKind.i64.wrap (n-1)<((lw:Nat):Int)) then bif (ov+(IntKind.i64.wrap (n-1)).toNat*1).blt ws.length then bif decide (IntKind.u64.wrap (r+IntKind.u64.wrap (ws.getD (ov+(IntKind.i64.wrap (n-1)).toNat*1) 0))≥4294967296) then some ((X.exit 0,[Value.slice (some {block:=0,off:=o}) lu cu,Value.slice (some {block:=1,off:=ov}) lw cw,Value.int IntKind.i64 n,Value.int IntKind.u64 (IntKind.u64.wrap (q-1)),Value.int IntKind.u64 (IntKind.u64.wrap (r+IntKind.u64.wrap (ws.getD (ov+(IntKind.i64.wrap (n-1)).toNat*1) 0)))],[some (Blk.is IntKind.u32 us tu),some (Blk.is IntKind.u32 ws tw)])) else dg0.lk .normal (dg0.st o lu cu ov lw cw n (IntKind.u64.wrap (q-1)) (IntKind.u64.wrap (r+IntKind.u64.wrap (ws.getD (ov+(IntKind.i64.wrap (n-1)).toNat*1) 0))) us tu ws tw) else none else none else bif decide (0≤IntKind.i64.wrap (n-2))&&decide (IntKind.i64.wrap (n-2)<((lw:Nat):Int)) then bif (ov+(IntKind.i64.wrap (n-2)).toNat*1).blt ws.length then bif decide (0≤IntKind.i64.wrap (n-2))&&decide (IntKind.i64.wrap (n-2)<((lu:Nat):Int)) then bif (o+(IntKind.i64.wrap (n-2)).toNat*1).blt us.length then bif decide (IntKind.u64.wrap (q*IntKind.u64.wrap (ws.getD (ov+(IntKind.i64.wrap (n-2)).toNat*1) 0))>Ei BinOp.or IntKind.u64 (IntKind.u64.wrap (r*2^min (Int.toNat 32) IntKind.u64.bits)) (IntKind.u64.wrap (us.getD (o+(IntKind.i64.wrap (n-2)).toNat*1) 0))) then bif decide (0≤IntKind.i64.wrap (n-1))&&decide (IntKind.i64.wrap (n-1)<((lw:Nat):Int)) then bif (ov+(IntKind.i64.wrap (n-1)).toNat*1).blt ws.length then bif decide (IntKind.u64.wrap (r+IntKind.u64.wrap (ws.getD (ov+(IntKind.i64.wrap (n-1)).toNat*1) 0))≥4294967296) then some ((X.exit 0,[Value.slice (some {block:=0,off:=o}) lu cu,Value.slice (some {block:=1,off:=ov}) lw cw,Value.int IntKind.i64 n,Value.int IntKind.u64 (IntKind.u64.wrap (q-1)),Value.int IntKind.u64 (IntKind.u64.wrap (r+IntKind.u64.wrap (ws.getD (ov+(IntKind.i64.wrap (n-1)).toNat*1) 0)))],[some (Blk.is IntKind.u32 us tu),some (Blk.is IntKind.u32 ws tw)])) else dg0.lk .normal (dg0.st o lu cu ov lw cw n (IntKind.u64.wrap (q-1)) (IntKind.u64.wrap (r+IntKind.u64.wrap (ws.getD (ov+(IntKind.i64.wrap (n-1)).toNat*1) 0))) us tu ws tw) else none else none else some ((X.exit 0,[Value.slice (some {block:=0,off:=o}) lu cu,Value.slice (some {block:=1,off:=ov}) lw cw,Value.int IntKind.i64 n,Value.int IntKind.u64 q,Value.int IntKind.u64 r],[some (Blk.is IntKind.u32 us tu),some (Blk.is IntKind.u32 ws tw)])) else none else none else none else none:=by kernel_rfl
def dg0.stop0:=fun h0 h1 h2 h3=>Lq.stop (S2:=⟨gbuild [(0,Value.slice (some {block:=0,off:=o}) lu cu),(1,Value.slice (some {block:=1,off:=ov}) lw cw),(5,Value.int IntKind.i64 n),(7,Value.int IntKind.u64 (IntKind.u64.wrap (q-1)))] 0 159,[(0,Blk.is IntKind.u32 us tu),(1,Blk.is IntKind.u32 ws tw)],578⟩) (N:=N) (f:=3) ⟨Ac,Ai,Ad,Ah⟩ Ba (((((dg0.rnd o lu cu ov lw cw n q r us tu ws tw).ct h0).ct h1).ct h2).ct h3) (fun q=>by cases q) (fun h=>q_of (.cons ⟨rfl,(bslice (Nat.le_of_ble_eq_true rfl))⟩ (.cons ⟨rfl,(bslice (Nat.le_of_ble_eq_true rfl))⟩ (.cons ⟨rfl,bint⟩ (.cons ⟨rfl,bint⟩ .nil)))) (.cons ⟨rfl,(Nat.le_of_ble_eq_true rfl),rfl⟩ (.cons ⟨rfl,(Nat.le_of_ble_eq_true rfl),rfl⟩ .nil)))
def dg0.step1:=fun h0 h1 h2 h3 (ih:Lq Tryz.prog N (Ag Tryz.f143 0) _ xe Se)=>Lq.to (f:=3) ⟨Ac,Ai,Ad,Ah⟩ Ba (((((dg0.rnd o lu cu ov lw cw n q r us tu ws tw).ct h0).ct h1).ct h2).cf h3) rfl ih
def dg0.stop2:=fun h0 h1 h2 h3 h4 h5 h6 h7 h8=>Lq.stop (S2:=⟨gbuild [(0,Value.slice (some {block:=0,off:=o}) lu cu),(1,Value.slice (some {block:=1,off:=ov}) lw cw),(5,Value.int IntKind.i64 n),(7,Value.int IntKind.u64 (IntKind.u64.wrap (q-1)))] 0 159,[(0,Blk.is IntKind.u32 us tu),(1,Blk.is IntKind.u32 ws tw)],578⟩) (N:=N) (f:=3) ⟨Ac,Ai,Ad,Ah⟩ Ba ((((((((((dg0.rnd o lu cu ov lw cw n q r us tu ws tw).cf h0).ct h1).ct h2).ct h3).ct h4).ct h5).ct h6).ct h7).ct h8) (fun q=>by cases q) (fun h=>q_of (.cons ⟨rfl,(bslice (Nat.le_of_ble_eq_true rfl))⟩ (.cons ⟨rfl,(bslice (Nat.le_of_ble_eq_true rfl))⟩ (.cons ⟨rfl,bint⟩ (.cons ⟨rfl,bint⟩ .nil)))) (.cons ⟨rfl,(Nat.le_of_ble_eq_true rfl),rfl⟩ (.cons ⟨rfl,(Nat.le_of_ble_eq_true rfl),rfl⟩ .nil)))
def dg0.step3:=fun h0 h1 h2 h3 h4 h5 h6 h7 h8 (ih:Lq Tryz.prog N (Ag Tryz.f143 0) _ xe Se)=>Lq.to (f:=3) ⟨Ac,Ai,Ad,Ah⟩ Ba ((((((((((dg0.rnd o lu cu ov lw cw n q r us tu ws tw).cf h0).ct h1).ct h2).ct h3).ct h4).ct h5).ct h6).ct h7).cf h8) rfl ih
def dg0.stop4:=fun h0 h1 h2 h3 h4 h5=>Lq.stop (S2:=⟨gbuild [(0,Value.slice (some {block:=0,off:=o}) lu cu),(1,Value.slice (some {block:=1,off:=ov}) lw cw),(5,Value.int IntKind.i64 n),(7,Value.int IntKind.u64 q)] 0 159,[(0,Blk.is IntKind.u32 us tu),(1,Blk.is IntKind.u32 ws tw)],578⟩) (N:=N) (f:=3) ⟨Ac,Ai,Ad,Ah⟩ Ba (((((((dg0.rnd o lu cu ov lw cw n q r us tu ws tw).cf h0).ct h1).ct h2).ct h3).ct h4).cf h5) (fun q=>by cases q) (fun h=>q_of (.cons ⟨rfl,(bslice (Nat.le_of_ble_eq_true rfl))⟩ (.cons ⟨rfl,(bslice (Nat.le_of_ble_eq_true rfl))⟩ (.cons ⟨rfl,bint⟩ (.cons ⟨rfl,bint⟩ .nil)))) (.cons ⟨rfl,(Nat.le_of_ble_eq_true rfl),rfl⟩ (.cons ⟨rfl,(Nat.le_of_ble_eq_true rfl),rfl⟩ .nil)))
end
section
variable {N:Nat→Prop} {xe:X} {Se:St} (o lu cu op lp cp:Nat) (n q c b:Int) (ov lw cw:Nat) (z i:Int) (us:List Int) (tu:TypeId) (ws:List Int) (tw:TypeId) (nx:Nat)
abbrev dg1.st:St:=⟨gbuild [(0,.slice (some ⟨0,o,none⟩) lu cu),(1,.slice (some ⟨1,op,none⟩) lp cp),(5,.int .i64 n),(7,.int .u64 q),(9,.int .u64 c),(10,.int .u32 b),(81,.slice (some ⟨1,ov,none⟩) lw cw),(82,.int .i64 z),(83,.int .i64 i)] 0 159,[(0,.is .u32 us tu),(1,.is .u32 ws tw)],nx⟩
abbrev dg1.lk:=RX.lk [0,1,5,7,9,10,81,82,83] [0,1]
theorem dg1.rnd:rd Tryz.prog ⟨[],[(137,Tryz.f137)],[]⟩ [] 5 (Ag Tryz.f143 2) (dg1.st o lu cu op lp cp n q c b ov lw cw z i us tu ws tw nx) 159 [0,1,5,7,9,10,81,82,83] [0,1]=
 bif decide (i<z) then bif decide (0≤i)&&decide (i<((lw:Nat):Int)) then bif (ov+i.toNat*1).blt ws.length then bif decide (0≤i)&&decide (i<((lu:Nat):Int)) then bif (o+i.toNat*1).blt us.length then bif decide (0≤i)&&decide (i<((lu:Nat):Int)) then bif (o+i.toNat*1).blt us.length then dg1.lk .normal (dg1.st o lu cu op lp cp n q ((IntKind.u64.wrap (c+IntKind.u64.wrap (q*IntKind.u64.wrap (ws.getD (ov+i.toNat*1) 0)))).fdiv (2^min (Int.toNat 32) IntKind.u64.bits)) ((Ei BinOp.or IntKind.u32 (Ei BinOp.and IntKind.u32 (Ei BinOp.xor IntKind.u32 (if IntKind.u32.signed=true then -1 else IntKind.u32.max) (us.getD (o+i.toNat*1) 0)) (IntKind.u32.wrap (IntKind.u64.wrap (c+IntKind.u64.wrap (q*IntKind.u64.wrap (ws.getD (ov+i.toNat*1) 0)))))) (Ei BinOp.and IntKind.u32 (Ei BinOp.xor IntKind.u32 (if IntKind.u32.signed=true then -1 else IntKind.u32.max) (Ei BinOp.xor IntKind.u32 (us.getD (o+i.toNat*1) 0) (IntKind.u32.wrap (IntKind.u64.wrap (c+IntKind.u64.wrap (q*IntKind.u64.wrap (ws.getD (ov+i.toNat*1) 0))))))) (IntKind.u32.wrap (IntKind.u32.wrap (us.getD (o+i.toNat*1) 0-IntKind.u32.wrap (IntKind.u64.wrap (c+IntKind.u64.wrap (q*IntKind.u64.wrap (ws.getD (ov+i.toNat*1) 0)))))-b)))).fdiv (2^min (Int.toNat 31) IntKind.u32.bits)) ov lw cw z (IntKind.i64.wrap (i+1)) (us.set (o+i.toNat*1) (IntKind.u32.wrap (IntKind.u32.wrap (us.getD (o+i.toNat*1) 0-IntKind.u32.wrap (IntKind.u64.wrap (c+IntKind.u64.wrap (q*IntKind.u64.wrap (ws.getD (ov+i.toNat*1) 0)))))-b))) tu ws tw nx) else none else none else none else none else none else none else dg1.lk (.exit 2) (dg1.st o lu cu op lp cp n q c b ov lw cw z i us tu ws tw nx):=by kernel_rfl
def dg1.step0:=fun h0 h1 h2 h3 h4 h5 h6 (ih:Lq Tryz.prog N (Ag Tryz.f143 2) _ xe Se)=>Lq.toK (f:=5) ⟨Ac,Ex ⟨Tryz.func137,by decide,rfl⟩ Ai,Ad,Ah⟩ Ba ((((((((dg1.rnd o lu cu op lp cp n q c b ov lw cw z i us tu ws tw nx).ct h0).ct h1).ct h2).ct h3).ct h4).ct h5).ct h6) rfl rfl ih
def dg1.stop1:=fun h0=>Lq.endK (N:=N) (f:=5) ⟨Ac,Ex ⟨Tryz.func137,by decide,rfl⟩ Ai,Ad,Ah⟩ Ba ((dg1.rnd o lu cu op lp cp n q c b ov lw cw z i us tu ws tw nx).cf h0) (fun q=>by cases q) rfl rfl
end
section
variable {N:Nat→Prop} {xe:X} {Se:St} (o lu cu:Nat) (n q b:Int) (ov lw cw:Nat) (z i:Int) (us:List Int) (tu:TypeId) (ws:List Int) (tw:TypeId) (nx:Nat)
abbrev dg2.st:St:=⟨gbuild [(0,.slice (some ⟨0,o,none⟩) lu cu),(5,.int .i64 n),(7,.int .u64 q),(13,.int .u32 b),(129,.slice (some ⟨1,ov,none⟩) lw cw),(130,.int .i64 z),(131,.int .i64 i)] 0 159,[(0,.is .u32 us tu),(1,.is .u32 ws tw)],nx⟩
abbrev dg2.lk:=RX.lk [0,5,7,13,129,130,131] [0,1]
theorem dg2.rnd:rd Tryz.prog ⟨[],[(136,Tryz.f136)],[]⟩ [] 5 (Ag Tryz.f143 4) (dg2.st o lu cu n q b ov lw cw z i us tu ws tw nx) 159 [0,5,7,13,129,130,131] [0,1]=
 bif decide (i<z) then bif decide (0≤i)&&decide (i<((lw:Nat):Int)) then bif (ov+i.toNat*1).blt ws.length then bif decide (0≤i)&&decide (i<((lu:Nat):Int)) then bif (o+i.toNat*1).blt us.length then bif decide (0≤i)&&decide (i<((lu:Nat):Int)) then bif (o+i.toNat*1).blt us.length then dg2.lk .normal (dg2.st o lu cu n q (IntKind.u32.wrap ((IntKind.u64.wrap (IntKind.u64.wrap (IntKind.u64.wrap (us.getD (o+i.toNat*1) 0)+IntKind.u64.wrap (ws.getD (ov+i.toNat*1) 0))+IntKind.u64.wrap b)).fdiv (2^min (Int.toNat 32) IntKind.u64.bits))) ov lw cw z (IntKind.i64.wrap (i+1)) (us.set (o+i.toNat*1) (IntKind.u32.wrap (IntKind.u64.wrap (IntKind.u64.wrap (IntKind.u64.wrap (us.getD (o+i.toNat*1) 0)+IntKind.u64.wrap (ws.getD (ov+i.toNat*1) 0))+IntKind.u64.wrap b)))) tu ws tw nx) else none else none else none else none else none else none else dg2.lk (.exit 4) (dg2.st o lu cu n q b ov lw cw z i us tu ws tw nx):=by kernel_rfl
def dg2.step0:=fun h0 h1 h2 h3 h4 h5 h6 (ih:Lq Tryz.prog N (Ag Tryz.f143 4) _ xe Se)=>Lq.toK (f:=5) ⟨Ac,Ex ⟨Tryz.func136,by decide,rfl⟩ Ai,Ad,Ah⟩ Ba ((((((((dg2.rnd o lu cu n q b ov lw cw z i us tu ws tw nx).ct h0).ct h1).ct h2).ct h3).ct h4).ct h5).ct h6) rfl rfl ih
def dg2.stop1:=fun h0=>Lq.endK (N:=N) (f:=5) ⟨Ac,Ex ⟨Tryz.func136,by decide,rfl⟩ Ai,Ad,Ah⟩ Ba ((dg2.rnd o lu cu n q b ov lw cw z i us tu ws tw nx).cf h0) (fun q=>by cases q) rfl rfl
end
abbrev qa2 (us:List Int) (o:Nat) (ws:List Int) (ov lw:Nat) (k:Nat) (q r:Int):Int:=qa (ws.getD (ov+(lw-1)) 0) (ws.getD (ov+(lw-2)) 0) (us.getD (o+(lw-2)) 0) k q r
abbrev dg0.fin (o lu cu ov lw cw:Nat) (n q:Int) (us:List Int) (tu:TypeId) (ws:List Int) (tw:TypeId):St:=⟨gbuild [(0,Value.slice (some {block:=0,off:=o}) lu cu),(1,Value.slice (some {block:=1,off:=ov}) lw cw),(5,Value.int IntKind.i64 n),(7,Value.int IntKind.u64 q)] 0 159,[(0,Blk.is IntKind.u32 us tu),(1,Blk.is IntKind.u32 ws tw)],578⟩
def dg0.ok (o lu ov lw:Nat) (n q r:Int) (us ws:List Int):Bool:=decide (n=(lw:Int))&&(Nat.ble 2 lw&&(Nat.ble (lw+1) lu&&(Dl o lu us&&(Dl ov lw ws&&(decide (2147483648≤ws.getD (ov+(lw-1)) 0)&&(decide (0≤q)&&(decide (q≤4294967297)&&(decide (0≤r)&&decide (r<4294967296)))))))))
def dg0.lt (o lu cu ov lw cw:Nat) (n q r:Int) (us:List Int) (tu:TypeId) (ws:List Int) (tw:TypeId):LT:= .got (dg0.ok o lu ov lw n q r us ws) (.exit 0) (dg0.fin o lu cu ov lw cw n (qa2 us o ws ov lw 2 q r) us tu ws tw)
theorem dg0.go {N:Nat→Prop} (o lu cu ov lw cw:Nat) (us:List Int) (tu:TypeId) (ws:List Int) (tw:TypeId) (hn:2≤lw) (hl:lw+1≤lu) (h1:o+lu≤us.length) (h2:ov+lw≤ws.length) (hb:lw≤4294967296) (hx:dig us) (hy:dig ws) (hv:2147483648≤ws.getD (ov+(lw-1)) 0):∀(k:Nat) (q r:Int),0≤q→q≤4294967297→0≤r→r<4294967296→4294967296≤r+k*2147483648→Lq Tryz.prog N (Ag Tryz.f143 0) (dg0.st o lu cu ov lw cw (lw:Int) q r us tu ws tw) (.exit 0) (dg0.fin o lu cu ov lw cw (lw:Int) (qa2 us o ws ov lw k q r) us tu ws tw)
 |0,q,r,a,b,c,d,e=>by omega
 | k + 1,q,r,a,b,c,d,e=>by
  have w1:IntKind.i64.wrap ((lw:Int)-1)=((lw-1:Nat):Int):=by rw [w64 (by omega) (by omega)]; omega
  have w2:IntKind.i64.wrap ((lw:Int)-2)=((lw-2:Nat):Int):=by rw [w64 (by omega) (by omega)]; omega
  have e1:ov+(((lw-1:Nat):Int)).toNat*1=ov+(lw-1):=by simp
  have e2:ov+(((lw-2:Nat):Int)).toNat*1=ov+(lw-2):=by simp
  have e3:o+(((lw-2:Nat):Int)).toNat*1=o+(lw-2):=by simp
  have V1:=Ev hy (ov+(lw-1))
  have V2:=Ev hy (ov+(lw-2))
  have U2:=Ev hx (o+(lw-2))
  have c1:(decide (0≤IntKind.i64.wrap ((lw:Int)-1))&&decide (IntKind.i64.wrap ((lw:Int)-1)<((lw:Nat):Int)))=true:=by rw [w1]; exact dtrue2 (by omega) (by omega)
  have c2:((ov+(IntKind.i64.wrap ((lw:Int)-1)).toNat*1).blt ws.length)=true:=by rw [w1,e1]; exact Eu (by omega)
  have c3:(decide (0≤IntKind.i64.wrap ((lw:Int)-2))&&decide (IntKind.i64.wrap ((lw:Int)-2)<((lw:Nat):Int)))=true:=by rw [w2]; exact dtrue2 (by omega) (by omega)
  have c4:((ov+(IntKind.i64.wrap ((lw:Int)-2)).toNat*1).blt ws.length)=true:=by rw [w2,e2]; exact Eu (by omega)
  have c5:(decide (0≤IntKind.i64.wrap ((lw:Int)-2))&&decide (IntKind.i64.wrap ((lw:Int)-2)<((lu:Nat):Int)))=true:=by rw [w2]; exact dtrue2 (by omega) (by omega)
  have c6:((o+(IntKind.i64.wrap ((lw:Int)-2)).toNat*1).blt us.length)=true:=by rw [w2,e3]; exact Eu (by omega)
  have hq0:0≤q*ws.getD (ov+(lw-2)) 0:=Int.mul_nonneg a V2.1
  have er:IntKind.u64.wrap (r+IntKind.u64.wrap (ws.getD (ov+(IntKind.i64.wrap ((lw:Int)-1)).toNat*1) 0))=r+ws.getD (ov+(lw-1)) 0:=by
   rw [w1,e1,u64of (n:=ws.getD (ov+(lw-1)) 0) V1.1 (by omega),u64of (by omega) (by omega)]
  by_cases k1:4294967296≤q
  ·have eq:IntKind.u64.wrap (q-1)=q-1:=u64of (by omega) (by omega)
   by_cases k2:4294967296≤r+ws.getD (ov+(lw-1)) 0
   ·have:=dg0.stop0 (N:=N) o lu cu ov lw cw (lw:Int) q r us tu ws tw (dtrue k1) c1 c2 (by rw [er]; exact dtrue k2)
    rw [eq] at this
    have hqa:qa2 us o ws ov lw (k+1) q r=q-1:=by show qa _ _ _ (k+1) q r=_; rw [KS,if_pos (Or.inl k1),if_pos k2]
    rw [hqa]; exact this
   ·refine dg0.step1 (N:=N) o lu cu ov lw cw (lw:Int) q r us tu ws tw (dtrue k1) c1 c2 (by rw [er]; exact dfalse k2) ?_
    have hqa:qa2 us o ws ov lw (k+1) q r=qa2 us o ws ov lw k (q-1) (r+ws.getD (ov+(lw-1)) 0):=by show qa _ _ _ (k+1) q r=_; rw [KS,if_pos (Or.inl k1),if_neg k2]
    rw [hqa,er,eq]
    exact dg0.go o lu cu ov lw cw us tu ws tw hn hl h1 h2 hb hx hy hv k _ _ (by omega) (by omega) (by omega) (by omega) (by rw [Int.natCast_succ,Int.add_mul] at e; omega)
  ·have hqm:q*ws.getD (ov+(lw-2)) 0≤4294967295*4294967295:=Int.mul_le_mul (by omega) (by omega) V2.1 (by omega)
   have em:IntKind.u64.wrap (q*IntKind.u64.wrap (ws.getD (ov+(IntKind.i64.wrap ((lw:Int)-2)).toNat*1) 0))=q*ws.getD (ov+(lw-2)) 0:=by
    rw [w2,e2,u64of (n:=ws.getD (ov+(lw-2)) 0) V2.1 (by omega),u64of hq0 (by omega)]
   have eo:Ei BinOp.or IntKind.u64 (IntKind.u64.wrap (r*2^min (Int.toNat 32) IntKind.u64.bits)) (IntKind.u64.wrap (us.getD (o+(IntKind.i64.wrap ((lw:Int)-2)).toNat*1) 0))=us.getD (o+(lw-2)) 0+4294967296*r:=by
    rw [w2,e3]; exact Oa U2.1 U2.2 c d
   by_cases k3:r*4294967296+us.getD (o+(lw-2)) 0<q*ws.getD (ov+(lw-2)) 0
   ·have hq1:0<q:=by
     refine Int.lt_of_not_ge fun hz=> ?_
     have:q=0:=by omega
     subst this; omega
    have eq:IntKind.u64.wrap (q-1)=q-1:=u64of (by omega) (by omega)
    have cc:(decide (IntKind.u64.wrap (q*IntKind.u64.wrap (ws.getD (ov+(IntKind.i64.wrap ((lw:Int)-2)).toNat*1) 0))>Ei BinOp.or IntKind.u64 (IntKind.u64.wrap (r*2^min (Int.toNat 32) IntKind.u64.bits)) (IntKind.u64.wrap (us.getD (o+(IntKind.i64.wrap ((lw:Int)-2)).toNat*1) 0))))=true:=by rw [em,eo]; exact dtrue (by omega)
    by_cases k2:4294967296≤r+ws.getD (ov+(lw-1)) 0
    ·have:=dg0.stop2 (N:=N) o lu cu ov lw cw (lw:Int) q r us tu ws tw (dfalse k1) c3 c4 c5 c6 cc c1 c2 (by rw [er]; exact dtrue k2)
     rw [eq] at this
     have hqa:qa2 us o ws ov lw (k+1) q r=q-1:=by show qa _ _ _ (k+1) q r=_; rw [KS,if_pos (Or.inr k3),if_pos k2]
     rw [hqa]; exact this
    ·refine dg0.step3 (N:=N) o lu cu ov lw cw (lw:Int) q r us tu ws tw (dfalse k1) c3 c4 c5 c6 cc c1 c2 (by rw [er]; exact dfalse k2) ?_
     have hqa:qa2 us o ws ov lw (k+1) q r=qa2 us o ws ov lw k (q-1) (r+ws.getD (ov+(lw-1)) 0):=by show qa _ _ _ (k+1) q r=_; rw [KS,if_pos (Or.inr k3),if_neg k2]
     rw [hqa,er,eq]
     exact dg0.go o lu cu ov lw cw us tu ws tw hn hl h1 h2 hb hx hy hv k _ _ (by omega) (by omega) (by omega) (by omega) (by rw [Int.natCast_succ,Int.add_mul] at e; omega)
   ·have:=dg0.stop4 (N:=N) o lu cu ov lw cw (lw:Int) q r us tu ws tw (dfalse k1) c3 c4 c5 c6 (by rw [em,eo]; exact dfalse (by omega))
    have hqa:qa2 us o ws ov lw (k+1) q r=q:=by show qa _ _ _ (k+1) q r=_; rw [KS,if_neg (fun h=>h.elim k1 k3)]
    rw [hqa]; exact this
theorem dg0.lp {N:Nat→Prop} (o lu cu ov lw cw:Nat) (n q r:Int) (us:List Int) (tu:TypeId) (ws:List Int) (tw:TypeId) {x:X} {S':St} (h:(dg0.lt o lu cu ov lw cw n q r us tu ws tw).at=some (x,S')):Lq Tryz.prog N (Ag Tryz.f143 0) (dg0.st o lu cu ov lw cw n q r us tu ws tw) x S':=by
 obtain ⟨h1,rfl,rfl⟩:=Fk h
 simp only [dg0.ok,Bool.and_eq_true,Nat.ble_eq,decide_eq_true_eq,Eb] at h1
 obtain ⟨rfl,h2,h3,⟨h4,h5,h6⟩,⟨h7,h8,h9⟩,h10,a,b,c,d⟩:=h1
 exact dg0.go o lu cu ov lw cw us tu ws tw h2 h3 h4 h7 h8 h6 h9 h10 2 q r a b c d (by omega)
def dg0.t:LSpec:=fun S=>match RX.nth S.tmps 0,RX.nth S.tmps 1,RX.nth S.tmps 5,RX.nth S.tmps 7,RX.nth S.tmps 8,RX.look S.heap 0,RX.look S.heap 1,S.nxt with
 | .slice (some ⟨0,o,none⟩) lu cu,.slice (some ⟨1,ov,none⟩) lw cw,.int .i64 n,.int .u64 q,.int .u64 r,some (.is .u32 us tu),some (.is .u32 ws tw),578=>bif Nat.beq S.tmps.length 159 then some (dg0.lt o lu cu ov lw cw n q r us tu ws tw) else none
 |_,_,_,_,_,_,_,_=>none
theorem dg0.lok {N:Nat→Prop} :LOKn Tryz.prog N (Ag Tryz.f143 0) (dg0.t):=by
 refine GO fun S lt x S' ht hat=> ?_
 unfold dg0.t at ht
 split at ht
 ·rename_i o lu cu ov lw cw n q r us tu ws tw h0 h1 h5 h7 h8 g0 g1 hnx
  cases hb:Nat.beq S.tmps.length 159 with
  |false=>rw [hb] at ht; cases ht
  | true=>
   rw [hb] at ht
   injection ht with ht
   subst ht
   have hb:=Nat.eq_of_beq_eq_true hb
   obtain ⟨T,H,_⟩:=S
   subst hnx
   exact .enter (fun h=>Gc hb (.cons ⟨h0,bnth h h0⟩ (.cons ⟨h1,bnth h h1⟩ (.cons ⟨h5,bnth h h5⟩ (.cons ⟨h7,bnth h h7⟩ (.cons ⟨h8,bnth h h8⟩ .nil))))) (.cons ⟨g0,bname h g0,rfl⟩ (.cons ⟨g1,bname h g1,rfl⟩ .nil))) (dg0.lp _ _ _ _ _ _ _ _ _ _ _ _ _ hat)
 ·cases ht
def dg1.ok (o lu ov lw:Nat) (q c b z i:Int) (us ws:List Int):Bool:=decide (i=0)&&(decide (z=(lw:Int))&&(decide (c=0)&&(decide (b=0)&&(decide (0≤q)&&(decide (q<4294967296)&&(Nat.ble lw lu&&(Dl o lu us&&Dl ov lw ws)))))))
def dg1.lt (o lu cu op lp cp:Nat) (n q c b:Int) (ov lw cw:Nat) (z i:Int) (us:List Int) (tu:TypeId) (ws:List Int) (tw:TypeId) (nx:Nat):LT:= .got (dg1.ok o lu ov lw q c b z i us ws) (.exit 2) (dg1.st o lu cu op lp cp n q (qc ws ov q lw) (-(qd us o ws ov q lw/pw lw+qc ws ov q lw)) ov lw cw z z (ip us o lw (qd us o ws ov q lw)) tu ws tw nx)
theorem dg1.go {N:Nat→Prop} (o lu cu op lp cp:Nat) (n q:Int) (ov lw cw:Nat) (us:List Int) (tu:TypeId) (ws:List Int) (tw:TypeId) (nx:Nat) (h1:o+lu≤us.length) (h2:ov+lw≤ws.length) (hl:lw≤lu) (hb:lw≤4294967296) (hx:dig us) (hy:dig ws) (q0:0≤q) (q1:q<4294967296):∀(j k:Nat),k+j=lw→Lq Tryz.prog N (Ag Tryz.f143 2) (dg1.st o lu cu op lp cp n q (qc ws ov q k) (-(qd us o ws ov q k/pw k+qc ws ov q k)) ov lw cw (lw:Int) (k:Int) (ip us o k (qd us o ws ov q k)) tu ws tw nx) (.exit 2) (dg1.st o lu cu op lp cp n q (qc ws ov q lw) (-(qd us o ws ov q lw/pw lw+qc ws ov q lw)) ov lw cw (lw:Int) (lw:Int) (ip us o lw (qd us o ws ov q lw)) tu ws tw nx)
 | 0,k,h=>by
  obtain rfl:k=lw:=by omega
  exact dg1.stop1 _ _ _ _ _ _ _ _ _ _ _ _ _ _ _ _ _ _ _ _ (dfalse (by omega))
 | j +1,k,h=>by
  have e1:IntKind.i64.wrap ((k:Int)+1)=((k+1:Nat):Int):=by rw [w64 (by omega) (by omega)]; omega
  have ea:o+((k:Int)).toNat*1=o+k:=by simp
  have eb:ov+((k:Int)).toNat*1=ov+k:=by simp
  have hX:=Ev hx (o+k)
  have hY:=Ev hy (ov+k)
  have hC:=S6 hy q0 (show ov+k≤ws.length by omega)
  have hB:=S5 hx hy q (show o+k≤us.length by omega) (show ov+k≤ws.length by omega)
  have hs:=QK q (show o+k<us.length by omega) (show ov+k<ws.length by omega)
  have hcs:=qc_succ q (show ov+k<ws.length by omega)
  have ih:=dg1.go (N:=N) o lu cu op lp cp n q ov lw cw us tu ws tw nx h1 h2 hl hb hx hy q0 q1 j (k+1) (by omega)
  have hg:(ip us o k (qd us o ws ov q k)).getD (o+k) 0=us.getD (o+k) 0:=LF _ (by omega) (Nat.le_refl _)
  have hlen:=I4 (qd us o ws ov q k) (show o+k≤us.length by omega)
  rw [hs,hcs,Gm,←MZ (by omega)] at ih
  have m0:0≤q*ws.getD (ov+k) 0:=Int.mul_nonneg q0 hY.1
  have m1:q*ws.getD (ov+k) 0≤4294967295*4294967295:=Int.mul_le_mul (by omega) (by omega) hY.1 (by omega)
  refine dg1.step0 _ _ _ _ _ _ _ _ _ _ _ _ _ _ _ _ _ _ _ _ (dtrue (by omega)) (dtrue2 (by omega) (by omega)) (by rw [eb]; exact Eu (by omega)) (dtrue2 (by omega) (by omega)) (by rw [ea,hlen]; exact Eu (by omega)) (dtrue2 (by omega) (by omega)) (by rw [ea,hlen]; exact Eu (by omega)) ?_
  rw [ea,eb,e1,hg]
  generalize qc ws ov q k=c at*
  generalize qd us o ws ov q k/pw k=d at*
  generalize us.getD (o+k) 0=u at*
  have e2:IntKind.u64.wrap (c+IntKind.u64.wrap (q*IntKind.u64.wrap (ws.getD (ov+k) 0)))=c+q*ws.getD (ov+k) 0:=by
   rw [u64of (n:=ws.getD (ov+k) 0) hY.1 (by omega),u64of (n:=q*ws.getD (ov+k) 0) m0 (by omega),u64of (by omega) (by omega)]
  rw [e2]
  generalize hm:q*ws.getD (ov+k) 0=m at*
  have e3:IntKind.u32.wrap (c+m)=(c+m)%4294967296:=wu32 _
  have e4:(c+m).fdiv (2^min (Int.toNat 32) IntKind.u64.bits)=(c+m)/4294967296:=by
   rw [Int.fdiv_eq_ediv_of_nonneg _ (by decide),show ((2:Int)^min (Int.toNat 32) IntKind.u64.bits)=4294967296 from rfl]
  rw [e3,e4,borrow hX.1 hX.2 (by omega) (by omega) (by omega) (by omega),Lh]
  rw [show -((u-(c+m)%4294967296- -(d+c))/4294967296)= -((d+(u-m))/4294967296+(c+m)/4294967296) by omega]
  rw [show (-(-(d+c))+(u-(c+m)%4294967296))%4294967296=(d+(u-m))%4294967296 by omega]
  exact ih
theorem dg1.lp {N:Nat→Prop} (o lu cu op lp cp:Nat) (n q c b:Int) (ov lw cw:Nat) (z i:Int) (us:List Int) (tu:TypeId) (ws:List Int) (tw:TypeId) (nx:Nat) {x:X} {S':St} (h:(dg1.lt o lu cu op lp cp n q c b ov lw cw z i us tu ws tw nx).at=some (x,S')):Lq Tryz.prog N (Ag Tryz.f143 2) (dg1.st o lu cu op lp cp n q c b ov lw cw z i us tu ws tw nx) x S':=by
 obtain ⟨h1,rfl,rfl⟩:=Fk h
 simp only [dg1.ok,Bool.and_eq_true,Nat.ble_eq,decide_eq_true_eq,Eb] at h1
 obtain ⟨rfl,rfl,rfl,rfl,h5,h6,h7,⟨h8,h9,h10⟩,h11,h12,h13⟩:=h1
 have e:qc ws ov q 0=0:=by simp [qc,Gh,nv]
 have e': -(qd us o ws ov q 0/pw 0+qc ws ov q 0)=0:=by simp [qd,qc,Gh,nv]
 have:=dg1.go (N:=N) o lu cu op lp cp n q ov lw cw us tu ws tw nx h8 h11 h7 h12 h10 h13 h5 h6 lw 0 (by omega)
 rw [e',e,Ns] at this
 exact this
def dg1.t:LSpec:=fun S=>match RX.nth S.tmps 0,RX.nth S.tmps 1,RX.nth S.tmps 5,RX.nth S.tmps 7,RX.nth S.tmps 9,RX.nth S.tmps 10,RX.nth S.tmps 81,RX.nth S.tmps 82,RX.nth S.tmps 83,RX.look S.heap 0,RX.look S.heap 1 with
 | .slice (some ⟨0,o,none⟩) lu cu,.slice (some ⟨1,op,none⟩) lp cp,.int .i64 n,.int .u64 q,.int .u64 c,.int .u32 b,.slice (some ⟨1,ov,none⟩) lw cw,.int .i64 z,.int .i64 i,some (.is .u32 us tu),some (.is .u32 ws tw)=>bif Nat.beq S.tmps.length 159 then some (dg1.lt o lu cu op lp cp n q c b ov lw cw z i us tu ws tw S.nxt) else none
 |_,_,_,_,_,_,_,_,_,_,_=>none
theorem dg1.lok {N:Nat→Prop} :LOKn Tryz.prog N (Ag Tryz.f143 2) (dg1.t):=by
 refine GO fun S lt x S' ht hat=> ?_
 unfold dg1.t at ht
 split at ht
 ·rename_i o lu cu op lp cp n q c b ov lw cw z i us tu ws tw h0 h1 h5 h7 h9 h10 h81 h82 h83 g0 g1
  cases hb:Nat.beq S.tmps.length 159 with
  |false=>rw [hb] at ht; cases ht
  | true=>
   rw [hb] at ht
   injection ht with ht
   subst ht
   have hb:=Nat.eq_of_beq_eq_true hb
   exact .enter (fun h=>Gc hb (.cons ⟨h0,bnth h h0⟩ (.cons ⟨h1,bnth h h1⟩ (.cons ⟨h5,bnth h h5⟩ (.cons ⟨h7,bnth h h7⟩ (.cons ⟨h9,bnth h h9⟩ (.cons ⟨h10,bnth h h10⟩ (.cons ⟨h81,bnth h h81⟩ (.cons ⟨h82,bnth h h82⟩ (.cons ⟨h83,bnth h h83⟩ .nil))))))))) (.cons ⟨g0,bname h g0,rfl⟩ (.cons ⟨g1,bname h g1,rfl⟩ .nil))) (dg1.lp _ _ _ _ _ _ _ _ _ _ _ _ _ _ _ _ _ _ _ _ hat)
 ·cases ht
def dg2.ok (o lu ov lw:Nat) (b z i:Int) (us ws:List Int):Bool:=decide (i=0)&&(decide (z=(lw:Int))&&(decide (b=0)&&(Nat.ble lw lu&&(Dl o lu us&&Dl ov lw ws))))
def dg2.lt (o lu cu:Nat) (n q b:Int) (ov lw cw:Nat) (z i:Int) (us:List Int) (tu:TypeId) (ws:List Int) (tw:TypeId) (nx:Nat):LT:= .got (dg2.ok o lu ov lw b z i us ws) (.exit 4) (dg2.st o lu cu n q (qd us o ws ov (-1) lw/pw lw) ov lw cw z z (ip us o lw (qd us o ws ov (-1) lw)) tu ws tw nx)
theorem qs_bnd {us ws:List Int} (hd:dig us) (hd':dig ws) {o ov k:Nat} (h:o+k≤us.length) (h':ov+k≤ws.length):0≤qd us o ws ov (-1) k/pw k∧qd us o ws ov (-1) k/pw k≤1:=by
 have a:=Ea (Es hd o k)
 have b:=Gk (Es hd o k)
 have a':=Ea (Es hd' ov k)
 have b':=Gk (Es hd' ov k)
 rw [Et h] at b
 rw [Et h'] at b'
 have hp:=GN k
 unfold qd
 constructor
 ·exact Int.ediv_nonneg (by omega) (by omega)
 ·exact Int.le_of_lt_add_one (Int.ediv_lt_of_lt_mul hp (by omega))
theorem dg2.go {N:Nat→Prop} (o lu cu:Nat) (n q:Int) (ov lw cw:Nat) (us:List Int) (tu:TypeId) (ws:List Int) (tw:TypeId) (nx:Nat) (h1:o+lu≤us.length) (h2:ov+lw≤ws.length) (hl:lw≤lu) (hb:lw≤4294967296) (hx:dig us) (hy:dig ws):∀(j k:Nat),k+j=lw→Lq Tryz.prog N (Ag Tryz.f143 4) (dg2.st o lu cu n q (qd us o ws ov (-1) k/pw k) ov lw cw (lw:Int) (k:Int) (ip us o k (qd us o ws ov (-1) k)) tu ws tw nx) (.exit 4) (dg2.st o lu cu n q (qd us o ws ov (-1) lw/pw lw) ov lw cw (lw:Int) (lw:Int) (ip us o lw (qd us o ws ov (-1) lw)) tu ws tw nx)
 | 0,k,h=>by
  obtain rfl:k=lw:=by omega
  exact dg2.stop1 _ _ _ _ _ _ _ _ _ _ _ _ _ _ _ _ (dfalse (by omega))
 | j+1,k,h=>by
  have e1:IntKind.i64.wrap ((k:Int)+1)=((k+1:Nat):Int):=by rw [w64 (by omega) (by omega)]; omega
  have ea:o+((k:Int)).toNat*1=o+k:=by simp
  have eb:ov+((k:Int)).toNat*1=ov+k:=by simp
  have hX:=Ev hx (o+k)
  have hY:=Ev hy (ov+k)
  have hB:=qs_bnd hx hy (show o+k≤us.length by omega) (show ov+k≤ws.length by omega)
  have hs:=QK (-1) (show o+k<us.length by omega) (show ov+k<ws.length by omega)
  have ih:=dg2.go (N:=N) o lu cu n q ov lw cw us tu ws tw nx h1 h2 hl hb hx hy j (k+1) (by omega)
  have hg:(ip us o k (qd us o ws ov (-1) k)).getD (o+k) 0=us.getD (o+k) 0:=LF _ (by omega) (Nat.le_refl _)
  have hlen:=I4 (qd us o ws ov (-1) k) (show o+k≤us.length by omega)
  rw [hs,Gm,←MZ (by omega)] at ih
  refine dg2.step0 _ _ _ _ _ _ _ _ _ _ _ _ _ _ _ _ (dtrue (by omega)) (dtrue2 (by omega) (by omega)) (by rw [eb]; exact Eu (by omega)) (dtrue2 (by omega) (by omega)) (by rw [ea,hlen]; exact Eu (by omega)) (dtrue2 (by omega) (by omega)) (by rw [ea,hlen]; exact Eu (by omega)) ?_
  rw [ea,eb,e1,hg,IO hX.1 hX.2 hY.1 hY.2 hB.1 hB.2,JR (by omega) (by omega),wu32]
  rw [show us.getD (o+k) 0+ws.getD (ov+k) 0+qd us o ws ov (-1) k/pw k=qd us o ws ov (-1) k/pw k+(us.getD (o+k) 0- -1*ws.getD (ov+k) 0) by omega]
  exact ih
theorem dg2.lp {N:Nat→Prop} (o lu cu:Nat) (n q b:Int) (ov lw cw:Nat) (z i:Int) (us:List Int) (tu:TypeId) (ws:List Int) (tw:TypeId) (nx:Nat) {x:X} {S':St} (h:(dg2.lt o lu cu n q b ov lw cw z i us tu ws tw nx).at=some (x,S')):Lq Tryz.prog N (Ag Tryz.f143 4) (dg2.st o lu cu n q b ov lw cw z i us tu ws tw nx) x S':=by
 obtain ⟨h1,rfl,rfl⟩:=Fk h
 simp only [dg2.ok,Bool.and_eq_true,Nat.ble_eq,decide_eq_true_eq,Eb] at h1
 obtain ⟨rfl,rfl,rfl,h7,⟨h8,h9,h10⟩,h11,h12,h13⟩:=h1
 have e':qd us o ws ov (-1) 0/pw 0=0:=by simp [qd,Gh,nv]
 have:=dg2.go (N:=N) o lu cu n q ov lw cw us tu ws tw nx h8 h11 h7 h12 h10 h13 lw 0 (by omega)
 rw [e',Ns] at this
 exact this
def dg2.t:LSpec:=fun S=>match RX.nth S.tmps 0,RX.nth S.tmps 5,RX.nth S.tmps 7,RX.nth S.tmps 13,RX.nth S.tmps 129,RX.nth S.tmps 130,RX.nth S.tmps 131,RX.look S.heap 0,RX.look S.heap 1 with
 | .slice (some ⟨0,o,none⟩) lu cu,.int .i64 n,.int .u64 q,.int .u32 b,.slice (some ⟨1,ov,none⟩) lw cw,.int .i64 z,.int .i64 i,some (.is .u32 us tu),some (.is .u32 ws tw)=>bif Nat.beq S.tmps.length 159 then some (dg2.lt o lu cu n q b ov lw cw z i us tu ws tw S.nxt) else none
 |_,_,_,_,_,_,_,_,_=>none
theorem dg2.lok {N:Nat→Prop} :LOKn Tryz.prog N (Ag Tryz.f143 4) (dg2.t):=by
 refine GO fun S lt x S' ht hat=> ?_
 unfold dg2.t at ht
 split at ht
 ·rename_i o lu cu n q b ov lw cw z i us tu ws tw h0 h5 h7 h13 h129 h130 h131 g0 g1
  cases hb:Nat.beq S.tmps.length 159 with
  |false=>rw [hb] at ht; cases ht
  | true=>
   rw [hb] at ht
   injection ht with ht
   subst ht
   have hb:=Nat.eq_of_beq_eq_true hb
   exact .enter (fun h=>Gc hb (.cons ⟨h0,bnth h h0⟩ (.cons ⟨h5,bnth h h5⟩ (.cons ⟨h7,bnth h h7⟩ (.cons ⟨h13,bnth h h13⟩ (.cons ⟨h129,bnth h h129⟩ (.cons ⟨h130,bnth h h130⟩ (.cons ⟨h131,bnth h h131⟩ .nil))))))) (.cons ⟨g0,bname h g0,rfl⟩ (.cons ⟨g1,bname h g1,rfl⟩ .nil))) (dg2.lp _ _ _ _ _ _ _ _ _ _ _ _ _ _ _ _ hat)
 ·cases ht
end Go.Proofs.YtphlckkbihmlnaaGreatDoor.G
end
section
namespace Go.Proofs.YtphlckkbihmlnaaGreatDoor.G
set_option maxRecDepth 100000
open Go Go.Proofs RX
abbrev rdigit.c3 (o lw:Nat) (us:List Int):=Ei BinOp.or IntKind.u64 (IntKind.u64.wrap (IntKind.u64.wrap (us.getD (o+(((lw:Nat):Int)).toNat*1) 0)*2^min (Int.toNat 32) IntKind.u64.bits)) (IntKind.u64.wrap (us.getD (o+(IntKind.i64.wrap (((lw:Nat):Int)-1)).toNat*1) 0))
abbrev rdigit.c4 (ov lw:Nat) (ws:List Int):=ws.getD (ov+(IntKind.i64.wrap (((lw:Nat):Int)-1)).toNat*1) 0
abbrev rdigit.c0 (o ov lw:Nat) (us ws:List Int):=qa2 us o ws ov lw 2 (IntKind.u64.wrap ((rdigit.c3 o lw us).tdiv (IntKind.u64.wrap (rdigit.c4 ov lw ws)))) ((rdigit.c3 o lw us).tmod (IntKind.u64.wrap (rdigit.c4 ov lw ws)))
abbrev rdigit.c5 (o ov lw:Nat) (us ws:List Int):=ip us o lw (qd us o ws ov (rdigit.c0 o ov lw us ws) lw)
abbrev rdigit.c1 (o ov lw:Nat) (us ws:List Int):=IntKind.u32.wrap (IntKind.u32.wrap ((rdigit.c5 o ov lw us ws).getD (o+(((lw:Nat):Int)).toNat*1) 0-IntKind.u32.wrap (qc ws ov (rdigit.c0 o ov lw us ws) lw))- -(qd us o ws ov (rdigit.c0 o ov lw us ws) lw/pw lw+qc ws ov (rdigit.c0 o ov lw us ws) lw))
abbrev rdigit.c2 (o ov lw:Nat) (us ws:List Int):=ip ((rdigit.c5 o ov lw us ws).set (o+(((lw:Nat):Int)).toNat*1) (rdigit.c1 o ov lw us ws)) o lw (qd ((rdigit.c5 o ov lw us ws).set (o+(((lw:Nat):Int)).toNat*1) (rdigit.c1 o ov lw us ws)) o ws ov (-1) lw)
theorem rdigit.run (o lu cu ov lw cw:Nat) (us ws:List Int):xfn Tryz.prog ⟨[],[(137,Tryz.f137),(136,Tryz.f136)],[]⟩ [(0,dg0.t),(2,dg1.t),(4,dg2.t)] 10 Tryz.f143 [.slice (some ⟨0,o,none⟩) lu cu,.slice (some ⟨1,ov,none⟩) lw cw] [.is .u32 us 144,.is .u32 ws 144]=
 bif decide (0≤((lw:Nat):Int))&&decide (((lw:Nat):Int)<((lu:Nat):Int)) then bif (o+(((lw:Nat):Int)).toNat*1).blt us.length then bif decide (0≤IntKind.i64.wrap (((lw:Nat):Int)-1))&&decide (IntKind.i64.wrap (((lw:Nat):Int)-1)<((lu:Nat):Int)) then bif (o+(IntKind.i64.wrap (((lw:Nat):Int)-1)).toNat*1).blt us.length then bif decide (0≤IntKind.i64.wrap (((lw:Nat):Int)-1))&&decide (IntKind.i64.wrap (((lw:Nat):Int)-1)<((lw:Nat):Int)) then bif (ov+(IntKind.i64.wrap (((lw:Nat):Int)-1)).toNat*1).blt ws.length then bif IntKind.u64.wrap (rdigit.c4 ov lw ws) !=0 then bif decide (0≤IntKind.i64.wrap (((lw:Nat):Int)-1))&&decide (IntKind.i64.wrap (((lw:Nat):Int)-1)<((lw:Nat):Int)) then bif (ov+(IntKind.i64.wrap (((lw:Nat):Int)-1)).toNat*1).blt ws.length then bif IntKind.u64.wrap (rdigit.c4 ov lw ws) !=0 then bif dg0.ok o lu ov lw (((lw:Nat):Int)) (IntKind.u64.wrap ((rdigit.c3 o lw us).tdiv (IntKind.u64.wrap (rdigit.c4 ov lw ws)))) ((rdigit.c3 o lw us).tmod (IntKind.u64.wrap (rdigit.c4 ov lw ws))) us ws then bif dg1.ok o lu ov lw (rdigit.c0 o ov lw us ws) 0 0 (((lw:Nat):Int)) 0 us ws then bif decide (0≤((lw:Nat):Int))&&decide (((lw:Nat):Int)<((lu:Nat):Int)) then bif (o+(((lw:Nat):Int)).toNat*1).blt (rdigit.c5 o ov lw us ws).length then bif decide (0≤((lw:Nat):Int))&&decide (((lw:Nat):Int)<((lu:Nat):Int)) then bif (o+(((lw:Nat):Int)).toNat*1).blt (rdigit.c5 o ov lw us ws).length then bif (Ei BinOp.or IntKind.u32 (Ei BinOp.and IntKind.u32 (Ei BinOp.xor IntKind.u32 (if IntKind.u32.signed=true then -1 else IntKind.u32.max) ((rdigit.c5 o ov lw us ws).getD (o+(((lw:Nat):Int)).toNat*1) 0)) (IntKind.u32.wrap (qc ws ov (rdigit.c0 o ov lw us ws) lw))) (Ei BinOp.and IntKind.u32 (Ei BinOp.xor IntKind.u32 (if IntKind.u32.signed=true then -1 else IntKind.u32.max) (Ei BinOp.xor IntKind.u32 ((rdigit.c5 o ov lw us ws).getD (o+(((lw:Nat):Int)).toNat*1) 0) (IntKind.u32.wrap (qc ws ov (rdigit.c0 o ov lw us ws) lw)))) (rdigit.c1 o ov lw us ws))).fdiv (2^min (Int.toNat 31) IntKind.u32.bits) !=0 then bif dg2.ok o lu ov lw 0 (((lw:Nat):Int)) 0 ((rdigit.c5 o ov lw us ws).set (o+(((lw:Nat):Int)).toNat*1) (rdigit.c1 o ov lw us ws)) ws then bif decide (0≤((lw:Nat):Int))&&decide (((lw:Nat):Int)<((lu:Nat):Int)) then bif (o+(((lw:Nat):Int)).toNat*1).blt (rdigit.c2 o ov lw us ws).length then bif decide (0≤((lw:Nat):Int))&&decide (((lw:Nat):Int)<((lu:Nat):Int)) then bif (o+(((lw:Nat):Int)).toNat*1).blt (rdigit.c2 o ov lw us ws).length then some ((Value.int IntKind.u32 (IntKind.u32.wrap (IntKind.u64.wrap (qa2 us o ws ov lw 2 (IntKind.u64.wrap ((rdigit.c3 o lw us).tdiv (IntKind.u64.wrap (rdigit.c4 ov lw ws)))) ((rdigit.c3 o lw us).tmod (IntKind.u64.wrap (rdigit.c4 ov lw ws)))-1))),[Blk.is IntKind.u32 ((rdigit.c2 o ov lw us ws).set (o+(((lw:Nat):Int)).toNat*1) (IntKind.u32.wrap ((rdigit.c2 o ov lw us ws).getD (o+(((lw:Nat):Int)).toNat*1) 0+qd ((rdigit.c5 o ov lw us ws).set (o+(((lw:Nat):Int)).toNat*1) (rdigit.c1 o ov lw us ws)) o ws ov (-1) lw/pw lw))) 144,Blk.is IntKind.u32 ws 144]))
 else none else none else none else none else none else some ((Value.int IntKind.u32 (IntKind.u32.wrap (rdigit.c0 o ov lw us ws)),[Blk.is IntKind.u32 ((rdigit.c5 o ov lw us ws).set (o+(((lw:Nat):Int)).toNat*1) (rdigit.c1 o ov lw us ws)) 144,Blk.is IntKind.u32 ws 144])) else none else none else none else none else none else none else none else none else none else none else none else none else none else none else none else none:=by kernel_rfl
def rdigit.run0:=fun o lu cu ov lw cw us ws h0 h1 h2 h3 h4 h5 h6 h7 h8 h9 h10 h11 h12 h13 h14 h15 h16 h17 h18 h19 h20 h21=>(((((((((((((((((((((((rdigit.run o lu cu ov lw cw us ws).ct h0).ct h1).ct h2).ct h3).ct h4).ct h5).ct h6).ct h7).ct h8).ct h9).ct h10).ct h11).ct h12).ct h13).ct h14).ct h15).ct h16).ct h17).ct h18).ct h19).ct h20).ct h21)
def rdigit.run1:=fun o lu cu ov lw cw us ws h0 h1 h2 h3 h4 h5 h6 h7 h8 h9 h10 h11 h12 h13 h14 h15 h16=>((((((((((((((((((rdigit.run o lu cu ov lw cw us ws).ct h0).ct h1).ct h2).ct h3).ct h4).ct h5).ct h6).ct h7).ct h8).ct h9).ct h10).ct h11).ct h12).ct h13).ct h14).ct h15).cf h16)
theorem QU {xs:List Int} {o l:Nat} (hl:2≤l) (h:o+l≤xs.length):nv (seg xs o l)=(xs.getD (o+(l-1)) 0*4294967296+xs.getD (o+(l-2)) 0)*pw (l-2)+nv (seg xs o (l-2)):=by
 obtain ⟨m,rfl⟩:∃m,l=m+2:=⟨l-2,by omega⟩
 rw [show m+2-1=m+1 by omega,show m+2-2=m by omega,Fi (show o+(m+1)<xs.length by omega),Fi (show o+m<xs.length by omega),Fp,Int.add_mul,Int.mul_comm 4294967296,Int.mul_assoc (pw m),Int.mul_comm (pw m),Int.mul_comm (pw m),Int.mul_comm 4294967296]
 omega
theorem Ph {us ws:List Int} {o ov lw:Nat} (hx:dig us) (hy:dig ws) (hn:2≤lw) (h1:o+(lw+1)≤us.length) (h2:ov+lw≤ws.length) (hv:2147483648≤ws.getD (ov+(lw-1)) 0) (hlt:nv (seg us o (lw+1))<nv (seg ws ov lw)*4294967296):
  let T:=us.getD (o+(lw-1)) 0+4294967296*us.getD (o+lw) 0
  let v1:=ws.getD (ov+(lw-1)) 0
  let q:=qa2 us o ws ov lw 2 (T/v1) (T%v1)
  nv (seg us o (lw+1))/nv (seg ws ov lw)≤q∧q≤nv (seg us o (lw+1))/nv (seg ws ov lw)+1∧0≤q∧q<4294967296∧T/v1≤4294967297:=by
 intro T v1 q
 have V1:=Ev hy (ov+(lw-1))
 have V2:=Ev hy (ov+(lw-2))
 have U2:=Ev hx (o+(lw-2))
 have U1:=Ev hx (o+(lw-1))
 have U0:=Ev hx (o+lw)
 have a:=Ea (Es hx o (lw-2))
 have b:=Gk (Es hx o (lw-2))
 rw [Et (by omega)] at b
 have a':=Ea (Es hy ov (lw-2))
 have b':=Gk (Es hy ov (lw-2))
 rw [Et (by omega)] at b'
 have eV:=QU hn h2
 have eU:nv (seg us o (lw+1))=(T*4294967296+us.getD (o+(lw-2)) 0)*pw (lw-2)+nv (seg us o (lw-2)):=by
  rw [Fi (show o+lw<us.length by omega),QU hn (by omega)]
  obtain ⟨m,rfl⟩:∃m,lw=m+2:=⟨lw-2,by omega⟩
  rw [show m+2-2=m by omega] at*
  show _=((us.getD (o+(m+2-1)) 0+4294967296*us.getD (o+(m+2)) 0)*4294967296+us.getD (o+m) 0)*pw m+nv (seg us o m)
  have e:pw (m+2)*us.getD (o+(m+2)) 0=(4294967296*us.getD (o+(m+2)) 0)*4294967296*pw m:=by
   rw [show pw (m+2)=4294967296*(4294967296*pw m) by rw [show m+2=m+1+1 from rfl,Fp,Fp]]
   generalize us.getD (o+(m+2)) 0=z
   generalize pw m=p
   rw [Int.mul_assoc 4294967296,Int.mul_assoc 4294967296 p,Int.mul_assoc 4294967296 z,Int.mul_comm z,Int.mul_assoc 4294967296,Int.mul_assoc 4294967296 z,Int.mul_comm z]
  rw [e,Int.add_mul (us.getD (o+(m+2-1)) 0),Int.add_mul (us.getD (o+(m+2-1)) 0*4294967296),Int.add_mul (us.getD (o+(m+2-1)) 0*4294967296+4294967296*us.getD (o+(m+2)) 0*4294967296),Int.add_mul (us.getD (o+(m+2-1)) 0*4294967296)]
  omega
 exact knuth (GN _) hv V1.2 V2.1 V2.2 U2.1 U2.2 eV a' b' eU a b (by omega) hlt
theorem HR {P:Program} {N:Nat→Prop} {fn:Func} {b:Code} {L:List (Nat×LSpec)} (hb:fn.body=some b) (h:LsOkn P N L b):∀c,fn.body=some c→LsOkn P N L c:=fun c hc=>by
 rw [hb] at hc
 injection hc with hc
 subst hc
 exact h
def digit.sp:HSpec
 |[.slice (some ⟨0,o,none⟩) lu cu,.slice (some ⟨1,ov,none⟩) lw cw],[.is .u32 us 144,.is .u32 ws 144]=>some (Nat.beq lu (lw+1)&&(Nat.ble 2 lw&&(Dl o lu us&&(Dl ov lw ws&&(decide (2147483648≤ws.getD (ov+(lw-1)) 0)&&decide (nv (seg us o (lw+1))<nv (seg ws ov lw)*4294967296))))),.int .u32 (nv (seg us o (lw+1))/nv (seg ws ov lw)),[.is .u32 (ip us o (lw+1) (nv (seg us o (lw+1))%nv (seg ws ov lw))) 144,.is .u32 ws 144])
 |_,_=>none
theorem J2.ok:SOK Tryz.prog 143 digit.sp:=by
 refine Cq (E:=⟨[],[(137,Tryz.f137),(136,Tryz.f136)],[]⟩) (L:=[(0,dg0.t),(2,dg1.t),(4,dg2.t)]) ⟨Ac,Ex ⟨Tryz.func137,by decide,rfl⟩ (Ex ⟨Tryz.func136,by decide,rfl⟩ Ai),Ad,Ah⟩ 10 Tryz.func143 (by decide) rfl (HR rfl (Fj rfl dg0.lok (Fj rfl dg1.lok (Fj rfl dg2.lok Ba)))) fun vs bl v bl' h=> ?_
 unfold digit.sp at h
 split at h
 ·rename_i o lu cu ov lw cw us ws
  simp only [Option.some.injEq,Prod.mk.injEq,Bool.and_eq_true,Nat.ble_eq,decide_eq_true_eq,Eb] at h
  obtain ⟨⟨hlu,hn,⟨h1,h1b,hx⟩,⟨h2,h2b,hy⟩,hv,hlt⟩,rfl,rfl⟩:=h
  obtain rfl:=Nat.eq_of_beq_eq_true hlu
  have V1:=Ev hy (ov+(lw-1))
  have U1:=Ev hx (o+(lw-1))
  have U0:=Ev hx (o+lw)
  obtain ⟨g1,g2,g3,g4,g5⟩:=Ph hx hy hn h1 h2 hv hlt
  have w1:IntKind.i64.wrap ((lw:Int)-1)=((lw-1:Nat):Int):=by rw [w64 (by omega) (by omega)]; omega
  have eT:Ei BinOp.or IntKind.u64 (IntKind.u64.wrap (IntKind.u64.wrap (us.getD (o+lw) 0)*2^min (Int.toNat 32) IntKind.u64.bits)) (IntKind.u64.wrap (us.getD (o+(lw-1)) 0))=us.getD (o+(lw-1)) 0+4294967296*us.getD (o+lw) 0:=by
   rw [u64of (n:=us.getD (o+lw) 0) U0.1 (by omega)]; exact Oa U1.1 U1.2 U0.1 U0.2
  have eV:IntKind.u64.wrap (ws.getD (ov+(lw-1)) 0)=ws.getD (ov+(lw-1)) 0:=u64of V1.1 (by omega)
  have n1:=rdigit.run0 o (lw+1) cu ov lw cw us ws
  have n0:=rdigit.run1 o (lw+1) cu ov lw cw us ws
  simp only [rdigit.c0,rdigit.c1,rdigit.c2,rdigit.c3,rdigit.c4,rdigit.c5,w1,Int.toNat_natCast,Nat.mul_one,eT,eV] at n0 n1
  clear eT eV
  generalize hT:us.getD (o+(lw-1)) 0+4294967296*us.getD (o+lw) 0=T at*
  have T0:0≤T:=by omega
  have T1:T<18446744073709551616:=by omega
  generalize hv1:ws.getD (ov+(lw-1)) 0=v1 at*
  have d0:0≤T/v1:=Int.ediv_nonneg T0 (by omega)
  have d1:T/v1≤T:=Int.ediv_le_self _ T0
  have r0:=Int.emod_nonneg T (show v1≠0 by omega)
  have r1:=Int.emod_lt_of_pos T (show 0<v1 by omega)
  have eD:T.tdiv v1=T/v1:=Int.tdiv_eq_ediv_of_nonneg T0
  have eM:T.tmod v1=T%v1:=Int.tmod_eq_emod_of_nonneg T0
  have eW:IntKind.u64.wrap (T/v1)=T/v1:=u64of d0 (by omega)
  simp only [eD,eM,eW] at n0 n1
  generalize hq:qa2 us o ws ov lw 2 (T/v1) (T%v1)=q at*
  have hC:=S6 hy g3 h2
  have hB:=S5 hx hy q (show o+lw≤us.length by omega) h2
  have hlen:=I4 (qd us o ws ov q lw) (show o+lw≤us.length by omega)
  have hg:(ip us o lw (qd us o ws ov q lw)).getD (o+lw) 0=us.getD (o+lw) 0:=LF _ (by omega) (Nat.le_refl _)
  have eC:IntKind.u32.wrap (qc ws ov q lw)=qc ws ov q lw:=u32of hC.1 (by omega)
  simp only [hg,eC] at n0 n1
  have eB:=borrow U0.1 U0.2 hC.1 (show qc ws ov q lw<4294967296 by omega) (b:= -(qd us o ws ov q lw/pw lw+qc ws ov q lw)) (by omega) (by omega)
  simp only [eB] at n0 n1
  have eS:IntKind.u32.wrap (IntKind.u32.wrap (us.getD (o+lw) 0-qc ws ov q lw)- -(qd us o ws ov q lw/pw lw+qc ws ov q lw))=(qd us o ws ov q lw/pw lw+us.getD (o+lw) 0)%4294967296:=by rw [Lh]; congr 1; omega
  have hDU:qd us o ws ov q lw+pw lw*us.getD (o+lw) 0=nv (seg us o (lw+1))-q*nv (seg ws ov lw):=by rw [Fi (show o+lw<us.length by omega)]; unfold qd; omega
  have eI:=MZ (show o+lw<us.length by omega) (qd us o ws ov q lw) (us.getD (o+lw) 0)
  have eN: -((us.getD (o+lw) 0-qc ws ov q lw- -(qd us o ws ov q lw/pw lw+qc ws ov q lw))/4294967296)= -((nv (seg us o (lw+1))-q*nv (seg ws ov lw))/pw (lw+1)):=by rw [←hDU,Gm]; congr 2; omega
  simp only [eS,eI,hDU,eN] at n0 n1
  have c1:=dtrue2 (p:=0≤(lw:Int)) (q:=(lw:Int)<((lw+1:Nat):Int)) (by omega) (by omega)
  have c2:=dtrue2 (p:=0≤((lw-1:Nat):Int)) (q:=((lw-1:Nat):Int)<((lw+1:Nat):Int)) (by omega) (by omega)
  have c3:=dtrue2 (p:=0≤((lw-1:Nat):Int)) (q:=((lw-1:Nat):Int)<(lw:Int)) (by omega) (by omega)
  have b1:(o+lw).blt us.length=true:=Eu (by omega)
  have b2:(o+(lw-1)).blt us.length=true:=Eu (by omega)
  have b3:(ov+(lw-1)).blt ws.length=true:=Eu (by omega)
  have b4:(o+lw).blt (ip us o lw (qd us o ws ov q lw)).length=true:=by rw [hlen]; exact b1
  have nz:(v1 !=0)=true:=Fh (by omega)
  have k0:dg0.ok o (lw+1) ov lw (lw:Int) (T/v1) (T%v1) us ws=true:=by
   simp only [dg0.ok,Bool.and_eq_true,Nat.ble_eq,decide_eq_true_eq,Eb,hv1]
   exact ⟨trivial,hn,Nat.le_refl _,⟨h1,h1b,hx⟩,⟨h2,h2b,hy⟩,hv,d0,g5,r0,by omega⟩
  have k1:dg1.ok o (lw+1) ov lw q 0 0 (lw:Int) 0 us ws=true:=by
   simp only [dg1.ok,Bool.and_eq_true,Nat.ble_eq,decide_eq_true_eq,Eb]
   exact ⟨trivial,trivial,trivial,trivial,g3,g4,by omega,⟨h1,h1b,hx⟩,⟨h2,h2b,hy⟩⟩
  replace n0:=n0 c1 b1 c2 b2 c3 b3 nz c3 b3 nz k0 k1 c1 b4 c1 b4
  replace n1:=n1 c1 b1 c2 b2 c3 b3 nz c3 b3 nz k0 k1 c1 b4 c1 b4
  clear eB eS eI eN hDU hg hlen k0 k1 eD eM eW hC hB eC
  have W0:=Ea (Es hy ov lw)
  have W1:=Ea (Es hx o (lw+1))
  have W2:=Gk (Es hx o (lw+1))
  rw [Et h1] at W2
  generalize hU:nv (seg us o (lw+1))=U at*
  generalize hV:nv (seg ws ov lw)=V at*
  have Vp:0<V:=by omega
  have hp:=GN (lw+1)
  have hsp:V*(U/V)+U%V=U:=Int.mul_ediv_add_emod U V
  have qv0:0≤q*V:=Int.mul_nonneg g3 W0
  by_cases hc:q*V≤U
  ·have e1:q=U/V:=Int.le_antisymm ((Int.le_ediv_iff_mul_le Vp).2 hc) g1
   have e2:(U-q*V)/pw (lw+1)=0:=Int.ediv_eq_zero_of_lt (by omega) (by omega)
   have e3:U-q*V=U%V:=by rw [e1,Int.mul_comm]; omega
   have e4:IntKind.u32.wrap q=q:=u32of g3 g4
   rw [e2,e3,e4] at n0
   refine ⟨(n0 rfl).trans ?_,by simp [okV,Nat.blt],clo_spec 8 _ rfl,As rfl⟩
   rw [e1]
  ·have e1:q=U/V+1:=by
    refine Int.le_antisymm g2 (Int.lt_of_not_ge fun hz=>hc ?_)
    have:q*V≤(U/V)*V:=Int.mul_le_mul_of_nonneg_right hz W0
    have:=Int.emod_nonneg U (show V≠0 by omega)
    rw [Int.mul_comm V] at hsp
    omega
   have e2:(U-q*V)/pw (lw+1)<0:=Int.ediv_neg_of_neg_of_pos (by omega) hp
   have e3:U-q*V+V=U%V:=by
    have:q*V=V*(U/V)+V:=by rw [e1,Int.add_mul,Int.one_mul,Int.mul_comm]
    omega
   have q1:1≤q:=by
    have:=Int.ediv_nonneg W1 W0
    omega
   have e4:IntKind.u32.wrap (IntKind.u64.wrap (q-1))=q-1:=by rw [u64of (by omega) (by omega),u32of (by omega) (by omega)]
   have hz:=dig_ip hx o (lw+1) (U-q*V)
   have hl1:(ip us o (lw+1) (U-q*V)).length=us.length:=I4 _ h1
   have k2:dg2.ok o (lw+1) ov lw 0 (lw:Int) 0 (ip us o (lw+1) (U-q*V)) ws=true:=by
    simp only [dg2.ok,Bool.and_eq_true,Nat.ble_eq,decide_eq_true_eq,Eb]
    exact ⟨trivial,trivial,trivial,by omega,⟨by omega,h1b,hz⟩,⟨h2,h2b,hy⟩⟩
   have hsg:seg (ip us o (lw+1) (U-q*V)) o (lw+1)=dg (lw+1) (U-q*V):=seg_ip _ h1
   have hnv:nv (seg (ip us o (lw+1) (U-q*V)) o (lw+1))=(U-q*V)%pw (lw+1):=by rw [hsg,R5]
   have hii:=ip_ip (us:=us) (o:=o) (k:=lw+1) (U-q*V) ((U-q*V)%pw (lw+1)+V) h1
   generalize hu1:ip us o (lw+1) (U-q*V)=u1 at*
   have hget:(ip u1 o lw (qd u1 o ws ov (-1) lw)).getD (o+lw) 0=u1.getD (o+lw) 0:=LF _ (by omega) (Nat.le_refl _)
   have hl2:=I4 (qd u1 o ws ov (-1) lw) (show o+lw≤u1.length by omega)
   have b5:(o+lw).blt (ip u1 o lw (qd u1 o ws ov (-1) lw)).length=true:=by rw [hl2]; exact Eu (by omega)
   have es:qd u1 o ws ov (-1) lw+pw lw*u1.getD (o+lw) 0=(U-q*V)%pw (lw+1)+V:=by
    rw [←hnv,Fi (show o+lw<u1.length by omega)]; unfold qd; rw [hV]; omega
   have eI:=MZ (us:=u1) (show o+lw<u1.length by omega) (qd u1 o ws ov (-1) lw) (u1.getD (o+lw) 0)
   replace n1:=n1 (Fh (by omega)) k2 c1 b5 c1 b5
   rw [hget,Int.add_comm (u1.getD (o+lw) 0),wu32 (_+u1.getD (o+lw) 0),eI,es,hii,e4] at n1
   have hdd:ip us o (lw+1) ((U-q*V)%pw (lw+1)+V)=ip us o (lw+1) (U%V):=by
    have hm:=Int.emod_add_mul_ediv (U-q*V) (pw (lw+1))
    have hd:=KC (lw+1) ((U-q*V)%pw (lw+1)+V) ((U-q*V)/pw (lw+1))
    rw [show (U-q*V)%pw (lw+1)+V+pw (lw+1)*((U-q*V)/pw (lw+1))=U%V by omega] at hd
    unfold ip
    rw [hd]
   rw [hdd] at n1
   refine ⟨n1.trans ?_,by simp [okV,Nat.blt],clo_spec 8 _ rfl,As rfl⟩
   rw [show q-1=U/V by omega]
 ·cases h
end Go.Proofs.YtphlckkbihmlnaaGreatDoor.G
end
section
namespace Go.Proofs.YtphlckkbihmlnaaGreatDoor.G
set_option maxRecDepth 100000
open Go Go.Proofs RX
def len8:ByteArray:=⟨((List.range 256).map fun i=>UInt8.ofNat (match i with|0=>0|j+1=>(j+1).log2+1)).toArray⟩
end Go.Proofs.YtphlckkbihmlnaaGreatDoor.G
end
