/- A part of what the law's proof leans on. PACKED BY pack.py of this repo. -/
import Derived.Test.YtphlckkbihmlnaaGreatDoorK9
set_option linter.unusedVariables false
set_option linter.unusedSimpArgs false
set_option linter.unusedSectionVars false
set_option linter.defProp false
set_option maxRecDepth 100000
open Go.IntKind (i64 u64 u32)
section
namespace Go.Proofs.YtphlckkbihmlnaaGreatDoor.G
open Go Go.Proofs RX
def prS (A2:Bool) (A3:ByteArray) (A8:Bool) (A7:ByteArray) (A6:Bool) (A9:ByteArray) (AB:Bool) (AA:ByteArray) (AD:Bool) (AC:ByteArray) (A5:Bool) (A4:ByteArray) (AF:Bool) (AE:ByteArray) (AH:Bool) (AG:ByteArray) (AO:Bool) (AN:ByteArray) (AM:Bool) (AL:ByteArray):PrS:=⟨false,(⟨#[]⟩:ByteArray),false,(⟨#[]⟩:ByteArray),false,(⟨#[]⟩:ByteArray),false,(⟨#[]⟩:ByteArray),false,(⟨#[]⟩:ByteArray),false,(⟨#[]⟩:ByteArray),false,(⟨#[]⟩:ByteArray),false,(⟨#[]⟩:ByteArray),false,(⟨#[]⟩:ByteArray),A2,A3,A8,A7,A6,A9,AB,AA,A2,A3,A8,A7,A6,A9,AB,AA,AD,AC,A5,A4,AF,AE,AH,AG,AO,AN,AM,AL⟩
theorem product.run (fM:Bool→ByteArray→Bool→ByteArray→(Bool×ByteArray)) (pM:Bool→ByteArray→Bool→ByteArray→Bool) (fL:TF5 T10) (pL:TF5 Bool) (A2:Bool) (A3:ByteArray) (A8:Bool) (A7:ByteArray) (A6:Bool) (A9:ByteArray) (AB:Bool) (AA:ByteArray) (AD:Bool) (AC:ByteArray) (A5:Bool) (A4:ByteArray) (AF:Bool) (AE:ByteArray) (AH:Bool) (AG:ByteArray) (AO:Bool) (AN:ByteArray) (AM:Bool) (AL:ByteArray):
 xfn Tryz.prog ⟨[(102,Ch.sp fM pM),(103,Bf.sp fL pL)],[],[]⟩ [(0,pro.t)] 60 Tryz.f100 [.agg ⟨[.bool A2,.string A3,.bool A8,.string A7,.bool A6,.string A9,.bool AB,.string AA,.bool AD,.string AC]⟩,.agg ⟨[.bool A5,.string A4,.bool AF,.string AE,.bool AH,.string AG,.bool AO,.string AN,.bool AM,.string AL]⟩] []= bif pro.need (prS A2 A3 A8 A7 A6 A9 AB AA AD AC A5 A4 AF AE AH AG AO AN AM AL) then bif pM AD AC AM AL then bif pL (prS A2 A3 A8 A7 A6 A9 AB AA AD AC A5 A4 AF AE AH AG AO AN AM AL).fin.cn0 (prS A2 A3 A8 A7 A6 A9 AB AA AD AC A5 A4 AF AE AH AG AO AN AM AL).fin.cs0 (prS A2 A3 A8 A7 A6 A9 AB AA AD AC A5 A4 AF AE AH AG AO AN AM AL).fin.cn1 (prS A2 A3 A8 A7 A6 A9 AB AA AD AC A5 A4 AF AE AH AG AO AN AM AL).fin.cs1 (prS A2 A3 A8 A7 A6 A9 AB AA AD AC A5 A4 AF AE AH AG AO AN AM AL).fin.cn2 (prS A2 A3 A8 A7 A6 A9 AB AA AD AC A5 A4 AF AE AH AG AO AN AM AL).fin.cs2 (prS A2 A3 A8 A7 A6 A9 AB AA AD AC A5 A4 AF AE AH AG AO AN AM AL).fin.cn3 (prS A2 A3 A8 A7 A6 A9 AB AA AD AC A5 A4 AF AE AH AG AO AN AM AL).fin.cs3 (fM AD AC AM AL).1 (fM AD AC AM AL).2 then some (.agg ⟨[.bool (fL (prS A2 A3 A8 A7 A6 A9 AB AA AD AC A5 A4 AF AE AH AG AO AN AM AL).fin.cn0 (prS A2 A3 A8 A7 A6 A9 AB AA AD AC A5 A4 AF AE AH AG AO AN AM AL).fin.cs0 (prS A2 A3 A8 A7 A6 A9 AB AA AD AC A5 A4 AF AE AH AG AO AN AM AL).fin.cn1 (prS A2 A3 A8 A7 A6 A9 AB AA AD AC A5 A4 AF AE AH AG AO AN AM AL).fin.cs1 (prS A2 A3 A8 A7 A6 A9 AB AA AD AC A5 A4 AF AE AH AG AO AN AM AL).fin.cn2 (prS A2 A3 A8 A7 A6 A9 AB AA AD AC A5 A4 AF AE AH AG AO AN AM AL).fin.cs2 (prS A2 A3 A8 A7 A6 A9 AB AA AD AC A5 A4 AF AE AH AG AO AN AM AL).fin.cn3 (prS A2 A3 A8 A7 A6 A9 AB AA AD AC A5 A4 AF AE AH AG AO AN AM AL).fin.cs3 (fM AD AC AM AL).1 (fM AD AC AM AL).2).1,.string (fL (prS A2 A3 A8 A7 A6 A9 AB AA AD AC A5 A4 AF AE AH AG AO AN AM AL).fin.cn0 (prS A2 A3 A8 A7 A6 A9 AB AA AD AC A5 A4 AF AE AH AG AO AN AM AL).fin.cs0 (prS A2 A3 A8 A7 A6 A9 AB AA AD AC A5 A4 AF AE AH AG AO AN AM AL).fin.cn1 (prS A2 A3 A8 A7 A6 A9 AB AA AD AC A5 A4 AF AE AH AG AO AN AM AL).fin.cs1 (prS A2 A3 A8 A7 A6 A9 AB AA AD AC A5 A4 AF AE AH AG AO AN AM AL).fin.cn2 (prS A2 A3 A8 A7 A6 A9 AB AA AD AC A5 A4 AF AE AH AG AO AN AM AL).fin.cs2 (prS A2 A3 A8 A7 A6 A9 AB AA AD AC A5 A4 AF AE AH AG AO AN AM AL).fin.cn3 (prS A2 A3 A8 A7 A6 A9 AB AA AD AC A5 A4 AF AE AH AG AO AN AM AL).fin.cs3 (fM AD AC AM AL).1 (fM AD AC AM AL).2).2.1,.bool (fL (prS A2 A3 A8 A7 A6 A9 AB AA AD AC A5 A4 AF AE AH AG AO AN AM AL).fin.cn0 (prS A2 A3 A8 A7 A6 A9 AB AA AD AC A5 A4 AF AE AH AG AO AN AM AL).fin.cs0 (prS A2 A3 A8 A7 A6 A9 AB AA AD AC A5 A4 AF AE AH AG AO AN AM AL).fin.cn1 (prS A2 A3 A8 A7 A6 A9 AB AA AD AC A5 A4 AF AE AH AG AO AN AM AL).fin.cs1 (prS A2 A3 A8 A7 A6 A9 AB AA AD AC A5 A4 AF AE AH AG AO AN AM AL).fin.cn2 (prS A2 A3 A8 A7 A6 A9 AB AA AD AC A5 A4 AF AE AH AG AO AN AM AL).fin.cs2 (prS A2 A3 A8 A7 A6 A9 AB AA AD AC A5 A4 AF AE AH AG AO AN AM AL).fin.cn3 (prS A2 A3 A8 A7 A6 A9 AB AA AD AC A5 A4 AF AE AH AG AO AN AM AL).fin.cs3 (fM AD AC AM AL).1 (fM AD AC AM AL).2).2.2.1,.string (fL (prS A2 A3 A8 A7 A6 A9 AB AA AD AC A5 A4 AF AE AH AG AO AN AM AL).fin.cn0 (prS A2 A3 A8 A7 A6 A9 AB AA AD AC A5 A4 AF AE AH AG AO AN AM AL).fin.cs0 (prS A2 A3 A8 A7 A6 A9 AB AA AD AC A5 A4 AF AE AH AG AO AN AM AL).fin.cn1 (prS A2 A3 A8 A7 A6 A9 AB AA AD AC A5 A4 AF AE AH AG AO AN AM AL).fin.cs1 (prS A2 A3 A8 A7 A6 A9 AB AA AD AC A5 A4 AF AE AH AG AO AN AM AL).fin.cn2 (prS A2 A3 A8 A7 A6 A9 AB AA AD AC A5 A4 AF AE AH AG AO AN AM AL).fin.cs2 (prS A2 A3 A8 A7 A6 A9 AB AA AD AC A5 A4 AF AE AH AG AO AN AM AL).fin.cn3 (prS A2 A3 A8 A7 A6 A9 AB AA AD AC A5 A4 AF AE AH AG AO AN AM AL).fin.cs3 (fM AD AC AM AL).1 (fM AD AC AM AL).2).2.2.2.1,.bool (fL (prS A2 A3 A8 A7 A6 A9 AB AA AD AC A5 A4 AF AE AH AG AO AN AM AL).fin.cn0 (prS A2 A3 A8 A7 A6 A9 AB AA AD AC A5 A4 AF AE AH AG AO AN AM AL).fin.cs0 (prS A2 A3 A8 A7 A6 A9 AB AA AD AC A5 A4 AF AE AH AG AO AN AM AL).fin.cn1 (prS A2 A3 A8 A7 A6 A9 AB AA AD AC A5 A4 AF AE AH AG AO AN AM AL).fin.cs1 (prS A2 A3 A8 A7 A6 A9 AB AA AD AC A5 A4 AF AE AH AG AO AN AM AL).fin.cn2 (prS A2 A3 A8 A7 A6 A9 AB AA AD AC A5 A4 AF AE AH AG AO AN AM AL).fin.cs2 (prS A2 A3 A8 A7 A6 A9 AB AA AD AC A5 A4 AF AE AH AG AO AN AM AL).fin.cn3 (prS A2 A3 A8 A7 A6 A9 AB AA AD AC A5 A4 AF AE AH AG AO AN AM AL).fin.cs3 (fM AD AC AM AL).1 (fM AD AC AM AL).2).2.2.2.2.1,.string (fL (prS A2 A3 A8 A7 A6 A9 AB AA AD AC A5 A4 AF AE AH AG AO AN AM AL).fin.cn0 (prS A2 A3 A8 A7 A6 A9 AB AA AD AC A5 A4 AF AE AH AG AO AN AM AL).fin.cs0 (prS A2 A3 A8 A7 A6 A9 AB AA AD AC A5 A4 AF AE AH AG AO AN AM AL).fin.cn1 (prS A2 A3 A8 A7 A6 A9 AB AA AD AC A5 A4 AF AE AH AG AO AN AM AL).fin.cs1 (prS A2 A3 A8 A7 A6 A9 AB AA AD AC A5 A4 AF AE AH AG AO AN AM AL).fin.cn2 (prS A2 A3 A8 A7 A6 A9 AB AA AD AC A5 A4 AF AE AH AG AO AN AM AL).fin.cs2 (prS A2 A3 A8 A7 A6 A9 AB AA AD AC A5 A4 AF AE AH AG AO AN AM AL).fin.cn3 (prS A2 A3 A8 A7 A6 A9 AB AA AD AC A5 A4 AF AE AH AG AO AN AM AL).fin.cs3 (fM AD AC AM AL).1 (fM AD AC AM AL).2).2.2.2.2.2.1,.bool (fL (prS A2 A3 A8 A7 A6 A9 AB AA AD AC A5 A4 AF AE AH AG AO AN AM AL).fin.cn0 (prS A2 A3 A8 A7 A6 A9 AB AA AD AC A5 A4 AF AE AH AG AO AN AM AL).fin.cs0 (prS A2 A3 A8 A7 A6 A9 AB AA AD AC A5 A4 AF AE AH AG AO AN AM AL).fin.cn1 (prS A2 A3 A8 A7 A6 A9 AB AA AD AC A5 A4 AF AE AH AG AO AN AM AL).fin.cs1 (prS A2 A3 A8 A7 A6 A9 AB AA AD AC A5 A4 AF AE AH AG AO AN AM AL).fin.cn2 (prS A2 A3 A8 A7 A6 A9 AB AA AD AC A5 A4 AF AE AH AG AO AN AM AL).fin.cs2 (prS A2 A3 A8 A7 A6 A9 AB AA AD AC A5 A4 AF AE AH AG AO AN AM AL).fin.cn3 (prS A2 A3 A8 A7 A6 A9 AB AA AD AC A5 A4 AF AE AH AG AO AN AM AL).fin.cs3 (fM AD AC AM AL).1 (fM AD AC AM AL).2).2.2.2.2.2.2.1,.string (fL (prS A2 A3 A8 A7 A6 A9 AB AA AD AC A5 A4 AF AE AH AG AO AN AM AL).fin.cn0 (prS A2 A3 A8 A7 A6 A9 AB AA AD AC A5 A4 AF AE AH AG AO AN AM AL).fin.cs0 (prS A2 A3 A8 A7 A6 A9 AB AA AD AC A5 A4 AF AE AH AG AO AN AM AL).fin.cn1 (prS A2 A3 A8 A7 A6 A9 AB AA AD AC A5 A4 AF AE AH AG AO AN AM AL).fin.cs1 (prS A2 A3 A8 A7 A6 A9 AB AA AD AC A5 A4 AF AE AH AG AO AN AM AL).fin.cn2 (prS A2 A3 A8 A7 A6 A9 AB AA AD AC A5 A4 AF AE AH AG AO AN AM AL).fin.cs2 (prS A2 A3 A8 A7 A6 A9 AB AA AD AC A5 A4 AF AE AH AG AO AN AM AL).fin.cn3 (prS A2 A3 A8 A7 A6 A9 AB AA AD AC A5 A4 AF AE AH AG AO AN AM AL).fin.cs3 (fM AD AC AM AL).1 (fM AD AC AM AL).2).2.2.2.2.2.2.2.1,.bool (fL (prS A2 A3 A8 A7 A6 A9 AB AA AD AC A5 A4 AF AE AH AG AO AN AM AL).fin.cn0 (prS A2 A3 A8 A7 A6 A9 AB AA AD AC A5 A4 AF AE AH AG AO AN AM AL).fin.cs0 (prS A2 A3 A8 A7 A6 A9 AB AA AD AC A5 A4 AF AE AH AG AO AN AM AL).fin.cn1 (prS A2 A3 A8 A7 A6 A9 AB AA AD AC A5 A4 AF AE AH AG AO AN AM AL).fin.cs1 (prS A2 A3 A8 A7 A6 A9 AB AA AD AC A5 A4 AF AE AH AG AO AN AM AL).fin.cn2 (prS A2 A3 A8 A7 A6 A9 AB AA AD AC A5 A4 AF AE AH AG AO AN AM AL).fin.cs2 (prS A2 A3 A8 A7 A6 A9 AB AA AD AC A5 A4 AF AE AH AG AO AN AM AL).fin.cn3 (prS A2 A3 A8 A7 A6 A9 AB AA AD AC A5 A4 AF AE AH AG AO AN AM AL).fin.cs3 (fM AD AC AM AL).1 (fM AD AC AM AL).2).2.2.2.2.2.2.2.2.1,.string (fL (prS A2 A3 A8 A7 A6 A9 AB AA AD AC A5 A4 AF AE AH AG AO AN AM AL).fin.cn0 (prS A2 A3 A8 A7 A6 A9 AB AA AD AC A5 A4 AF AE AH AG AO AN AM AL).fin.cs0 (prS A2 A3 A8 A7 A6 A9 AB AA AD AC A5 A4 AF AE AH AG AO AN AM AL).fin.cn1 (prS A2 A3 A8 A7 A6 A9 AB AA AD AC A5 A4 AF AE AH AG AO AN AM AL).fin.cs1 (prS A2 A3 A8 A7 A6 A9 AB AA AD AC A5 A4 AF AE AH AG AO AN AM AL).fin.cn2 (prS A2 A3 A8 A7 A6 A9 AB AA AD AC A5 A4 AF AE AH AG AO AN AM AL).fin.cs2 (prS A2 A3 A8 A7 A6 A9 AB AA AD AC A5 A4 AF AE AH AG AO AN AM AL).fin.cn3 (prS A2 A3 A8 A7 A6 A9 AB AA AD AC A5 A4 AF AE AH AG AO AN AM AL).fin.cs3 (fM AD AC AM AL).1 (fM AD AC AM AL).2).2.2.2.2.2.2.2.2.2]⟩,[]) else none else none else none:=by kernel_rfl
section
variable (A2:Bool) (A3:ByteArray) (A8:Bool) (A7:ByteArray) (A6:Bool) (A9:ByteArray) (AB:Bool) (AA:ByteArray) (AD:Bool) (AC:ByteArray) (A5:Bool) (A4:ByteArray) (AF:Bool) (AE:ByteArray) (AH:Bool) (AG:ByteArray) (AO:Bool) (AN:ByteArray) (AM:Bool) (AL:ByteArray)
def Cc:T10:=Bf (prS A2 A3 A8 A7 A6 A9 AB AA AD AC A5 A4 AF AE AH AG AO AN AM AL).fin.cn0 (prS A2 A3 A8 A7 A6 A9 AB AA AD AC A5 A4 AF AE AH AG AO AN AM AL).fin.cs0 (prS A2 A3 A8 A7 A6 A9 AB AA AD AC A5 A4 AF AE AH AG AO AN AM AL).fin.cn1 (prS A2 A3 A8 A7 A6 A9 AB AA AD AC A5 A4 AF AE AH AG AO AN AM AL).fin.cs1 (prS A2 A3 A8 A7 A6 A9 AB AA AD AC A5 A4 AF AE AH AG AO AN AM AL).fin.cn2 (prS A2 A3 A8 A7 A6 A9 AB AA AD AC A5 A4 AF AE AH AG AO AN AM AL).fin.cs2 (prS A2 A3 A8 A7 A6 A9 AB AA AD AC A5 A4 AF AE AH AG AO AN AM AL).fin.cn3 (prS A2 A3 A8 A7 A6 A9 AB AA AD AC A5 A4 AF AE AH AG AO AN AM AL).fin.cs3 (Ch AD AC AM AL).1 (Ch AD AC AM AL).2
def Cc.pre:Bool:=pro.need (prS A2 A3 A8 A7 A6 A9 AB AA AD AC A5 A4 AF AE AH AG AO AN AM AL)&&(Ch.pre AD AC AM AL&&Bf.pre (prS A2 A3 A8 A7 A6 A9 AB AA AD AC A5 A4 AF AE AH AG AO AN AM AL).fin.cn0 (prS A2 A3 A8 A7 A6 A9 AB AA AD AC A5 A4 AF AE AH AG AO AN AM AL).fin.cs0 (prS A2 A3 A8 A7 A6 A9 AB AA AD AC A5 A4 AF AE AH AG AO AN AM AL).fin.cn1 (prS A2 A3 A8 A7 A6 A9 AB AA AD AC A5 A4 AF AE AH AG AO AN AM AL).fin.cs1 (prS A2 A3 A8 A7 A6 A9 AB AA AD AC A5 A4 AF AE AH AG AO AN AM AL).fin.cn2 (prS A2 A3 A8 A7 A6 A9 AB AA AD AC A5 A4 AF AE AH AG AO AN AM AL).fin.cs2 (prS A2 A3 A8 A7 A6 A9 AB AA AD AC A5 A4 AF AE AH AG AO AN AM AL).fin.cn3 (prS A2 A3 A8 A7 A6 A9 AB AA AD AC A5 A4 AF AE AH AG AO AN AM AL).fin.cs3 (Ch AD AC AM AL).1 (Ch AD AC AM AL).2)
end
theorem Cc.ok:SOK Tryz.prog 100 (Cc.sp Cc Cc.pre):=by
 refine Cu (E:=⟨[(102,Ch.sp Ch Ch.pre),(103,Bf.sp Bf Bf.pre)],[],[]⟩) (L:=[(0,pro.t)]) ⟨Aa Ch.ok (Aa Bf.ok Ac),Ai,Ad,Ah⟩ 60 Tryz.func100 (by decide) rfl (Ga rfl rfl pro.lok) fun vs bl v bl' h=> ?_
 unfold Cc.sp at h
 split at h
 ·rename_i A2 A3 A8 A7 A6 A9 AB AA AD AC A5 A4 AF AE AH AG AO AN AM AL
  simp only [zS,zP] at h
  obtain ⟨hp,rfl,rfl⟩:=h
  unfold Cc.pre at hp
  simp only [zB] at hp
  refine ⟨(product.run Ch Ch.pre Bf Bf.pre A2 A3 A8 A7 A6 A9 AB AA AD AC A5 A4 AF AE AH AG AO AN AM AL).trans (((ct hp.1).trans (ct hp.2.1)).trans (ct hp.2.2)),by simp [okV,Nat.blt],clo_spec 8 _ (by kernel_rfl),Ay (by kernel_rfl)⟩
 ·cases h
def qprod (x y:Q):Q:=⟨0+1*(x.c0*y.c0)+2*(x.c1*y.c1)+3*(x.c2*y.c2)+6*(x.c3*y.c3),0+1*(x.c0*y.c1)+1*(x.c1*y.c0)+3*(x.c2*y.c3)+3*(x.c3*y.c2),0+1*(x.c0*y.c2)+2*(x.c1*y.c3)+1*(x.c2*y.c0)+2*(x.c3*y.c1),0+1*(x.c0*y.c3)+1*(x.c1*y.c2)+1*(x.c2*y.c1)+1*(x.c3*y.c0),x.d*y.d⟩
theorem MJ {j k:Nat} {c q a b:Int} {m:Nat} (hc:Bd m c) (hq:Few6 q) (ha:Bd j a) (hb:Bd k b) (hm:1+(j+k)≤m):Bd (m+1) (c+q*(a*b)):=hc.add (((Hu hq).mul (ha.mul hb)).mono hm)
theorem Mk {j k:Nat} {x y:Q} (hx:x.Bd j) (hy:y.Bd k):(qprod x y).Bd (j+k+5):=by
 have f1:Few6 1:= .inl rfl
 have f2:Few6 2:= .inr (.inl rfl)
 have f3:Few6 3:= .inr (.inr (.inl rfl))
 have f6:Few6 6:= .inr (.inr (.inr rfl))
 have z:Bd (1+(j+k)) 0:=Bd.zero _
 have four:∀ {q0 q1 q2 q3 a0 b0 a1 b1 a2 b2 a3 b3:Int},Few6 q0→Few6 q1→Few6 q2→Few6 q3→Bd j a0→Bd k b0→Bd j a1→Bd k b1→Bd j a2→Bd k b2→Bd j a3→Bd k b3→Bd (j+k+5) (0+q0*(a0*b0)+q1*(a1*b1)+q2*(a2*b2)+q3*(a3*b3)):=fun h0 h1 h2 h3 a0 b0 a1 b1 a2 b2 a3 b3=>
  (MJ (MJ (MJ (MJ z h0 a0 b0 (by omega)) h1 a1 b1 (by omega)) h2 a2 b2 (by omega)) h3 a3 b3 (by omega)).mono (by omega)
 exact ⟨four f1 f2 f3 f6 hx.c0 hy.c0 hx.c1 hy.c1 hx.c2 hy.c2 hx.c3 hy.c3,four f1 f1 f3 f3 hx.c0 hy.c1 hx.c1 hy.c0 hx.c2 hy.c3 hx.c3 hy.c2,four f1 f2 f1 f2 hx.c0 hy.c2 hx.c1 hy.c3 hx.c2 hy.c0 hx.c3 hy.c1,four f1 f1 f1 f1 hx.c0 hy.c3 hx.c1 hy.c2 hx.c2 hy.c1 hx.c3 hy.c0,(hx.d.mul hy.d).mono (by omega)⟩
section
variable {j k:Nat} {x y:Q}
theorem Qt:(prS (dI x.c0).1 (dI x.c0).2 (dI x.c1).1 (dI x.c1).2 (dI x.c2).1 (dI x.c2).2 (dI x.c3).1 (dI x.c3).2 (dI x.d).1 (dI x.d).2 (dI y.c0).1 (dI y.c0).2 (dI y.c1).1 (dI y.c1).2 (dI y.c2).1 (dI y.c2).2 (dI y.c3).1 (dI y.c3).2 (dI y.d).1 (dI y.d).2).fin.cn0=(dI (qprod x y).c0).1∧(prS (dI x.c0).1 (dI x.c0).2 (dI x.c1).1 (dI x.c1).2 (dI x.c2).1 (dI x.c2).2 (dI x.c3).1 (dI x.c3).2 (dI x.d).1 (dI x.d).2 (dI y.c0).1 (dI y.c0).2 (dI y.c1).1 (dI y.c1).2 (dI y.c2).1 (dI y.c2).2 (dI y.c3).1 (dI y.c3).2 (dI y.d).1 (dI y.d).2).fin.cs0=(dI (qprod x y).c0).2∧(prS (dI x.c0).1 (dI x.c0).2 (dI x.c1).1 (dI x.c1).2 (dI x.c2).1 (dI x.c2).2 (dI x.c3).1 (dI x.c3).2 (dI x.d).1 (dI x.d).2 (dI y.c0).1 (dI y.c0).2 (dI y.c1).1 (dI y.c1).2 (dI y.c2).1 (dI y.c2).2 (dI y.c3).1 (dI y.c3).2 (dI y.d).1 (dI y.d).2).fin.cn1=(dI (qprod x y).c1).1∧(prS (dI x.c0).1 (dI x.c0).2 (dI x.c1).1 (dI x.c1).2 (dI x.c2).1 (dI x.c2).2 (dI x.c3).1 (dI x.c3).2 (dI x.d).1 (dI x.d).2 (dI y.c0).1 (dI y.c0).2 (dI y.c1).1 (dI y.c1).2 (dI y.c2).1 (dI y.c2).2 (dI y.c3).1 (dI y.c3).2 (dI y.d).1 (dI y.d).2).fin.cs1=(dI (qprod x y).c1).2∧(prS (dI x.c0).1 (dI x.c0).2 (dI x.c1).1 (dI x.c1).2 (dI x.c2).1 (dI x.c2).2 (dI x.c3).1 (dI x.c3).2 (dI x.d).1 (dI x.d).2 (dI y.c0).1 (dI y.c0).2 (dI y.c1).1 (dI y.c1).2 (dI y.c2).1 (dI y.c2).2 (dI y.c3).1 (dI y.c3).2 (dI y.d).1 (dI y.d).2).fin.cn2=(dI (qprod x y).c2).1∧(prS (dI x.c0).1 (dI x.c0).2 (dI x.c1).1 (dI x.c1).2 (dI x.c2).1 (dI x.c2).2 (dI x.c3).1 (dI x.c3).2 (dI x.d).1 (dI x.d).2 (dI y.c0).1 (dI y.c0).2 (dI y.c1).1 (dI y.c1).2 (dI y.c2).1 (dI y.c2).2 (dI y.c3).1 (dI y.c3).2 (dI y.d).1 (dI y.d).2).fin.cs2=(dI (qprod x y).c2).2∧(prS (dI x.c0).1 (dI x.c0).2 (dI x.c1).1 (dI x.c1).2 (dI x.c2).1 (dI x.c2).2 (dI x.c3).1 (dI x.c3).2 (dI x.d).1 (dI x.d).2 (dI y.c0).1 (dI y.c0).2 (dI y.c1).1 (dI y.c1).2 (dI y.c2).1 (dI y.c2).2 (dI y.c3).1 (dI y.c3).2 (dI y.d).1 (dI y.d).2).fin.cn3=(dI (qprod x y).c3).1∧(prS (dI x.c0).1 (dI x.c0).2 (dI x.c1).1 (dI x.c1).2 (dI x.c2).1 (dI x.c2).2 (dI x.c3).1 (dI x.c3).2 (dI x.d).1 (dI x.d).2 (dI y.c0).1 (dI y.c0).2 (dI y.c1).1 (dI y.c1).2 (dI y.c2).1 (dI y.c2).2 (dI y.c3).1 (dI y.c3).2 (dI y.d).1 (dI y.d).2).fin.cs3=(dI (qprod x y).c3).2:=by
 have h0:vl false (⟨#[]⟩:ByteArray)=0:=rfl
 simp only [PrS.fin,PrS.wc,prS,ID,h0,qprod,and_self]
theorem Cc.ps (hx:x.Bd j) (hy:y.Bd k) (hj:j≤PRM) (hk:k≤PRM) (hd:x.d*y.d≠0):Cc.pre (dI x.c0).1 (dI x.c0).2 (dI x.c1).1 (dI x.c1).2 (dI x.c2).1 (dI x.c2).2 (dI x.c3).1 (dI x.c3).2 (dI x.d).1 (dI x.d).2 (dI y.c0).1 (dI y.c0).2 (dI y.c1).1 (dI y.c1).2 (dI y.c2).1 (dI y.c2).2 (dI y.c3).1 (dI y.c3).2 (dI y.d).1 (dI y.d).2=true:=by
 obtain ⟨e0,e1,e2,e3,e4,e5,e6,e7⟩:=Qt (x:=x) (y:=y)
 have hq:=Mk hx hy
 unfold Cc.pre
 rw [e0,e1,e2,e3,e4,e5,e6,e7,Gj,K2 hx.d hy.d (by unfold LIM; unfold PRM at hj; omega) (by unfold LIM; unfold PRM at hk; omega)]
 have hl:=Bf.ps (q:=qprod x y) hq (by unfold LIM; unfold PRM at hj hk; omega) hd
 have hl2:Bf.pre (dI (qprod x y).c0).1 (dI (qprod x y).c0).2 (dI (qprod x y).c1).1 (dI (qprod x y).c1).2 (dI (qprod x y).c2).1 (dI (qprod x y).c2).2 (dI (qprod x y).c3).1 (dI (qprod x y).c3).2 (dI (x.d*y.d)).1 (dI (x.d*y.d)).2=true:=hl
 rw [hl2,Bool.and_true,Bool.and_true]
 have z:∀k,szB k false (⟨#[]⟩:ByteArray)=true:=fun k=>by simp [szB,vld,vldL]; exact Nat.zero_le _
 simp only [pro.need,prS,zB,z]
 exact ⟨⟨⟨⟨⟨⟨⟨⟨⟨⟨⟨Gl (hx.c0.mono hj),Gl (hx.c1.mono hj)⟩,Gl (hx.c2.mono hj)⟩,Gl (hx.c3.mono hj)⟩,Gl (hy.c0.mono hk)⟩,Gl (hy.c1.mono hk)⟩,Gl (hy.c2.mono hk)⟩,Gl (hy.c3.mono hk)⟩,trivial⟩,trivial⟩,trivial⟩,trivial⟩
theorem Cc.es (hx:x.Bd j) (hy:y.Bd k) (hj:j≤PRM) (hk:k≤PRM) (hd:x.d*y.d≠0):Cc (dI x.c0).1 (dI x.c0).2 (dI x.c1).1 (dI x.c1).2 (dI x.c2).1 (dI x.c2).2 (dI x.c3).1 (dI x.c3).2 (dI x.d).1 (dI x.d).2 (dI y.c0).1 (dI y.c0).2 (dI y.c1).1 (dI y.c1).2 (dI y.c2).1 (dI y.c2).2 (dI y.c3).1 (dI y.c3).2 (dI y.d).1 (dI y.d).2=C5 (low (qprod x y)):=by
 obtain ⟨e0,e1,e2,e3,e4,e5,e6,e7⟩:=Qt (x:=x) (y:=y)
 unfold Cc
 rw [e0,e1,e2,e3,e4,e5,e6,e7,Gj]
 exact Bf.es (q:=qprod x y) (Mk hx hy) (by unfold LIM; unfold PRM at hj hk; omega) hd
end
def qneg (x:Q):Q:=⟨-x.c0,-x.c1,-x.c2,-x.c3,x.d⟩
def qsum (x y:Q):Q:=⟨x.c0*y.d+y.c0*x.d,x.c1*y.d+y.c1*x.d,x.c2*y.d+y.c2*x.d,x.c3*y.d+y.c3*x.d,x.d*y.d⟩
def qadd (x y:Q):Q:=low (qsum x y)
def qsub (x y:Q):Q:=qadd x (qneg y)
def qmul (x y:Q):Q:=low (qprod x y)
def qof (n:Int):Q:=⟨n,0,0,0,1⟩
theorem LX (n:Int):(qof n).ok=true:=by
 have:(qof n).g=1:=by
  show gg n 0 0 0 1=1
  unfold gg
  simp
 unfold Q.ok
 rw [this]
 rfl
theorem Q.ok_d {q:Q} (h:q.ok=true):0<q.d∧q.g=1:=by simpa [Q.ok] using h
theorem qneg_g (x:Q):(qneg x).g=x.g:=by
 show gg (-x.c0) (-x.c1) (-x.c2) (-x.c3) x.d=gg x.c0 x.c1 x.c2 x.c3 x.d
 unfold gg
 simp only [Int.gcd_neg]
theorem Kr (x:Q):(qneg x).ok=x.ok:=by
 unfold Q.ok
 rw [qneg_g]
 rfl
theorem OD {k:Nat} {x:Q} (h:x.Bd k):(qneg x).Bd k:=⟨h.c0.neg,h.c1.neg,h.c2.neg,h.c3.neg,h.d⟩
theorem OB {j k:Nat} {x y:Q} (hx:x.Bd j) (hy:y.Bd k):(qsum x y).Bd (j+k+1):=
 ⟨(hx.c0.mul hy.d).add ((hy.c0.mul hx.d).mono (by omega)),(hx.c1.mul hy.d).add ((hy.c1.mul hx.d).mono (by omega)),(hx.c2.mul hy.d).add ((hy.c2.mul hx.d).mono (by omega)),(hx.c3.mul hy.d).add ((hy.c3.mul hx.d).mono (by omega)),(hx.d.mul hy.d).mono (by omega)⟩
theorem HX {x y:Q} (hx:x.ok=true) (hy:y.ok=true):x.d*y.d≠0:=by
 have h1:=(Q.ok_d hx).1
 have h2:=(Q.ok_d hy).1
 exact Int.mul_ne_zero (by omega) (by omega)
theorem JF {x y:Q} (hx:x.ok=true) (hy:y.ok=true):(qadd x y).ok=true:=Q2 (q:=qsum x y) (HX hx hy)
theorem Fy {x y:Q} (hx:x.ok=true) (hy:y.ok=true):(qmul x y).ok=true:=Q2 (q:=qprod x y) (HX hx hy)
theorem MI {j k:Nat} {x y:Q} (hx:x.Bd j) (hy:y.Bd k) (ox:x.ok=true) (oy:y.ok=true):(qadd x y).Bd (j+k+1):=OM (OB hx hy) (HX ox oy)
theorem H0 {j k:Nat} {x y:Q} (hx:x.Bd j) (hy:y.Bd k) (ox:x.ok=true) (oy:y.ok=true):(qmul x y).Bd (j+k+5):=OM (Mk hx hy) (HX ox oy)
theorem LK:C5 Q.zero=(false,(⟨#[]⟩:ByteArray),false,⟨#[]⟩,false,⟨#[]⟩,false,⟨#[]⟩,false,⟨#[]⟩):=by simp only [C5,Q.zero,MS]
def mix (a b s:Int):Int:=if a=b∨b=0 then a else if a=0 then b else a*s
def sg2 (a b:Int):Int:=mix (sgn a) (sgn b) (sgn (a*a-2*(b*b)))
def sgz (c0 c1 c2 c3:Int):Int:=
 let p:=sg2 c0 c1; let q:=sg2 c2 c3
 if p=q∨q=0∨p=0 then mix p q 0 else
 mix p q (sg2 (1*(c0*c0)+2*(c1*c1)-(3*(c2*c2)+6*(c3*c3))) (2*(c0*c1)-6*(c2*c3)))
def Q.sg (x:Q):Int:=sgz x.c0 x.c1 x.c2 x.c3
theorem IM (z:Int):sgn z= -1∨sgn z=0∨sgn z=1:=by unfold sgn; split; exact .inl rfl; split; exact .inr (.inl rfl); exact .inr (.inr rfl)
theorem Rj {a b s:Int} (ha:a= -1∨a=0∨a=1) (hb:b= -1∨b=0∨b=1) (hs:s= -1∨s=0∨s=1):mix a b s= -1∨mix a b s=0∨mix a b s=1:=by
 rcases ha with rfl|rfl|rfl<;>rcases hb with rfl|rfl|rfl<;>rcases hs with rfl|rfl|rfl<;>decide
theorem Jv (a b:Int):sg2 a b= -1∨sg2 a b=0∨sg2 a b=1:=Rj (IM _) (IM _) (IM _)
theorem QT:Q.zero.ok=false:=rfl
theorem II (k:Nat):Q.zero.Bd k:=⟨Bd.zero k,Bd.zero k,Bd.zero k,Bd.zero k,Bd.zero k⟩
def cj2 (x:Q):Q:=⟨x.c0,x.c1,-x.c2,-x.c3,x.d⟩
def cj1 (x:Q):Q:=⟨x.c0,-x.c1,x.c2,-x.c3,x.d⟩
theorem cj2_g (x:Q):(cj2 x).g=x.g:=by
 show gg x.c0 x.c1 (-x.c2) (-x.c3) x.d=gg x.c0 x.c1 x.c2 x.c3 x.d
 unfold gg
 simp only [Int.gcd_neg]
theorem cj1_g (x:Q):(cj1 x).g=x.g:=by
 show gg x.c0 (-x.c1) x.c2 (-x.c3) x.d=gg x.c0 x.c1 x.c2 x.c3 x.d
 unfold gg
 simp only [Int.gcd_neg]
theorem Lu (x:Q):(cj2 x).ok=x.ok:=by unfold Q.ok; rw [cj2_g]; rfl
theorem Ke (x:Q):(cj1 x).ok=x.ok:=by unfold Q.ok; rw [cj1_g]; rfl
theorem TX {k:Nat} {x:Q} (h:x.Bd k):(cj2 x).Bd k:=⟨h.c0,h.c1,h.c2.neg,h.c3.neg,h.d⟩
theorem TY {k:Nat} {x:Q} (h:x.Bd k):(cj1 x).Bd k:=⟨h.c0,h.c1.neg,h.c2,h.c3.neg,h.d⟩
def qtwo (y:Q):Q:=qmul y (cj2 y)
def qone (y:Q):Q:=qmul (qtwo y) (cj1 (qtwo y))
def qinv (y:Q):Q:=low ⟨(qone y).d,0,0,0,(qone y).c0⟩
def qdiv (x y:Q):Q:=qmul (qmul x (cj2 y)) (qmul (cj1 (qtwo y)) (qinv y))
theorem root2:∀(n:Nat) (a b:Int),a.natAbs+b.natAbs≤n→a*a=2*(b*b)→a=0∧b=0
  |0,a,b,h,_=>by omega
  | n + 1,a,b,h,e=>by
    have ha:a%2=0:=by
      have h1:(a*a)%2=0:=by rw [e]; omega
      rw [Int.mul_emod] at h1
      rcases Int.emod_two_eq a with h2|h2<;>rw [h2] at h1<;>omega
    obtain ⟨c,rfl⟩:=Int.dvd_of_emod_eq_zero ha
    have e2:b*b=2*(c*c):=by
      have:2*c*(2*c)=4*(c*c):=by grind
      omega
    by_cases hz:c=0∧b=0
    · obtain ⟨rfl,rfl⟩:=hz; exact ⟨rfl,rfl⟩
    · by_cases hc:c=0
      · subst hc
        have:b*b=0:=by omega
        exact ⟨rfl,(Int.mul_eq_zero.1 this).elim id id⟩
      · have:=root2 n b c (by omega) e2
        exact absurd this.2 hc
theorem Qe (a:Int):(a*a)%3=0∨(a*a)%3=1:=by
 rw [Int.mul_emod]
 have h0:=Int.emod_nonneg a (show (3:Int)≠0 by decide)
 have h1:=Int.emod_lt_of_pos a (show (0:Int)<3 by decide)
 have:a%3=0∨a%3=1∨a%3=2:=by omega
 rcases this with h|h|h<;>rw [h]<;>decide
theorem Kk {a:Int} (h:(a*a)%3=0):a%3=0:=by
 rw [Int.mul_emod] at h
 have h0:=Int.emod_nonneg a (show (3:Int)≠0 by decide)
 have h1:=Int.emod_lt_of_pos a (show (0:Int)<3 by decide)
 have:a%3=0∨a%3=1∨a%3=2:=by omega
 rcases this with h'|h'|h'<;>rw [h'] at h<;>omega
theorem No {a b:Int} (h:(a*a+2*(b*b))%3=0) (h':(a*b)%3=0):a%3=0∧b%3=0:=by
 have ha:=Qe a
 have hb:=Qe b
 have hab:((a*a)*(b*b))%3=0:=by
  have:(a*a)*(b*b)=(a*b)*(a*b):=by grind
  rw [this,Int.mul_emod,h']; rfl
 rw [Int.mul_emod] at hab
 rcases ha with ha|ha<;>rcases hb with hb|hb
 ·exact ⟨Kk ha,Kk hb⟩
 ·omega
 ·omega
 ·rw [ha,hb] at hab; omega
theorem root3:∀(n:Nat) (a b c d:Int),a.natAbs+b.natAbs+c.natAbs+d.natAbs≤n→a*a+2*(b*b)=3*(c*c)+6*(d*d)→a*b=3*(c*d)→a=0∧b=0∧c=0∧d=0
 |0,a,b,c,d,h,_,_=>by omega
 | n +1,a,b,c,d,h,e1,e2=>by
  have hab:=No (a:=a) (b:=b) (by omega) (by omega)
  obtain ⟨a',rfl⟩:=Int.dvd_of_emod_eq_zero hab.1
  obtain ⟨b',rfl⟩:=Int.dvd_of_emod_eq_zero hab.2
  have q1:3*a'*(3*a')=9*(a'*a'):=by grind
  have q2:3*b'*(3*b')=9*(b'*b'):=by grind
  have q3:3*a'*(3*b')=9*(a'*b'):=by grind
  have hcd:=No (a:=c) (b:=d) (by omega) (by omega)
  obtain ⟨c',rfl⟩:=Int.dvd_of_emod_eq_zero hcd.1
  obtain ⟨d',rfl⟩:=Int.dvd_of_emod_eq_zero hcd.2
  have q4:3*c'*(3*c')=9*(c'*c'):=by grind
  have q5:3*d'*(3*d')=9*(d'*d'):=by grind
  have q6:3*c'*(3*d')=9*(c'*d'):=by grind
  by_cases hz:a'=0∧b'=0∧c'=0∧d'=0
  ·obtain ⟨rfl,rfl,rfl,rfl⟩:=hz; exact ⟨rfl,rfl,rfl,rfl⟩
  ·have:=root3 n a' b' c' d' (by omega) (by omega) (by omega)
   exact absurd this hz
theorem low_c0 {q:Q} (hd:q.d≠0) (h:q.c0≠0):(low q).c0≠0:=by
 obtain ⟨_,⟨c,hc⟩,_⟩:=Mc q
 have hn:=Ov hd
 show q.c0/sg_ q≠0
 rw [hc,Int.mul_ediv_cancel_left _ hn]
 rintro rfl
 rw [Int.mul_zero] at hc
 exact h hc
theorem Lh {q:Q} (hd:q.d≠0):∃m:Int,m≠0∧q.c0=m*(low q).c0∧q.c1=m*(low q).c1∧q.c2=m*(low q).c2∧q.c3=m*(low q).c3∧q.d=m*(low q).d:=by
 obtain ⟨d,d0,d1,d2,d3⟩:=Mc q
 have hn:=Ov hd
 have f:∀ {x:Int},sg_ q∣x→x=sg_ q*(x/sg_ q):=fun h=>(Int.mul_ediv_cancel' h).symm
 exact ⟨sg_ q,hn,f d0,f d1,f d2,f d3,f d⟩
theorem Mj {y:Q} (oy:y.ok=true):∃m:Int,m≠0∧y.c0*y.c0+2*(y.c1*y.c1)-3*(y.c2*y.c2)-6*(y.c3*y.c3)=m*(qtwo y).c0∧2*(y.c0*y.c1)-6*(y.c2*y.c3)=m*(qtwo y).c1∧(qtwo y).c2=0∧(qtwo y).c3=0:=by
 have hd:=HX oy (show (cj2 y).ok=true from by rw [Lu,oy])
 obtain ⟨m,hm,h0,h1,h2,h3,_⟩:=Lh (q:=qprod y (cj2 y)) hd
 refine ⟨m,hm,?_,?_,?_,?_⟩
 ·show _=m*(low (qprod y (cj2 y))).c0
  rw [←h0]
  simp only [qprod,cj2,Int.mul_neg]
  omega
 ·show _=m*(low (qprod y (cj2 y))).c1
  rw [←h1]
  simp only [qprod,cj2,Int.mul_neg]
  rw [Int.mul_comm y.c1 y.c0,Int.mul_comm y.c3 y.c2]
  omega
 ·have e:(qprod y (cj2 y)).c2=0:=by
   simp only [qprod,cj2,Int.mul_neg]
   rw [Int.mul_comm y.c2 y.c0,Int.mul_comm y.c3 y.c1]
   omega
  rw [e] at h2
  rcases Int.mul_eq_zero.1 h2.symm with h|h
  ·exact absurd h hm
  ·exact h
 ·have e:(qprod y (cj2 y)).c3=0:=by
   simp only [qprod,cj2,Int.mul_neg]
   rw [Int.mul_comm y.c3 y.c0,Int.mul_comm y.c2 y.c1]
   omega
  rw [e] at h3
  rcases Int.mul_eq_zero.1 h3.symm with h|h
  ·exact absurd h hm
  ·exact h
theorem Ie {y:Q} (oy:y.ok=true):(qtwo y).ok=true:=Fy oy (by rw [Lu,oy])
theorem OC {y:Q} (oy:y.ok=true):(qone y).ok=true:=Fy (Ie oy) (by rw [Ke,Ie oy])
theorem JE {y:Q} (oy:y.ok=true) (hy:¬(y.c0=0∧y.c1=0∧y.c2=0∧y.c3=0)):(qone y).c0≠0:=by
 obtain ⟨m,hm,h0,h1,h2,h3⟩:=Mj oy
 have ot:=Ie oy
 refine low_c0 (q:=qprod (qtwo y) (cj1 (qtwo y))) (HX ot (by rw [Ke,ot])) fun hz=> ?_
 have e:(qtwo y).c0*(qtwo y).c0=2*((qtwo y).c1*(qtwo y).c1):=by
  simp only [qprod,cj1,h2,h3,Int.mul_neg,Int.mul_zero,Int.zero_mul,Int.neg_zero] at hz
  omega
 obtain ⟨z0,z1⟩:=root2 _ _ _ (Nat.le_refl _) e
 rw [z0,Int.mul_zero] at h0
 rw [z1,Int.mul_zero] at h1
 exact hy (root3 _ _ _ _ _ (Nat.le_refl _) (by omega) (by omega))
theorem MH {y:Q} (oy:y.ok=true) (hy:¬(y.c0=0∧y.c1=0∧y.c2=0∧y.c3=0)):(qinv y).ok=true:=Q2 (q:=⟨(qone y).d,0,0,0,(qone y).c0⟩) (JE oy hy)
theorem qdiv_ok {x y:Q} (ox:x.ok=true) (oy:y.ok=true) (hy:¬(y.c0=0∧y.c1=0∧y.c2=0∧y.c3=0)):(qdiv x y).ok=true:=
 Fy (Fy ox (by rw [Lu,oy])) (Fy (by rw [Ke,Ie oy]) (MH oy hy))
end Go.Proofs.YtphlckkbihmlnaaGreatDoor.G
end
section
namespace Go.Proofs.YtphlckkbihmlnaaGreatDoor.G
open Go
class Sg (R:Type) extends Add R,Mul R,Neg R,Sub R where
 o:R
 s:R→Int
 q_sc:∀x,s x= -1∨s x=0∨s x=1
 q_sz:∀x,s x=0→x=o
 q_so:s o=0
 q_sn:∀x,s (-x)= -s x
 q_sm:∀x y,s (x*y)=s x*s y
 q_sa:∀x y,s x=1→s y=1→s (x+y)=1
 q_add_o:∀x,x+o=x
 q_o_add:∀x,o+x=x
 q_sub_eq:∀x y:R,x-y=x+ -y
 q_neg_add:∀x y:R,-(x+y)= -x+ -y
section
variable {R:Type} [Sg R]
open Sg
theorem sgC (x:R):s x= -1∨s x=0∨s x=1:=q_sc x
theorem sgZ (x:R) (h:s x=0):x=o:=q_sz x h
theorem sgO:s (o:R)=0:=q_so
theorem sgN (x:R):s (-x)= -s x:=q_sn x
theorem sgM (x y:R):s (x*y)=s x*s y:=q_sm x y
theorem sgA (x y:R) (h:s x=1) (h':s y=1):s (x+y)=1:=q_sa x y h h'
theorem NP (x:R):x+o=x:=q_add_o x
theorem Nl (x:R):o+x=x:=q_o_add x
theorem O4 (x y:R):x-y=x+ -y:=Sg.q_sub_eq (R:=R) x y
theorem neg_add (x y:R): -(x+y)= -x+ -y:=Sg.q_neg_add (R:=R) x y
end
structure Ri (R:Type) [Sg R] (r:R):Prop where
 i1:∀a b c d:R,(a+c)*(a+c)-r*((b+d)*(b+d))=(a*a-r*(b*b))+(c*c-r*(d*d))+((a*c-r*(b*d))+(a*c-r*(b*d)))
 i2:∀a b c d:R,(a*c-r*(b*d))*(a*c+r*(b*d))=a*a*(c*c-r*(d*d))+r*(d*d)*(a*a-r*(b*b))
 i3:∀x y:R,(x-y)+(x+y)=x+x
 i4:∀a b c d:R,(a*c+r*(b*d))*(a*c+r*(b*d))-r*((a*d+b*c)*(a*d+b*c))=(a*a-r*(b*b))*(c*c-r*(d*d))
 i6:∀a b:R,-a* -a-r*(-b* -b)=a*a-r*(b*b)
 i8:∀a b c d:R,(r*(b*d)-a*c)*(a*c+r*(b*d))=r*(b*b)* -(c*c-r*(d*d))+c*c* -(a*a-r*(b*b))
 i9:∀x y:R,(y-x)+(x+y)=y+y
 i10:∀a b c d:R,(a*d-b*c)*(a*d+b*c)*r=a*a* -(c*c-r*(d*d))+c*c*(a*a-r*(b*b))
 i11:∀a b c d:R,a*c+r*(b*d)=c*a+r*(d*b)∧a*d+b*c=c*b+d*a
 i12:∀a b c d:R,-((a+c)*(a+c)-r*((b+d)*(b+d)))= -(a*a-r*(b*b))+ -(c*c-r*(d*d))+((r*(b*d)-a*c)+(r*(b*d)-a*c))
 i13:∀x y:R,x+ -(x+y)= -y∧y+ -(x+y)= -x
 i14:∀x y:R,x+y=y+x
section
variable {R:Type} [Sg R]
open Sg
theorem Km {x:Int} (h:x= -1∨x=0∨x=1) (h0:0≤x):x=0∨x=1:=by omega
theorem Hr {x y:R} (hx:0≤s x) (hy:0≤s y) (h:s x=1∨s y=1):s (x+y)=1:=by
 rcases Km (sgC x) hx with h1|h1<;>rcases Km (sgC y) hy with h2|h2
 ·omega
 ·rw [sgZ x h1,Nl]; exact h2
 ·rw [sgZ y h2,NP]; exact h1
 ·exact sgA x y h1 h2
theorem GW (x:R):0≤s (x*x):=by
 rw [sgM]; rcases sgC x with h|h|h<;>rw [h]<;>decide
theorem s_sq {x:R} (h:s x≠0):s (x*x)=1:=by
 rw [sgM]; rcases sgC x with h1|h1|h1<;>rw [h1]
 ·rfl
 ·exact absurd h1 h
 ·rfl
theorem s_twice (x:R):s (x+x)=s x:=by
 rcases sgC x with h|h|h
 ·have h1:s (-x)=1:=by rw [sgN,h]; rfl
  have h2:=sgA _ _ h1 h1
  rw [←neg_add,sgN] at h2
  omega
 ·rw [sgZ x h,NP]
 ·rw [sgA _ _ h h,h]
theorem Po {p q x:R} (h:s (p*q)=1) (e:p+q=x+x):s p=s x∧s q=s x:=by
 rw [sgM] at h
 have h1:=s_twice x
 rw [←e] at h1
 rcases sgC p with hp|hp|hp<;>rcases sgC q with hq|hq|hq<;>rw [hp,hq] at h<;>first|exact absurd h (by decide)|skip
 ·have h2:=sgA (-p) (-q) (by rw [sgN,hp]; rfl) (by rw [sgN,hq]; rfl)
  rw [←neg_add,sgN] at h2
  omega
 ·have h2:=sgA p q hp hq
  omega
variable (r:R)
def nm_ (a b:R):R:=a*a-r*(b*b)
def sx (a b:R):Int:=mix (s a) (s b) (s (a*a-r*(b*b)))
variable {r}
variable (hr:s r=1)
include hr
theorem Hi {a b:R} (h:s (nm_ r a b)=1):sx r a b=s a∧s a≠0:=by
 have ha:s a≠0:=fun h0=>by
  have h1:s (a*a)=0:=by rw [sgM,h0]; rfl
  unfold nm_ at h
  rw [O4,sgZ _ h1,Nl,sgN,sgM,hr] at h
  have:=GW b
  omega
 refine ⟨?_,ha⟩
 unfold sx mix
 unfold nm_ at h
 rw [h]
 split
 ·rfl
 ·simp only [ha,if_false,Int.mul_one]
theorem HM {a b:R} (h:s (nm_ r a b)= -1):sx r a b=s b∧s b≠0:=by
 have hb:s b≠0:=fun h0=>by
  have h1:s (-(r*(b*b)))=0:=by rw [sgN,sgM,sgM,h0,Int.mul_zero,Int.mul_zero]; rfl
  unfold nm_ at h
  rw [O4,sgZ _ h1,NP] at h
  have:=GW a
  omega
 refine ⟨?_,hb⟩
 unfold sx mix
 unfold nm_ at h
 rw [h]
 have ca:=sgC a
 have cb:=sgC b
 split
 ·omega
 ·split
  ·rfl
  ·omega
variable (nsq:∀a b:R,s (nm_ r a b)=0→a=o∧b=o)
include nsq
omit hr in
theorem Gv {a b:R} (h:s (nm_ r a b)=0):sx r a b=0:=by
 obtain ⟨rfl,rfl⟩:=nsq a b h
 unfold sx mix
 rw [sgO]
 rfl
theorem SG (a b:R):sx r a b= -1∨sx r a b=0∨sx r a b=1:=by
 rcases sgC (nm_ r a b) with h|h|h
 ·rw [(HM hr h).1]; exact sgC b
 ·rw [Gv nsq h]; exact .inr (.inl rfl)
 ·rw [(Hi hr h).1]; exact sgC a
theorem QZ {a b:R} (h:sx r a b=0):a=o∧b=o:=by
 rcases sgC (nm_ r a b) with h1|h1|h1
 ·have:=HM hr h1; omega
 ·exact nsq a b h1
 ·have:=Hi hr h1; omega
variable (ri:Ri R r)
include ri
omit hr nsq in
theorem SE (a b:R):sx r (-a) (-b)= -sx r a b:=by
 unfold sx
 rw [ri.i6,sgN,sgN]
 rcases sgC a with h1|h1|h1<;>rcases sgC b with h2|h2|h2<;>rw [h1,h2]<;>simp [mix]
omit nsq in
theorem x_pp {a b c d:R} (h1:s (nm_ r a b)=1) (h2:s (nm_ r c d)=1):s (a*c-r*(b*d))=s (a*c)∧s (a*c+r*(b*d))=s (a*c):=by
 refine Po ?_ (ri.i3 _ _)
 rw [ri.i2]
 refine Hr ?_ ?_ (.inl ?_)
 ·rw [sgM,show s (c*c-r*(d*d))=1 from h2,Int.mul_one]; exact GW a
 ·rw [sgM,sgM,hr,show s (a*a-r*(b*b))=1 from h1,Int.one_mul,Int.mul_one]; exact GW d
 ·rw [sgM,show s (c*c-r*(d*d))=1 from h2,s_sq (Hi hr h1).2]; rfl
omit nsq in
theorem x_nn {a b c d:R} (h1:s (nm_ r a b)= -1) (h2:s (nm_ r c d)= -1):s (r*(b*d)-a*c)=s (b*d)∧s (a*c+r*(b*d))=s (b*d):=by
 have e:s (r*(b*d))=s (b*d):=by rw [sgM,hr,Int.one_mul]
 rw [←e]
 refine Po ?_ (ri.i9 _ _)
 rw [ri.i8]
 have e1:s (-(c*c-r*(d*d)))=1:=by rw [sgN,show s (c*c-r*(d*d))= -1 from h2]; rfl
 have e2:s (-(a*a-r*(b*b)))=1:=by rw [sgN,show s (a*a-r*(b*b))= -1 from h1]; rfl
 refine Hr ?_ ?_ (.inl ?_)
 ·rw [sgM,sgM,hr,e1,Int.one_mul,Int.mul_one]; exact GW b
 ·rw [sgM,e2,Int.mul_one]; exact GW c
 ·rw [sgM,sgM,hr,e1,s_sq (HM hr h1).2]; rfl
omit nsq in
theorem x_pn {a b c d:R} (h1:s (nm_ r a b)=1) (h2:s (nm_ r c d)= -1):s (a*d+b*c)=s (a*d):=by
 refine (Po (p:=a*d-b*c) ?_ (ri.i3 _ _)).2
 have e1:s (-(c*c-r*(d*d)))=1:=by rw [sgN,show s (c*c-r*(d*d))= -1 from h2]; rfl
 have e:s ((a*d-b*c)*(a*d+b*c)*r)=1:=by
  rw [ri.i10]
  refine Hr ?_ ?_ (.inl ?_)
  ·rw [sgM,e1,Int.mul_one]; exact GW a
  ·rw [sgM,show s (a*a-r*(b*b))=1 from h1,Int.mul_one]; exact GW c
  ·rw [sgM,e1,s_sq (Hi hr h1).2]; rfl
 rw [sgM,hr,Int.mul_one] at e
 exact e
theorem SF (a b c d:R):sx r (a*c+r*(b*d)) (a*d+b*c)=sx r a b*sx r c d:=by
 have hn:s (nm_ r (a*c+r*(b*d)) (a*d+b*c))=s (nm_ r a b)*s (nm_ r c d):=by
  show s ((a*c+r*(b*d))*(a*c+r*(b*d))-r*((a*d+b*c)*(a*d+b*c)))=_
  rw [ri.i4,sgM]; rfl
 rcases sgC (nm_ r a b) with h1|h1|h1<;>rcases sgC (nm_ r c d) with h2|h2|h2<;>rw [h1,h2] at hn
 ·rw [(Hi hr hn).1,(HM hr h1).1,(HM hr h2).1,(x_nn hr ri h1 h2).2,sgM]
 ·rw [Gv nsq hn,Gv nsq h2,Int.mul_zero]
 ·rw [(HM hr hn).1,(HM hr h1).1,(Hi hr h2).1,(ri.i11 a b c d).2,x_pn hr ri h2 h1,sgM,Int.mul_comm]
 ·rw [Gv nsq hn,Gv nsq h1,Int.zero_mul]
 ·rw [Gv nsq hn,Gv nsq h1,Int.zero_mul]
 ·rw [Gv nsq hn,Gv nsq h1,Int.zero_mul]
 ·rw [(HM hr hn).1,(Hi hr h1).1,(HM hr h2).1,x_pn hr ri h1 h2,sgM]
 ·rw [Gv nsq hn,Gv nsq h2,Int.mul_zero]
 ·rw [(Hi hr hn).1,(Hi hr h1).1,(Hi hr h2).1,(x_pp hr ri h1 h2).2,sgM]
omit nsq in
theorem n_pp {a b c d:R} (h1:s (nm_ r a b)=1) (h2:s (nm_ r c d)=1) (ha:s a=1) (hc:s c=1):s (nm_ r (a+c) (b+d))=1:=by
 have e:s (a*c-r*(b*d))=1:=by rw [(x_pp hr ri h1 h2).1,sgM,ha,hc]; rfl
 show s ((a+c)*(a+c)-r*((b+d)*(b+d)))=1
 rw [ri.i1]
 exact sgA _ _ (sgA _ _ h1 h2) (sgA _ _ e e)
omit nsq in
theorem n_nn {a b c d:R} (h1:s (nm_ r a b)= -1) (h2:s (nm_ r c d)= -1) (hb:s b=1) (hd:s d=1):s (nm_ r (a+c) (b+d))= -1:=by
 have e:s (r*(b*d)-a*c)=1:=by rw [(x_nn hr ri h1 h2).1,sgM,hb,hd]; rfl
 have e1:s (-(c*c-r*(d*d)))=1:=by rw [sgN,show s (c*c-r*(d*d))= -1 from h2]; rfl
 have e2:s (-(a*a-r*(b*b)))=1:=by rw [sgN,show s (a*a-r*(b*b))= -1 from h1]; rfl
 have h3:s (-((a+c)*(a+c)-r*((b+d)*(b+d))))=1:=by
  rw [ri.i12]
  exact sgA _ _ (sgA _ _ e2 e1) (sgA _ _ e e)
 rw [sgN] at h3
 show s ((a+c)*(a+c)-r*((b+d)*(b+d)))= -1
 omega
theorem Ne {a b c d:R} (h1:s (nm_ r a b)=1) (h2:s (nm_ r c d)= -1) (ha:s a=1) (hd:s d=1):sx r (a+c) (b+d)=1:=by
 have ng:∀x y:R,nm_ r (-x) (-y)=nm_ r x y:=fun x y=>ri.i6 x y
 rcases sgC (nm_ r (a+c) (b+d)) with h|h|h
 ·obtain ⟨e,hne⟩:=HM hr h
  rw [e]
  rcases sgC (b+d) with h3|h3|h3
  ·have h4:=n_nn hr ri h2 (c:= -(a+c)) (d:= -(b+d)) (by rw [ng]; exact h) hd (by rw [sgN,h3]; rfl)
   rw [(ri.i13 a c).2,(ri.i13 b d).2,ng] at h4
   omega
  ·omega
  ·exact h3
 ·obtain ⟨e1,e2⟩:=nsq _ _ h
  have f1:=(ri.i13 a c).2
  have f2:=(ri.i13 b d).2
  rw [e1] at f1
  rw [e2] at f2
  have no:(-(o:R))=o:=sgZ _ (by rw [sgN,sgO]; rfl)
  rw [no,NP] at f1 f2
  rw [f1,f2,ng] at h2
  omega
 ·obtain ⟨e,hne⟩:=Hi hr h
  rw [e]
  rcases sgC (a+c) with h3|h3|h3
  ·have h4:=n_pp hr ri h1 (c:= -(a+c)) (d:= -(b+d)) (by rw [ng]; exact h) ha (by rw [sgN,h3]; rfl)
   rw [(ri.i13 a c).1,(ri.i13 b d).1,ng] at h4
   omega
  ·omega
  ·exact h3
theorem SH {a b c d:R} (hz:sx r a b=1) (hw:sx r c d=1):sx r (a+c) (b+d)=1:=by
 rcases sgC (nm_ r a b) with h1|h1|h1
 ·have e1:=HM hr h1
  rcases sgC (nm_ r c d) with h2|h2|h2
  ·have e2:=HM hr h2
   rw [(HM hr (n_nn hr ri h1 h2 (by omega) (by omega))).1]
   exact sgA _ _ (by omega) (by omega)
  ·have:=Gv nsq h2; omega
  ·have e2:=Hi hr h2
   rw [ri.i14 a c,ri.i14 b d]
   exact Ne hr nsq ri h2 h1 (by omega) (by omega)
 ·have:=Gv nsq h1; omega
 ·have e1:=Hi hr h1
  rcases sgC (nm_ r c d) with h2|h2|h2
  ·have e2:=HM hr h2
   exact Ne hr nsq ri h1 h2 (by omega) (by omega)
  ·have:=Gv nsq h2; omega
  ·have e2:=Hi hr h2
   rw [(Hi hr (n_pp hr ri h1 h2 (by omega) (by omega))).1]
   exact sgA _ _ (by omega) (by omega)
end
instance:Sg Int where
 o:=0
 s:=sgn
 q_sc:=IM
 q_sz x h:=by unfold sgn at h; split at h; omega; split at h; assumption; omega
 q_so:=rfl
 q_sn x:=by unfold sgn; split<;>split<;>(try split)<;>(try split)<;>omega
 q_sm x y:=by
  rcases Int.lt_trichotomy x 0 with h|h|h<;>rcases Int.lt_trichotomy y 0 with h'|h'|h'
  ·have:=Int.mul_pos_of_neg_of_neg h h'; simp [sgn,h,h',show ¬x*y<0 by omega,show x*y≠0 by omega]
  ·subst h'; simp [sgn]
  ·have:=Int.mul_neg_of_neg_of_pos h h'; simp [sgn,h,show ¬y<0 by omega,show y≠0 by omega,this]
  ·subst h; simp [sgn]
  ·subst h; simp [sgn]
  ·subst h; simp [sgn]
  ·have:=Int.mul_neg_of_pos_of_neg h h'; simp [sgn,h',show ¬x<0 by omega,show x≠0 by omega,this]
  ·subst h'; simp [sgn]
  ·have:=Int.mul_pos h h'; simp [sgn,show ¬x<0 by omega,show x≠0 by omega,show ¬y<0 by omega,show y≠0 by omega,show ¬x*y<0 by omega,show x*y≠0 by omega]
 q_sa x y h h':=by unfold sgn at h h' ⊢; split at h<;>split at h'<;>(try split at h)<;>(try split at h')<;>(try split)<;>(try split)<;>omega
 q_add_o:=Int.add_zero
 q_o_add:=Int.zero_add
 q_sub_eq x y:=Int.sub_eq_add_neg
 q_neg_add x y:=Int.neg_add
theorem Pr (r:Int):Ri Int r where
 i1:=by intros; grind
 i2:=by intros; grind
 i3:=by intros; grind
 i4:=by intros; grind
 i6:=by intros; grind
 i8:=by intros; grind
 i9:=by intros; grind
 i10:=by intros; grind
 i11:=by intros; constructor<;>grind
 i12:=by intros; grind
 i13:=by intros; constructor<;>grind
 i14:=by intros; grind
structure Z2 where
 a:Int
 b:Int
theorem Z2.ext' {x y:Z2} (h:x.a=y.a) (h':x.b=y.b):x=y:=by
 cases x; cases y; simp only at h h'; rw [h,h']
instance:Add Z2:=⟨fun x y=>⟨x.a+y.a,x.b+y.b⟩⟩
instance:Mul Z2:=⟨fun x y=>⟨x.a*y.a+2*(x.b*y.b),x.a*y.b+x.b*y.a⟩⟩
instance:Neg Z2:=⟨fun x=>⟨-x.a,-x.b⟩⟩
instance:Sub Z2:=⟨fun x y=>⟨x.a-y.a,x.b-y.b⟩⟩
@[simp] theorem z2a_add (x y:Z2):(x+y).a=x.a+y.a:=rfl
@[simp] theorem z2b_add (x y:Z2):(x+y).b=x.b+y.b:=rfl
@[simp] theorem z2a_mul (x y:Z2):(x*y).a=x.a*y.a+2*(x.b*y.b):=rfl
@[simp] theorem z2b_mul (x y:Z2):(x*y).b=x.a*y.b+x.b*y.a:=rfl
@[simp] theorem z2a_neg (x:Z2):(-x).a= -x.a:=rfl
@[simp] theorem z2b_neg (x:Z2):(-x).b= -x.b:=rfl
@[simp] theorem z2a_sub (x y:Z2):(x-y).a=x.a-y.a:=rfl
@[simp] theorem z2b_sub (x y:Z2):(x-y).b=x.b-y.b:=rfl
theorem nsq2 (a b:Int) (h:Sg.s (nm_ (2:Int) a b)=0):a=Sg.o∧b=Sg.o:=by
 have h1:a*a-2*(b*b)=0:=sgZ (R:=Int) _ h
 exact root2 _ a b (Nat.le_refl _) (by omega)
instance:Sg Z2 where
 o:=⟨0,0⟩
 s x:=sg2 x.a x.b
 q_sc x:=Jv x.a x.b
 q_sz x h:=by
  obtain ⟨h1,h2⟩:=QZ (R:=Int) (r:=2) (a:=x.a) (b:=x.b) rfl nsq2 h
  exact Z2.ext' h1 h2
 q_so:=rfl
 q_sn x:=SE (R:=Int) (r:=2) (Pr 2) x.a x.b
 q_sm x y:=SF (R:=Int) (r:=2) rfl nsq2 (Pr 2) x.a x.b y.a y.b
 q_sa x y h h':=SH (R:=Int) (r:=2) rfl nsq2 (Pr 2) (a:=x.a) (b:=x.b) (c:=y.a) (d:=y.b) h h'
 q_add_o x:=Z2.ext' (Int.add_zero _) (Int.add_zero _)
 q_o_add x:=Z2.ext' (Int.zero_add _) (Int.zero_add _)
 q_sub_eq x y:=Z2.ext' Int.sub_eq_add_neg Int.sub_eq_add_neg
 q_neg_add x y:=Z2.ext' Int.neg_add Int.neg_add
theorem s_z2 (x:Z2):Sg.s x=sg2 x.a x.b:=rfl
theorem SX (r:Z2):Ri Z2 r where
 i1:=by intros; refine Z2.ext' ?_ ?_<;>simp<;>grind
 i2:=by intros; refine Z2.ext' ?_ ?_<;>simp<;>grind
 i3:=by intros; refine Z2.ext' ?_ ?_<;>simp<;>grind
 i4:=by intros; refine Z2.ext' ?_ ?_<;>simp<;>grind
 i6:=by intros; refine Z2.ext' ?_ ?_<;>simp<;>grind
 i8:=by intros; refine Z2.ext' ?_ ?_<;>simp<;>grind
 i9:=by intros; refine Z2.ext' ?_ ?_<;>simp<;>grind
 i10:=by intros; refine Z2.ext' ?_ ?_<;>simp<;>grind
 i11:=by intros; constructor<;>refine Z2.ext' ?_ ?_<;>simp<;>grind
 i12:=by intros; refine Z2.ext' ?_ ?_<;>simp<;>grind
 i13:=by intros; constructor<;>refine Z2.ext' ?_ ?_<;>simp<;>grind
 i14:=by intros; refine Z2.ext' ?_ ?_<;>simp<;>grind
structure Z6 where
 p:Z2
 q:Z2
theorem Z6.ext' {x y:Z6} (h:x.p=y.p) (h':x.q=y.q):x=y:=by
 cases x; cases y; simp only at h h'; rw [h,h']
theorem Z6.ext4 {x y:Z6} (h0:x.p.a=y.p.a) (h1:x.p.b=y.p.b) (h2:x.q.a=y.q.a) (h3:x.q.b=y.q.b):x=y:=Z6.ext' (Z2.ext' h0 h1) (Z2.ext' h2 h3)
abbrev thr:Z2:=⟨3,0⟩
instance:Add Z6:=⟨fun x y=>⟨x.p+y.p,x.q+y.q⟩⟩
instance:Mul Z6:=⟨fun x y=>⟨x.p*y.p+thr*(x.q*y.q),x.p*y.q+x.q*y.p⟩⟩
instance:Neg Z6:=⟨fun x=>⟨-x.p,-x.q⟩⟩
instance:Sub Z6:=⟨fun x y=>⟨x.p-y.p,x.q-y.q⟩⟩
@[simp] theorem z6p_add (x y:Z6):(x+y).p=x.p+y.p:=rfl
@[simp] theorem z6q_add (x y:Z6):(x+y).q=x.q+y.q:=rfl
@[simp] theorem z6p_mul (x y:Z6):(x*y).p=x.p*y.p+thr*(x.q*y.q):=rfl
@[simp] theorem z6q_mul (x y:Z6):(x*y).q=x.p*y.q+x.q*y.p:=rfl
@[simp] theorem z6p_neg (x:Z6):(-x).p= -x.p:=rfl
@[simp] theorem z6q_neg (x:Z6):(-x).q= -x.q:=rfl
theorem nsq3 (p q:Z2) (h:Sg.s (nm_ thr p q)=0):p=Sg.o∧q=Sg.o:=by
 have h1:p*p-thr*(q*q)=Sg.o:=sgZ (R:=Z2) _ h
 have h2:(p*p-thr*(q*q)).a=0:=by rw [h1]; rfl
 have h3:(p*p-thr*(q*q)).b=0:=by rw [h1]; rfl
 simp at h2 h3
 obtain ⟨e0,e1,e2,e3⟩:=root3 _ p.a p.b q.a q.b (Nat.le_refl _) (by omega) (by have:=Int.mul_comm p.b p.a; have:=Int.mul_comm q.b q.a; omega)
 exact ⟨Z2.ext' e0 e1,Z2.ext' e2 e3⟩
theorem Ql:Sg.s thr=1:=by decide
theorem Ja (c0 c1 c2 c3:Int):sx thr ⟨c0,c1⟩ ⟨c2,c3⟩=sgz c0 c1 c2 c3:=by
 unfold sx sgz
 have e0:Sg.s (⟨c0,c1⟩:Z2)=sg2 c0 c1:=rfl
 have e1:Sg.s (⟨c2,c3⟩:Z2)=sg2 c2 c3:=rfl
 have e2:Sg.s ((⟨c0,c1⟩:Z2)*⟨c0,c1⟩-thr*((⟨c2,c3⟩:Z2)*⟨c2,c3⟩))=sg2 (1*(c0*c0)+2*(c1*c1)-(3*(c2*c2)+6*(c3*c3))) (2*(c0*c1)-6*(c2*c3)):=by
  rw [s_z2]
  congr 1
  ·simp; omega
  ·simp
   have:=Int.mul_comm c1 c0
   have:=Int.mul_comm c3 c2
   omega
 rw [e0,e1,e2]
 simp only
 generalize sg2 c0 c1=a
 generalize sg2 c2 c3=b
 by_cases h:a=b∨b=0∨a=0
 ·rw [if_pos h]
  unfold mix
  rcases h with h|h|h
  ·simp [h]
  ·simp [h]
  ·subst h; by_cases h1:b=0
   ·simp [h1]
   ·simp [h1]
 ·rw [if_neg h]
instance:Sg Z6 where
 o:=⟨⟨0,0⟩,⟨0,0⟩⟩
 s x:=sgz x.p.a x.p.b x.q.a x.q.b
 q_sc x:=by rw [←Ja]; exact SG Ql nsq3 _ _
 q_sz x h:=by
  rw [←Ja] at h
  obtain ⟨h1,h2⟩:=QZ Ql nsq3 h
  exact Z6.ext' h1 h2
 q_so:=rfl
 q_sn x:=by rw [←Ja,←Ja]; exact SE (SX thr) x.p x.q
 q_sm x y:=by rw [←Ja,←Ja,←Ja]; exact SF Ql nsq3 (SX thr) x.p x.q y.p y.q
 q_sa x y h h':=by rw [←Ja] at h h' ⊢; exact SH Ql nsq3 (SX thr) (a:=x.p) (b:=x.q) (c:=y.p) (d:=y.q) h h'
 q_add_o x:=Z6.ext4 (Int.add_zero _) (Int.add_zero _) (Int.add_zero _) (Int.add_zero _)
 q_o_add x:=Z6.ext4 (Int.zero_add _) (Int.zero_add _) (Int.zero_add _) (Int.zero_add _)
 q_sub_eq x y:=Z6.ext4 Int.sub_eq_add_neg Int.sub_eq_add_neg Int.sub_eq_add_neg Int.sub_eq_add_neg
 q_neg_add x y:=Z6.ext4 Int.neg_add Int.neg_add Int.neg_add Int.neg_add
theorem Z6.mul_comm (x y:Z6):x*y=y*x:=by refine Z6.ext4 ?_ ?_ ?_ ?_<;>simp<;>grind
theorem Z6.mul_assoc (x y z:Z6):x*y*z=x*(y*z):=by refine Z6.ext4 ?_ ?_ ?_ ?_<;>simp<;>grind
theorem Z6.add_comm (x y:Z6):x+y=y+x:=by refine Z6.ext4 ?_ ?_ ?_ ?_<;>simp<;>grind
theorem Z6.add_assoc (x y z:Z6):x+y+z=x+(y+z):=by refine Z6.ext4 ?_ ?_ ?_ ?_<;>simp<;>grind
theorem Z6.add_mul (x y z:Z6):(x+y)*z=x*z+y*z:=by refine Z6.ext4 ?_ ?_ ?_ ?_<;>simp<;>grind
theorem Z6.neg_mul (x y:Z6): -x*y= -(x*y):=by refine Z6.ext4 ?_ ?_ ?_ ?_<;>simp<;>grind
theorem Z6.add_neg (x:Z6):x+ -x=Sg.o:=by refine Z6.ext4 ?_ ?_ ?_ ?_<;>simp [Sg.o]<;>omega
instance:Std.Commutative (α:=Z6) (· * ·):=⟨Z6.mul_comm⟩
instance:Std.Associative (α:=Z6) (· * ·):=⟨Z6.mul_assoc⟩
instance:Std.Commutative (α:=Z6) (· + ·):=⟨Z6.add_comm⟩
instance:Std.Associative (α:=Z6) (· + ·):=⟨Z6.add_assoc⟩
def zi (n:Int):Z6:=⟨⟨n,0⟩,⟨0,0⟩⟩
theorem MU (m n:Int):zi (m*n)=zi m*zi n:=by refine Z6.ext4 ?_ ?_ ?_ ?_<;>simp [zi]
theorem KL (m n:Int):zi (m+n)=zi m+zi n:=by refine Z6.ext4 ?_ ?_ ?_ ?_<;>simp [zi]
theorem S6 (m:Int):zi (-m)= -zi m:=by refine Z6.ext4 ?_ ?_ ?_ ?_<;>simp [zi]
theorem zi_one (x:Z6):zi 1*x=x:=by refine Z6.ext4 ?_ ?_ ?_ ?_<;>simp [zi]
theorem Sk (x:Z6):x*zi 1=x:=by rw [Z6.mul_comm,zi_one]
theorem s_zi (n:Int):Sg.s (zi n)=sgn n:=by
 show sgz n 0 0 0=sgn n
 have h0:sg2 0 0=0:=by decide
 have h1:sg2 n 0=sgn n:=by unfold sg2 mix; simp [show sgn 0=0 from rfl]
 unfold sgz
 simp only [h0,h1]
 unfold mix
 simp
theorem Kl {n:Int} :sgn n=1↔0<n:=by unfold sgn; split; omega; split<;>omega
theorem Ou {n:Int} :sgn n= -1↔n<0:=by unfold sgn; split; omega; split<;>omega
theorem Ot {n:Int} :sgn n=0↔n=0:=by unfold sgn; split; omega; split<;>omega
theorem LL {k x y:Z6} (hk:Sg.s k≠0) (h:k*x=k*y):x=y:=by
 have e:k*(x+ -y)=Sg.o:=by
  rw [Z6.mul_comm,Z6.add_mul,Z6.neg_mul,Z6.mul_comm x,Z6.mul_comm y,h,Z6.add_neg]
 have h1:Sg.s k*Sg.s (x+ -y)=0:=by rw [←sgM,e,sgO]
 have h2:Sg.s (x+ -y)=0:=(Int.mul_eq_zero.1 h1).resolve_left hk
 have h3:=sgZ _ h2
 calc x=x+(-y+y):=by rw [Z6.add_comm (-y) y,Z6.add_neg,NP]
  _=(x+ -y)+y:=by rw [Z6.add_assoc]
  _=y:=by rw [h3,Nl]
def wv (q:Q):Z6:=⟨⟨q.c0,q.c1⟩,⟨q.c2,q.c3⟩⟩
theorem sg_wv (q:Q):q.sg=Sg.s (wv q):=rfl
structure Rep (q:Q) (u v:Z6):Prop where
 nz:Sg.s v≠0
 eq:wv q*v=u*zi q.d
theorem H8 {q:Q} (h:q.ok=true):Sg.s (zi q.d)=1:=by rw [s_zi]; exact Kl.2 (Q.ok_d h).1
theorem Rep.self {q:Q} (h:q.ok=true):Rep q (wv q) (zi q.d):=⟨by rw [H8 h]; decide,rfl⟩
theorem Rep.conv {q:Q} {u v u' v':Z6} (h:Rep q u v) (hv:Sg.s v'≠0) (e:u*v'=u'*v):Rep q u' v':=by
 refine ⟨hv,LL h.nz ?_⟩
 have h1:=h.eq
 calc v*(wv q*v')=(wv q*v)*v':=by ac_rfl
  _=u*zi q.d*v':=by rw [h1]
  _=(u*v')*zi q.d:=by ac_rfl
  _=v*(u'*zi q.d):=by rw [e]; ac_rfl
theorem Rep.sg {q:Q} {u v:Z6} (h:Rep q u v) (ok:q.ok=true):q.sg=Sg.s u*Sg.s v:=by
 have h1:=congrArg Sg.s h.eq
 rw [sgM,sgM,H8 ok,Int.mul_one] at h1
 rw [sg_wv]
 have h2:=h.nz
 rcases sgC v with h3|h3|h3
 ·rw [h3] at h1 ⊢; omega
 ·omega
 ·rw [h3] at h1 ⊢; omega
theorem OL {q:Q} (hd:q.d≠0) {u v:Z6} (hv:Sg.s v≠0) (e:wv q*v=u*zi q.d):Rep (low q) u v:=by
 obtain ⟨m,hm,e0,e1,e2,e3,e4⟩:=Lh hd
 have hw:wv q=zi m*wv (low q):=by refine Z6.ext4 ?_ ?_ ?_ ?_<;>simp [zi,wv]<;>assumption
 have hz:zi q.d=zi m*zi (low q).d:=by rw [←MU,←e4]
 refine ⟨hv,LL (k:=zi m) (by rw [s_zi]; exact fun h=>hm (Ot.1 h)) ?_⟩
 calc zi m*(wv (low q)*v)=wv q*v:=by rw [hw]; ac_rfl
  _=u*(zi m*zi (low q).d):=by rw [e,hz]
  _=zi m*(u*zi (low q).d):=by ac_rfl
theorem wv_prod (x y:Q):wv (qprod x y)=wv x*wv y:=by
 refine Z6.ext4 ?_ ?_ ?_ ?_<;>simp [wv,qprod]<;>grind
theorem J1 {x y:Z6} (hx:Sg.s x≠0) (hy:Sg.s y≠0):Sg.s (x*y)≠0:=by
 rw [sgM]; exact Int.mul_ne_zero hx hy
theorem Rep.mul {x y:Q} {u v u' v':Z6} (hx:Rep x u v) (hy:Rep y u' v') (ox:x.ok=true) (oy:y.ok=true):Rep (qmul x y) (u*u') (v*v'):=by
 refine OL (q:=qprod x y) (HX ox oy) (J1 hx.nz hy.nz) ?_
 rw [wv_prod,show (qprod x y).d=x.d*y.d from rfl,MU]
 calc wv x*wv y*(v*v')=(wv x*v)*(wv y*v'):=by ac_rfl
  _=u*zi x.d*(u'*zi y.d):=by rw [hx.eq,hy.eq]
  _=u*u'*(zi x.d*zi y.d):=by ac_rfl
theorem wv_sum (x y:Q):wv (qsum x y)=wv x*zi y.d+wv y*zi x.d:=by
 refine Z6.ext4 ?_ ?_ ?_ ?_<;>simp [wv,qsum,zi]
theorem Rep.add {x y:Q} {u v u' v':Z6} (hx:Rep x u v) (hy:Rep y u' v') (ox:x.ok=true) (oy:y.ok=true):Rep (qadd x y) (u*v'+u'*v) (v*v'):=by
 refine OL (q:=qsum x y) (HX ox oy) (J1 hx.nz hy.nz) ?_
 rw [wv_sum,show (qsum x y).d=x.d*y.d from rfl,MU,Z6.add_mul,Z6.add_mul]
 have e1:wv x*zi y.d*(v*v')=u*v'*(zi x.d*zi y.d):=by
  calc wv x*zi y.d*(v*v')=(wv x*v)*(zi y.d*v'):=by ac_rfl
   _=_:=by rw [hx.eq]; ac_rfl
 have e2:wv y*zi x.d*(v*v')=u'*v*(zi x.d*zi y.d):=by
  calc wv y*zi x.d*(v*v')=(wv y*v')*(zi x.d*v):=by ac_rfl
   _=_:=by rw [hy.eq]; ac_rfl
 rw [e1,e2]
theorem wv_neg (x:Q):wv (qneg x)= -wv x:=rfl
theorem Rep.neg {x:Q} {u v:Z6} (h:Rep x u v):Rep (qneg x) (-u) v:=by
 refine ⟨h.nz,?_⟩
 rw [wv_neg,Z6.neg_mul,Z6.neg_mul,h.eq]; rfl
theorem Rep.of (n:Int):Rep (qof n) (zi n) (zi 1):=⟨by rw [s_zi]; decide,rfl⟩
theorem Rep.sub {x y:Q} {u v u' v':Z6} (hx:Rep x u v) (hy:Rep y u' v') (ox:x.ok=true) (oy:y.ok=true):Rep (qsub x y) (u*v'+ -u'*v) (v*v'):=hx.add hy.neg ox (by rw [Kr,oy])
theorem Sd {y:Q} (oy:y.ok=true):wv (qone y)=zi (qone y).c0:=by
 obtain ⟨m,hm,h0,h1,h2,h3⟩:=Mj oy
 have ot:=Ie oy
 obtain ⟨k,hk,e0,e1,e2,e3,e4⟩:=Lh (q:=qprod (qtwo y) (cj1 (qtwo y))) (HX ot (by rw [Ke,ot]))
 have z:∀ {a b:Int},a=0→a=k*b→b=0:=fun h h'=>by
  rw [h] at h'
  exact (Int.mul_eq_zero.1 h'.symm).resolve_left hk
 have f1:=z (by simp only [qprod,cj1,h2,h3]; grind) e1
 have f2:=z (by simp only [qprod,cj1,h2,h3]; grind) e2
 have f3:=z (by simp only [qprod,cj1,h2,h3]; grind) e3
 exact Z6.ext4 rfl f1 f2 f3
theorem Rep.div {x y:Q} {u v u' v':Z6} (hx:Rep x u v) (hy:Rep y u' v') (ox:x.ok=true) (oy:y.ok=true) (hu:Sg.s u'≠0):Rep (qdiv x y) (u*v') (v*u'):=by
 have hsy:Sg.s (wv y)≠0:=fun h=>by
  have:=hy.sg oy
  rw [sg_wv,h] at this
  exact (Int.mul_ne_zero hu hy.nz) this.symm
 have hnz:¬(y.c0=0∧y.c1=0∧y.c2=0∧y.c3=0):=by
  rintro ⟨h0,h1,h2,h3⟩
  apply hsy
  unfold wv
  rw [h0,h1,h2,h3]
  rfl
 have oa:(cj2 y).ok=true:=by rw [Lu,oy]
 have ot:=Ie oy
 have ob:(cj1 (qtwo y)).ok=true:=by rw [Ke,ot]
 have on:=OC oy
 have oi:=MH oy hnz
 have hO:Sg.s (zi (qone y).c0)≠0:=by rw [s_zi]; exact fun h=>JE oy hnz (Ot.1 h)
 have r1:=(Rep.self ox).mul (Rep.self oa) ox oa
 have ri:Rep (qinv y) (zi (qone y).d) (zi (qone y).c0):=OL (q:=⟨(qone y).d,0,0,0,(qone y).c0⟩) (JE oy hnz) hO rfl
 have r2:=(Rep.self ob).mul ri ob oi
 have r:=r1.mul r2 (Fy ox oa) (Fy ob oi)
 refine r.conv (J1 hx.nz hu) ?_
 have t1:=((Rep.self oy).mul (Rep.self oa) oy oa).eq
 have t2:=((Rep.self ot).mul (Rep.self ob) ot ob).eq
 change wv (qtwo y)*(zi y.d*zi y.d)=wv y*wv (cj2 y)*zi (qtwo y).d at t1
 change wv (qone y)*(zi (qtwo y).d*zi (qtwo y).d)=wv (qtwo y)*wv (cj1 (qtwo y))*zi (qone y).d at t2
 rw [Sd oy] at t2
 change wv x*wv (cj2 y)*(wv (cj1 (qtwo y))*zi (qone y).d)*(v*u')=u*v'*(zi x.d*zi y.d*(zi (qtwo y).d*zi (qone y).c0))
 have hx1:=hx.eq
 have hy1:=hy.eq
 have hT:=H8 ot
 have hY:=H8 oy
 generalize wv (cj2 y)=Y' at*
 generalize wv (cj1 (qtwo y))=t' at*
 generalize wv (qtwo y)=t at*
 generalize zi (qtwo y).d=τ at*
 generalize zi (qone y).d=Od at*
 generalize zi (qone y).c0=Oc at*
 generalize zi y.d=D at*
 generalize wv y=Y at*
 generalize zi x.d=Dx at*
 generalize wv x=X at*
 refine LL (k:=τ*D) (J1 (by rw [hT]; decide) (by rw [hY]; decide)) ?_
 calc τ*D*(X*Y'*(t'*Od)*(v*u'))=(X*v)*(u'*D)*(τ*Y'*t'*Od):=by ac_rfl
  _=(u*Dx)*(Y*v')*(τ*Y'*t'*Od):=by rw [hx1,hy1]
  _=(Y*Y'*τ)*(u*Dx*v'*t'*Od):=by ac_rfl
  _=(t*(D*D))*(u*Dx*v'*t'*Od):=by rw [t1]
  _=(t*t'*Od)*(D*D*u*Dx*v'):=by ac_rfl
  _=(Oc*(τ*τ))*(D*D*u*Dx*v'):=by rw [t2]
  _=τ*D*(u*v'*(Dx*D*(τ*Oc))):=by ac_rfl
end Go.Proofs.YtphlckkbihmlnaaGreatDoor.G
end
