/- A part of what the law's proof leans on. PACKED BY pack.py of this repo. -/
import Derived.Test.YtpejalpgficopaaGreatDoorF12
set_option linter.unusedVariables false
set_option linter.unusedSimpArgs false
set_option linter.unusedSectionVars false
set_option linter.defProp false
set_option maxRecDepth 100000
open Go.IntKind (i64 u64 u32)
section
namespace Go.Proofs.YtpejalpgficopaaGreatDoor.G
open Go Go.Proofs RX
def prS (A7:Bool) (AA:ByteArray) (AG:Bool) (AF:ByteArray) (AE:Bool) (AD:ByteArray) (AI:Bool) (AH:ByteArray) (AK:Bool) (AJ:ByteArray) (AC:Bool) (AB:ByteArray) (AM:Bool) (AL:ByteArray) (AQ:Bool) (AP:ByteArray) (AS:Bool) (AR:ByteArray) (AO:Bool) (AN:ByteArray):PrS:=⟨false,(⟨#[]⟩:ByteArray),false,(⟨#[]⟩:ByteArray),false,(⟨#[]⟩:ByteArray),false,(⟨#[]⟩:ByteArray),false,(⟨#[]⟩:ByteArray),false,(⟨#[]⟩:ByteArray),false,(⟨#[]⟩:ByteArray),false,(⟨#[]⟩:ByteArray),false,(⟨#[]⟩:ByteArray),A7,AA,AG,AF,AE,AD,AI,AH,A7,AA,AG,AF,AE,AD,AI,AH,AK,AJ,AC,AB,AM,AL,AQ,AP,AS,AR,AO,AN⟩
theorem product.run (fM:Bool→ByteArray→Bool→ByteArray→(Bool×ByteArray)) (pM:Bool→ByteArray→Bool→ByteArray→Bool) (fL:TF5 T10) (pL:TF5 Bool) (A7:Bool) (AA:ByteArray) (AG:Bool) (AF:ByteArray) (AE:Bool) (AD:ByteArray) (AI:Bool) (AH:ByteArray) (AK:Bool) (AJ:ByteArray) (AC:Bool) (AB:ByteArray) (AM:Bool) (AL:ByteArray) (AQ:Bool) (AP:ByteArray) (AS:Bool) (AR:ByteArray) (AO:Bool) (AN:ByteArray):
 xfn Tryz.prog ⟨[(163,By.sp fM pM),(164,Az.sp fL pL)],[],[]⟩ [(0,pro.t)] 60 Tryz.f161 [.agg ⟨[.bool A7,.string AA,.bool AG,.string AF,.bool AE,.string AD,.bool AI,.string AH,.bool AK,.string AJ]⟩,.agg ⟨[.bool AC,.string AB,.bool AM,.string AL,.bool AQ,.string AP,.bool AS,.string AR,.bool AO,.string AN]⟩] []= bif pro.need (prS A7 AA AG AF AE AD AI AH AK AJ AC AB AM AL AQ AP AS AR AO AN) then bif pM AK AJ AO AN then bif pL (prS A7 AA AG AF AE AD AI AH AK AJ AC AB AM AL AQ AP AS AR AO AN).fin.cn0 (prS A7 AA AG AF AE AD AI AH AK AJ AC AB AM AL AQ AP AS AR AO AN).fin.cs0 (prS A7 AA AG AF AE AD AI AH AK AJ AC AB AM AL AQ AP AS AR AO AN).fin.cn1 (prS A7 AA AG AF AE AD AI AH AK AJ AC AB AM AL AQ AP AS AR AO AN).fin.cs1 (prS A7 AA AG AF AE AD AI AH AK AJ AC AB AM AL AQ AP AS AR AO AN).fin.cn2 (prS A7 AA AG AF AE AD AI AH AK AJ AC AB AM AL AQ AP AS AR AO AN).fin.cs2 (prS A7 AA AG AF AE AD AI AH AK AJ AC AB AM AL AQ AP AS AR AO AN).fin.cn3 (prS A7 AA AG AF AE AD AI AH AK AJ AC AB AM AL AQ AP AS AR AO AN).fin.cs3 (fM AK AJ AO AN).1 (fM AK AJ AO AN).2 then some (.agg ⟨[.bool (fL (prS A7 AA AG AF AE AD AI AH AK AJ AC AB AM AL AQ AP AS AR AO AN).fin.cn0 (prS A7 AA AG AF AE AD AI AH AK AJ AC AB AM AL AQ AP AS AR AO AN).fin.cs0 (prS A7 AA AG AF AE AD AI AH AK AJ AC AB AM AL AQ AP AS AR AO AN).fin.cn1 (prS A7 AA AG AF AE AD AI AH AK AJ AC AB AM AL AQ AP AS AR AO AN).fin.cs1 (prS A7 AA AG AF AE AD AI AH AK AJ AC AB AM AL AQ AP AS AR AO AN).fin.cn2 (prS A7 AA AG AF AE AD AI AH AK AJ AC AB AM AL AQ AP AS AR AO AN).fin.cs2 (prS A7 AA AG AF AE AD AI AH AK AJ AC AB AM AL AQ AP AS AR AO AN).fin.cn3 (prS A7 AA AG AF AE AD AI AH AK AJ AC AB AM AL AQ AP AS AR AO AN).fin.cs3 (fM AK AJ AO AN).1 (fM AK AJ AO AN).2).1,.string (fL (prS A7 AA AG AF AE AD AI AH AK AJ AC AB AM AL AQ AP AS AR AO AN).fin.cn0 (prS A7 AA AG AF AE AD AI AH AK AJ AC AB AM AL AQ AP AS AR AO AN).fin.cs0 (prS A7 AA AG AF AE AD AI AH AK AJ AC AB AM AL AQ AP AS AR AO AN).fin.cn1 (prS A7 AA AG AF AE AD AI AH AK AJ AC AB AM AL AQ AP AS AR AO AN).fin.cs1 (prS A7 AA AG AF AE AD AI AH AK AJ AC AB AM AL AQ AP AS AR AO AN).fin.cn2 (prS A7 AA AG AF AE AD AI AH AK AJ AC AB AM AL AQ AP AS AR AO AN).fin.cs2 (prS A7 AA AG AF AE AD AI AH AK AJ AC AB AM AL AQ AP AS AR AO AN).fin.cn3 (prS A7 AA AG AF AE AD AI AH AK AJ AC AB AM AL AQ AP AS AR AO AN).fin.cs3 (fM AK AJ AO AN).1 (fM AK AJ AO AN).2).2.1,.bool (fL (prS A7 AA AG AF AE AD AI AH AK AJ AC AB AM AL AQ AP AS AR AO AN).fin.cn0 (prS A7 AA AG AF AE AD AI AH AK AJ AC AB AM AL AQ AP AS AR AO AN).fin.cs0 (prS A7 AA AG AF AE AD AI AH AK AJ AC AB AM AL AQ AP AS AR AO AN).fin.cn1 (prS A7 AA AG AF AE AD AI AH AK AJ AC AB AM AL AQ AP AS AR AO AN).fin.cs1 (prS A7 AA AG AF AE AD AI AH AK AJ AC AB AM AL AQ AP AS AR AO AN).fin.cn2 (prS A7 AA AG AF AE AD AI AH AK AJ AC AB AM AL AQ AP AS AR AO AN).fin.cs2 (prS A7 AA AG AF AE AD AI AH AK AJ AC AB AM AL AQ AP AS AR AO AN).fin.cn3 (prS A7 AA AG AF AE AD AI AH AK AJ AC AB AM AL AQ AP AS AR AO AN).fin.cs3 (fM AK AJ AO AN).1 (fM AK AJ AO AN).2).2.2.1,.string (fL (prS A7 AA AG AF AE AD AI AH AK AJ AC AB AM AL AQ AP AS AR AO AN).fin.cn0 (prS A7 AA AG AF AE AD AI AH AK AJ AC AB AM AL AQ AP AS AR AO AN).fin.cs0 (prS A7 AA AG AF AE AD AI AH AK AJ AC AB AM AL AQ AP AS AR AO AN).fin.cn1 (prS A7 AA AG AF AE AD AI AH AK AJ AC AB AM AL AQ AP AS AR AO AN).fin.cs1 (prS A7 AA AG AF AE AD AI AH AK AJ AC AB AM AL AQ AP AS AR AO AN).fin.cn2 (prS A7 AA AG AF AE AD AI AH AK AJ AC AB AM AL AQ AP AS AR AO AN).fin.cs2 (prS A7 AA AG AF AE AD AI AH AK AJ AC AB AM AL AQ AP AS AR AO AN).fin.cn3 (prS A7 AA AG AF AE AD AI AH AK AJ AC AB AM AL AQ AP AS AR AO AN).fin.cs3 (fM AK AJ AO AN).1 (fM AK AJ AO AN).2).2.2.2.1,.bool (fL (prS A7 AA AG AF AE AD AI AH AK AJ AC AB AM AL AQ AP AS AR AO AN).fin.cn0 (prS A7 AA AG AF AE AD AI AH AK AJ AC AB AM AL AQ AP AS AR AO AN).fin.cs0 (prS A7 AA AG AF AE AD AI AH AK AJ AC AB AM AL AQ AP AS AR AO AN).fin.cn1 (prS A7 AA AG AF AE AD AI AH AK AJ AC AB AM AL AQ AP AS AR AO AN).fin.cs1 (prS A7 AA AG AF AE AD AI AH AK AJ AC AB AM AL AQ AP AS AR AO AN).fin.cn2 (prS A7 AA AG AF AE AD AI AH AK AJ AC AB AM AL AQ AP AS AR AO AN).fin.cs2 (prS A7 AA AG AF AE AD AI AH AK AJ AC AB AM AL AQ AP AS AR AO AN).fin.cn3 (prS A7 AA AG AF AE AD AI AH AK AJ AC AB AM AL AQ AP AS AR AO AN).fin.cs3 (fM AK AJ AO AN).1 (fM AK AJ AO AN).2).2.2.2.2.1,.string (fL (prS A7 AA AG AF AE AD AI AH AK AJ AC AB AM AL AQ AP AS AR AO AN).fin.cn0 (prS A7 AA AG AF AE AD AI AH AK AJ AC AB AM AL AQ AP AS AR AO AN).fin.cs0 (prS A7 AA AG AF AE AD AI AH AK AJ AC AB AM AL AQ AP AS AR AO AN).fin.cn1 (prS A7 AA AG AF AE AD AI AH AK AJ AC AB AM AL AQ AP AS AR AO AN).fin.cs1 (prS A7 AA AG AF AE AD AI AH AK AJ AC AB AM AL AQ AP AS AR AO AN).fin.cn2 (prS A7 AA AG AF AE AD AI AH AK AJ AC AB AM AL AQ AP AS AR AO AN).fin.cs2 (prS A7 AA AG AF AE AD AI AH AK AJ AC AB AM AL AQ AP AS AR AO AN).fin.cn3 (prS A7 AA AG AF AE AD AI AH AK AJ AC AB AM AL AQ AP AS AR AO AN).fin.cs3 (fM AK AJ AO AN).1 (fM AK AJ AO AN).2).2.2.2.2.2.1,.bool (fL (prS A7 AA AG AF AE AD AI AH AK AJ AC AB AM AL AQ AP AS AR AO AN).fin.cn0 (prS A7 AA AG AF AE AD AI AH AK AJ AC AB AM AL AQ AP AS AR AO AN).fin.cs0 (prS A7 AA AG AF AE AD AI AH AK AJ AC AB AM AL AQ AP AS AR AO AN).fin.cn1 (prS A7 AA AG AF AE AD AI AH AK AJ AC AB AM AL AQ AP AS AR AO AN).fin.cs1 (prS A7 AA AG AF AE AD AI AH AK AJ AC AB AM AL AQ AP AS AR AO AN).fin.cn2 (prS A7 AA AG AF AE AD AI AH AK AJ AC AB AM AL AQ AP AS AR AO AN).fin.cs2 (prS A7 AA AG AF AE AD AI AH AK AJ AC AB AM AL AQ AP AS AR AO AN).fin.cn3 (prS A7 AA AG AF AE AD AI AH AK AJ AC AB AM AL AQ AP AS AR AO AN).fin.cs3 (fM AK AJ AO AN).1 (fM AK AJ AO AN).2).2.2.2.2.2.2.1,.string (fL (prS A7 AA AG AF AE AD AI AH AK AJ AC AB AM AL AQ AP AS AR AO AN).fin.cn0 (prS A7 AA AG AF AE AD AI AH AK AJ AC AB AM AL AQ AP AS AR AO AN).fin.cs0 (prS A7 AA AG AF AE AD AI AH AK AJ AC AB AM AL AQ AP AS AR AO AN).fin.cn1 (prS A7 AA AG AF AE AD AI AH AK AJ AC AB AM AL AQ AP AS AR AO AN).fin.cs1 (prS A7 AA AG AF AE AD AI AH AK AJ AC AB AM AL AQ AP AS AR AO AN).fin.cn2 (prS A7 AA AG AF AE AD AI AH AK AJ AC AB AM AL AQ AP AS AR AO AN).fin.cs2 (prS A7 AA AG AF AE AD AI AH AK AJ AC AB AM AL AQ AP AS AR AO AN).fin.cn3 (prS A7 AA AG AF AE AD AI AH AK AJ AC AB AM AL AQ AP AS AR AO AN).fin.cs3 (fM AK AJ AO AN).1 (fM AK AJ AO AN).2).2.2.2.2.2.2.2.1,.bool (fL (prS A7 AA AG AF AE AD AI AH AK AJ AC AB AM AL AQ AP AS AR AO AN).fin.cn0 (prS A7 AA AG AF AE AD AI AH AK AJ AC AB AM AL AQ AP AS AR AO AN).fin.cs0 (prS A7 AA AG AF AE AD AI AH AK AJ AC AB AM AL AQ AP AS AR AO AN).fin.cn1 (prS A7 AA AG AF AE AD AI AH AK AJ AC AB AM AL AQ AP AS AR AO AN).fin.cs1 (prS A7 AA AG AF AE AD AI AH AK AJ AC AB AM AL AQ AP AS AR AO AN).fin.cn2 (prS A7 AA AG AF AE AD AI AH AK AJ AC AB AM AL AQ AP AS AR AO AN).fin.cs2 (prS A7 AA AG AF AE AD AI AH AK AJ AC AB AM AL AQ AP AS AR AO AN).fin.cn3 (prS A7 AA AG AF AE AD AI AH AK AJ AC AB AM AL AQ AP AS AR AO AN).fin.cs3 (fM AK AJ AO AN).1 (fM AK AJ AO AN).2).2.2.2.2.2.2.2.2.1,.string (fL (prS A7 AA AG AF AE AD AI AH AK AJ AC AB AM AL AQ AP AS AR AO AN).fin.cn0 (prS A7 AA AG AF AE AD AI AH AK AJ AC AB AM AL AQ AP AS AR AO AN).fin.cs0 (prS A7 AA AG AF AE AD AI AH AK AJ AC AB AM AL AQ AP AS AR AO AN).fin.cn1 (prS A7 AA AG AF AE AD AI AH AK AJ AC AB AM AL AQ AP AS AR AO AN).fin.cs1 (prS A7 AA AG AF AE AD AI AH AK AJ AC AB AM AL AQ AP AS AR AO AN).fin.cn2 (prS A7 AA AG AF AE AD AI AH AK AJ AC AB AM AL AQ AP AS AR AO AN).fin.cs2 (prS A7 AA AG AF AE AD AI AH AK AJ AC AB AM AL AQ AP AS AR AO AN).fin.cn3 (prS A7 AA AG AF AE AD AI AH AK AJ AC AB AM AL AQ AP AS AR AO AN).fin.cs3 (fM AK AJ AO AN).1 (fM AK AJ AO AN).2).2.2.2.2.2.2.2.2.2]⟩,[]) else none else none else none:=by kernel_rfl
section
variable (A7:Bool) (AA:ByteArray) (AG:Bool) (AF:ByteArray) (AE:Bool) (AD:ByteArray) (AI:Bool) (AH:ByteArray) (AK:Bool) (AJ:ByteArray) (AC:Bool) (AB:ByteArray) (AM:Bool) (AL:ByteArray) (AQ:Bool) (AP:ByteArray) (AS:Bool) (AR:ByteArray) (AO:Bool) (AN:ByteArray)
def Bw:T10:=Az (prS A7 AA AG AF AE AD AI AH AK AJ AC AB AM AL AQ AP AS AR AO AN).fin.cn0 (prS A7 AA AG AF AE AD AI AH AK AJ AC AB AM AL AQ AP AS AR AO AN).fin.cs0 (prS A7 AA AG AF AE AD AI AH AK AJ AC AB AM AL AQ AP AS AR AO AN).fin.cn1 (prS A7 AA AG AF AE AD AI AH AK AJ AC AB AM AL AQ AP AS AR AO AN).fin.cs1 (prS A7 AA AG AF AE AD AI AH AK AJ AC AB AM AL AQ AP AS AR AO AN).fin.cn2 (prS A7 AA AG AF AE AD AI AH AK AJ AC AB AM AL AQ AP AS AR AO AN).fin.cs2 (prS A7 AA AG AF AE AD AI AH AK AJ AC AB AM AL AQ AP AS AR AO AN).fin.cn3 (prS A7 AA AG AF AE AD AI AH AK AJ AC AB AM AL AQ AP AS AR AO AN).fin.cs3 (By AK AJ AO AN).1 (By AK AJ AO AN).2
def Bw.pre:Bool:=pro.need (prS A7 AA AG AF AE AD AI AH AK AJ AC AB AM AL AQ AP AS AR AO AN)&&(By.pre AK AJ AO AN&&Az.pre (prS A7 AA AG AF AE AD AI AH AK AJ AC AB AM AL AQ AP AS AR AO AN).fin.cn0 (prS A7 AA AG AF AE AD AI AH AK AJ AC AB AM AL AQ AP AS AR AO AN).fin.cs0 (prS A7 AA AG AF AE AD AI AH AK AJ AC AB AM AL AQ AP AS AR AO AN).fin.cn1 (prS A7 AA AG AF AE AD AI AH AK AJ AC AB AM AL AQ AP AS AR AO AN).fin.cs1 (prS A7 AA AG AF AE AD AI AH AK AJ AC AB AM AL AQ AP AS AR AO AN).fin.cn2 (prS A7 AA AG AF AE AD AI AH AK AJ AC AB AM AL AQ AP AS AR AO AN).fin.cs2 (prS A7 AA AG AF AE AD AI AH AK AJ AC AB AM AL AQ AP AS AR AO AN).fin.cn3 (prS A7 AA AG AF AE AD AI AH AK AJ AC AB AM AL AQ AP AS AR AO AN).fin.cs3 (By AK AJ AO AN).1 (By AK AJ AO AN).2)
end
theorem Bw.ok:SOK Tryz.prog 161 (Bw.sp Bw Bw.pre):=by
 refine Dl (E:=⟨[(163,By.sp By By.pre),(164,Az.sp Az Az.pre)],[],[]⟩) (L:=[(0,pro.t)]) ⟨Aa By.ok (Aa Az.ok Ac),Aq,Aj,Ap⟩ 60 Tryz.func161 (by decide) rfl (F2 rfl rfl pro.lok) fun vs bl v bl' h=> ?_
 unfold Bw.sp at h
 split at h
 ·rename_i A7 AA AG AF AE AD AI AH AK AJ AC AB AM AL AQ AP AS AR AO AN
  simp only [zS,zP] at h
  obtain ⟨hp,rfl,rfl⟩:=h
  unfold Bw.pre at hp
  simp only [zB] at hp
  refine ⟨(product.run By By.pre Az Az.pre A7 AA AG AF AE AD AI AH AK AJ AC AB AM AL AQ AP AS AR AO AN).trans (((ct hp.1).trans (ct hp.2.1)).trans (ct hp.2.2)),by simp [okV,Nat.blt],clo_spec 8 _ (by kernel_rfl),Bg (by kernel_rfl)⟩
 ·cases h
def qprod (x y:Q):Q:=⟨0+1*(x.c0*y.c0)+2*(x.c1*y.c1)+3*(x.c2*y.c2)+6*(x.c3*y.c3),0+1*(x.c0*y.c1)+1*(x.c1*y.c0)+3*(x.c2*y.c3)+3*(x.c3*y.c2),0+1*(x.c0*y.c2)+2*(x.c1*y.c3)+1*(x.c2*y.c0)+2*(x.c3*y.c1),0+1*(x.c0*y.c3)+1*(x.c1*y.c2)+1*(x.c2*y.c1)+1*(x.c3*y.c0),x.d*y.d⟩
theorem KI {j k:Nat} {c q a b:Int} {m:Nat} (hc:Bd m c) (hq:Few6 q) (ha:Bd j a) (hb:Bd k b) (hm:1+(j+k)≤m):Bd (m+1) (c+q*(a*b)):=hc.add (((Fu hq).mul (ha.mul hb)).mono hm)
theorem Kr {j k:Nat} {x y:Q} (hx:x.Bd j) (hy:y.Bd k):(qprod x y).Bd (j+k+5):=by
 have f1:Few6 1:= .inl rfl
 have f2:Few6 2:= .inr (.inl rfl)
 have f3:Few6 3:= .inr (.inr (.inl rfl))
 have f6:Few6 6:= .inr (.inr (.inr rfl))
 have z:Bd (1+(j+k)) 0:=Bd.zero _
 have four:∀ {q0 q1 q2 q3 a0 b0 a1 b1 a2 b2 a3 b3:Int},Few6 q0→Few6 q1→Few6 q2→Few6 q3→Bd j a0→Bd k b0→Bd j a1→Bd k b1→Bd j a2→Bd k b2→Bd j a3→Bd k b3→Bd (j+k+5) (0+q0*(a0*b0)+q1*(a1*b1)+q2*(a2*b2)+q3*(a3*b3)):=fun h0 h1 h2 h3 a0 b0 a1 b1 a2 b2 a3 b3=>
  (KI (KI (KI (KI z h0 a0 b0 (by omega)) h1 a1 b1 (by omega)) h2 a2 b2 (by omega)) h3 a3 b3 (by omega)).mono (by omega)
 exact ⟨four f1 f2 f3 f6 hx.c0 hy.c0 hx.c1 hy.c1 hx.c2 hy.c2 hx.c3 hy.c3,four f1 f1 f3 f3 hx.c0 hy.c1 hx.c1 hy.c0 hx.c2 hy.c3 hx.c3 hy.c2,four f1 f2 f1 f2 hx.c0 hy.c2 hx.c1 hy.c3 hx.c2 hy.c0 hx.c3 hy.c1,four f1 f1 f1 f1 hx.c0 hy.c3 hx.c1 hy.c2 hx.c2 hy.c1 hx.c3 hy.c0,(hx.d.mul hy.d).mono (by omega)⟩
section
variable {j k:Nat} {x y:Q}
theorem Oz:(prS (dI x.c0).1 (dI x.c0).2 (dI x.c1).1 (dI x.c1).2 (dI x.c2).1 (dI x.c2).2 (dI x.c3).1 (dI x.c3).2 (dI x.d).1 (dI x.d).2 (dI y.c0).1 (dI y.c0).2 (dI y.c1).1 (dI y.c1).2 (dI y.c2).1 (dI y.c2).2 (dI y.c3).1 (dI y.c3).2 (dI y.d).1 (dI y.d).2).fin.cn0=(dI (qprod x y).c0).1∧(prS (dI x.c0).1 (dI x.c0).2 (dI x.c1).1 (dI x.c1).2 (dI x.c2).1 (dI x.c2).2 (dI x.c3).1 (dI x.c3).2 (dI x.d).1 (dI x.d).2 (dI y.c0).1 (dI y.c0).2 (dI y.c1).1 (dI y.c1).2 (dI y.c2).1 (dI y.c2).2 (dI y.c3).1 (dI y.c3).2 (dI y.d).1 (dI y.d).2).fin.cs0=(dI (qprod x y).c0).2∧(prS (dI x.c0).1 (dI x.c0).2 (dI x.c1).1 (dI x.c1).2 (dI x.c2).1 (dI x.c2).2 (dI x.c3).1 (dI x.c3).2 (dI x.d).1 (dI x.d).2 (dI y.c0).1 (dI y.c0).2 (dI y.c1).1 (dI y.c1).2 (dI y.c2).1 (dI y.c2).2 (dI y.c3).1 (dI y.c3).2 (dI y.d).1 (dI y.d).2).fin.cn1=(dI (qprod x y).c1).1∧(prS (dI x.c0).1 (dI x.c0).2 (dI x.c1).1 (dI x.c1).2 (dI x.c2).1 (dI x.c2).2 (dI x.c3).1 (dI x.c3).2 (dI x.d).1 (dI x.d).2 (dI y.c0).1 (dI y.c0).2 (dI y.c1).1 (dI y.c1).2 (dI y.c2).1 (dI y.c2).2 (dI y.c3).1 (dI y.c3).2 (dI y.d).1 (dI y.d).2).fin.cs1=(dI (qprod x y).c1).2∧(prS (dI x.c0).1 (dI x.c0).2 (dI x.c1).1 (dI x.c1).2 (dI x.c2).1 (dI x.c2).2 (dI x.c3).1 (dI x.c3).2 (dI x.d).1 (dI x.d).2 (dI y.c0).1 (dI y.c0).2 (dI y.c1).1 (dI y.c1).2 (dI y.c2).1 (dI y.c2).2 (dI y.c3).1 (dI y.c3).2 (dI y.d).1 (dI y.d).2).fin.cn2=(dI (qprod x y).c2).1∧(prS (dI x.c0).1 (dI x.c0).2 (dI x.c1).1 (dI x.c1).2 (dI x.c2).1 (dI x.c2).2 (dI x.c3).1 (dI x.c3).2 (dI x.d).1 (dI x.d).2 (dI y.c0).1 (dI y.c0).2 (dI y.c1).1 (dI y.c1).2 (dI y.c2).1 (dI y.c2).2 (dI y.c3).1 (dI y.c3).2 (dI y.d).1 (dI y.d).2).fin.cs2=(dI (qprod x y).c2).2∧(prS (dI x.c0).1 (dI x.c0).2 (dI x.c1).1 (dI x.c1).2 (dI x.c2).1 (dI x.c2).2 (dI x.c3).1 (dI x.c3).2 (dI x.d).1 (dI x.d).2 (dI y.c0).1 (dI y.c0).2 (dI y.c1).1 (dI y.c1).2 (dI y.c2).1 (dI y.c2).2 (dI y.c3).1 (dI y.c3).2 (dI y.d).1 (dI y.d).2).fin.cn3=(dI (qprod x y).c3).1∧(prS (dI x.c0).1 (dI x.c0).2 (dI x.c1).1 (dI x.c1).2 (dI x.c2).1 (dI x.c2).2 (dI x.c3).1 (dI x.c3).2 (dI x.d).1 (dI x.d).2 (dI y.c0).1 (dI y.c0).2 (dI y.c1).1 (dI y.c1).2 (dI y.c2).1 (dI y.c2).2 (dI y.c3).1 (dI y.c3).2 (dI y.d).1 (dI y.d).2).fin.cs3=(dI (qprod x y).c3).2:=by
 have h0:vl false (⟨#[]⟩:ByteArray)=0:=rfl
 simp only [PrS.fin,PrS.wc,prS,Kb,h0,qprod,and_self]
theorem Bw.ps (hx:x.Bd j) (hy:y.Bd k) (hj:j≤PRM) (hk:k≤PRM) (hd:x.d*y.d≠0):Bw.pre (dI x.c0).1 (dI x.c0).2 (dI x.c1).1 (dI x.c1).2 (dI x.c2).1 (dI x.c2).2 (dI x.c3).1 (dI x.c3).2 (dI x.d).1 (dI x.d).2 (dI y.c0).1 (dI y.c0).2 (dI y.c1).1 (dI y.c1).2 (dI y.c2).1 (dI y.c2).2 (dI y.c3).1 (dI y.c3).2 (dI y.d).1 (dI y.d).2=true:=by
 obtain ⟨e0,e1,e2,e3,e4,e5,e6,e7⟩:=Oz (x:=x) (y:=y)
 have hq:=Kr hx hy
 unfold Bw.pre
 rw [e0,e1,e2,e3,e4,e5,e6,e7,Ey,I6 hx.d hy.d (by unfold LIM; unfold PRM at hj; omega) (by unfold LIM; unfold PRM at hk; omega)]
 have hl:=Az.ps (q:=qprod x y) hq (by unfold LIM; unfold PRM at hj hk; omega) hd
 have hl2:Az.pre (dI (qprod x y).c0).1 (dI (qprod x y).c0).2 (dI (qprod x y).c1).1 (dI (qprod x y).c1).2 (dI (qprod x y).c2).1 (dI (qprod x y).c2).2 (dI (qprod x y).c3).1 (dI (qprod x y).c3).2 (dI (x.d*y.d)).1 (dI (x.d*y.d)).2=true:=hl
 rw [hl2,Bool.and_true,Bool.and_true]
 have z:∀k,szB k false (⟨#[]⟩:ByteArray)=true:=fun k=>by simp [szB,vld,vldL]; exact Nat.zero_le _
 simp only [pro.need,prS,zB,z]
 exact ⟨⟨⟨⟨⟨⟨⟨⟨⟨⟨⟨F3 (hx.c0.mono hj),F3 (hx.c1.mono hj)⟩,F3 (hx.c2.mono hj)⟩,F3 (hx.c3.mono hj)⟩,F3 (hy.c0.mono hk)⟩,F3 (hy.c1.mono hk)⟩,F3 (hy.c2.mono hk)⟩,F3 (hy.c3.mono hk)⟩,trivial⟩,trivial⟩,trivial⟩,trivial⟩
theorem Bw.es (hx:x.Bd j) (hy:y.Bd k) (hj:j≤PRM) (hk:k≤PRM) (hd:x.d*y.d≠0):Bw (dI x.c0).1 (dI x.c0).2 (dI x.c1).1 (dI x.c1).2 (dI x.c2).1 (dI x.c2).2 (dI x.c3).1 (dI x.c3).2 (dI x.d).1 (dI x.d).2 (dI y.c0).1 (dI y.c0).2 (dI y.c1).1 (dI y.c1).2 (dI y.c2).1 (dI y.c2).2 (dI y.c3).1 (dI y.c3).2 (dI y.d).1 (dI y.d).2=C5 (low (qprod x y)):=by
 obtain ⟨e0,e1,e2,e3,e4,e5,e6,e7⟩:=Oz (x:=x) (y:=y)
 unfold Bw
 rw [e0,e1,e2,e3,e4,e5,e6,e7,Ey]
 exact Az.es (q:=qprod x y) (Kr hx hy) (by unfold LIM; unfold PRM at hj hk; omega) hd
end
def qneg (x:Q):Q:=⟨-x.c0,-x.c1,-x.c2,-x.c3,x.d⟩
def qsum (x y:Q):Q:=⟨x.c0*y.d+y.c0*x.d,x.c1*y.d+y.c1*x.d,x.c2*y.d+y.c2*x.d,x.c3*y.d+y.c3*x.d,x.d*y.d⟩
def qadd (x y:Q):Q:=low (qsum x y)
def qsub (x y:Q):Q:=qadd x (qneg y)
def qmul (x y:Q):Q:=low (qprod x y)
def qof (n:Int):Q:=⟨n,0,0,0,1⟩
theorem Q.ok_d {q:Q} (h:q.ok=true):0<q.d∧q.g=1:=by simpa [Q.ok] using h
theorem qneg_g (x:Q):(qneg x).g=x.g:=by
 show gg (-x.c0) (-x.c1) (-x.c2) (-x.c3) x.d=gg x.c0 x.c1 x.c2 x.c3 x.d
 unfold gg
 simp only [Int.gcd_neg]
theorem MN (x:Q):(qneg x).ok=x.ok:=by
 unfold Q.ok
 rw [qneg_g]
 rfl
theorem MO {k:Nat} {x:Q} (h:x.Bd k):(qneg x).Bd k:=⟨h.c0.neg,h.c1.neg,h.c2.neg,h.c3.neg,h.d⟩
theorem MM {j k:Nat} {x y:Q} (hx:x.Bd j) (hy:y.Bd k):(qsum x y).Bd (j+k+1):=
 ⟨(hx.c0.mul hy.d).add ((hy.c0.mul hx.d).mono (by omega)),(hx.c1.mul hy.d).add ((hy.c1.mul hx.d).mono (by omega)),(hx.c2.mul hy.d).add ((hy.c2.mul hx.d).mono (by omega)),(hx.c3.mul hy.d).add ((hy.c3.mul hx.d).mono (by omega)),(hx.d.mul hy.d).mono (by omega)⟩
theorem Fp {x y:Q} (hx:x.ok=true) (hy:y.ok=true):x.d*y.d≠0:=by
 have h1:=(Q.ok_d hx).1
 have h2:=(Q.ok_d hy).1
 exact Int.mul_ne_zero (by omega) (by omega)
theorem qadd_ok {x y:Q} (hx:x.ok=true) (hy:y.ok=true):(qadd x y).ok=true:=O2 (q:=qsum x y) (Fp hx hy)
theorem Hz {x y:Q} (hx:x.ok=true) (hy:y.ok=true):(qmul x y).ok=true:=O2 (q:=qprod x y) (Fp hx hy)
theorem qadd_bd {j k:Nat} {x y:Q} (hx:x.Bd j) (hy:y.Bd k) (ox:x.ok=true) (oy:y.ok=true):(qadd x y).Bd (j+k+1):=MT (MM hx hy) (Fp ox oy)
theorem G7 {j k:Nat} {x y:Q} (hx:x.Bd j) (hy:y.Bd k) (ox:x.ok=true) (oy:y.ok=true):(qmul x y).Bd (j+k+5):=MT (Kr hx hy) (Fp ox oy)
theorem JN:C5 Q.zero=(false,(⟨#[]⟩:ByteArray),false,⟨#[]⟩,false,⟨#[]⟩,false,⟨#[]⟩,false,⟨#[]⟩):=by simp only [C5,Q.zero,Me]
def mix (a b s:Int):Int:=if a=b∨b=0 then a else if a=0 then b else a*s
def sg2 (a b:Int):Int:=mix (sgn a) (sgn b) (sgn (a*a-2*(b*b)))
def sgz (c0 c1 c2 c3:Int):Int:=
 let p:=sg2 c0 c1; let q:=sg2 c2 c3
 if p=q∨q=0∨p=0 then mix p q 0 else
 mix p q (sg2 (1*(c0*c0)+2*(c1*c1)-(3*(c2*c2)+6*(c3*c3))) (2*(c0*c1)-6*(c2*c3)))
def Q.sg (x:Q):Int:=sgz x.c0 x.c1 x.c2 x.c3
theorem Gv (z:Int):sgn z= -1∨sgn z=0∨sgn z=1:=by unfold sgn; split; exact .inl rfl; split; exact .inr (.inl rfl); exact .inr (.inr rfl)
theorem Pm {a b s:Int} (ha:a= -1∨a=0∨a=1) (hb:b= -1∨b=0∨b=1) (hs:s= -1∨s=0∨s=1):mix a b s= -1∨mix a b s=0∨mix a b s=1:=by
 rcases ha with rfl|rfl|rfl<;>rcases hb with rfl|rfl|rfl<;>rcases hs with rfl|rfl|rfl<;>decide
theorem JR (a b:Int):sg2 a b= -1∨sg2 a b=0∨sg2 a b=1:=Pm (Gv _) (Gv _) (Gv _)
theorem OT:Q.zero.ok=false:=rfl
theorem GF (k:Nat):Q.zero.Bd k:=⟨Bd.zero k,Bd.zero k,Bd.zero k,Bd.zero k,Bd.zero k⟩
def cj2 (x:Q):Q:=⟨x.c0,x.c1,-x.c2,-x.c3,x.d⟩
def cj1 (x:Q):Q:=⟨x.c0,-x.c1,x.c2,-x.c3,x.d⟩
theorem cj2_g (x:Q):(cj2 x).g=x.g:=by
 show gg x.c0 x.c1 (-x.c2) (-x.c3) x.d=gg x.c0 x.c1 x.c2 x.c3 x.d
 unfold gg
 simp only [Int.gcd_neg]
theorem cj1_g (x:Q):(cj1 x).g=x.g:=by
 show gg x.c0 (-x.c1) x.c2 (-x.c3) x.d=gg x.c0 x.c1 x.c2 x.c3 x.d
 unfold gg
 simp only [Int.gcd_neg]
theorem Mh (x:Q):(cj2 x).ok=x.ok:=by unfold Q.ok; rw [cj2_g]; rfl
theorem Mi (x:Q):(cj1 x).ok=x.ok:=by unfold Q.ok; rw [cj1_g]; rfl
theorem RK {k:Nat} {x:Q} (h:x.Bd k):(cj2 x).Bd k:=⟨h.c0,h.c1,h.c2.neg,h.c3.neg,h.d⟩
theorem RL {k:Nat} {x:Q} (h:x.Bd k):(cj1 x).Bd k:=⟨h.c0,h.c1.neg,h.c2,h.c3.neg,h.d⟩
def qtwo (y:Q):Q:=qmul y (cj2 y)
def qone (y:Q):Q:=qmul (qtwo y) (cj1 (qtwo y))
def qinv (y:Q):Q:=low ⟨(qone y).d,0,0,0,(qone y).c0⟩
def qdiv (x y:Q):Q:=qmul (qmul x (cj2 y)) (qmul (cj1 (qtwo y)) (qinv y))
theorem root2:∀(n:Nat) (a b:Int),a.natAbs+b.natAbs≤n→a*a=2*(b*b)→a=0∧b=0
  |0,a,b,h,_=>by omega
  | n + 1,a,b,h,e=>by
    have ha:a%2=0:=by
      have h1:(a*a)%2=0:=by rw [e]; omega
      rw [Int.mul_emod] at h1
      rcases Int.emod_two_eq a with h2|h2<;>rw [h2] at h1<;>omega
    obtain ⟨c,rfl⟩:=Int.dvd_of_emod_eq_zero ha
    have e2:b*b=2*(c*c):=by
      have:2*c*(2*c)=4*(c*c):=by grind
      omega
    by_cases hz:c=0∧b=0
    · obtain ⟨rfl,rfl⟩:=hz; exact ⟨rfl,rfl⟩
    · by_cases hc:c=0
      · subst hc
        have:b*b=0:=by omega
        exact ⟨rfl,(Int.mul_eq_zero.1 this).elim id id⟩
      · have:=root2 n b c (by omega) e2
        exact absurd this.2 hc
theorem Oi (a:Int):(a*a)%3=0∨(a*a)%3=1:=by
 rw [Int.mul_emod]
 have h0:=Int.emod_nonneg a (show (3:Int)≠0 by decide)
 have h1:=Int.emod_lt_of_pos a (show (0:Int)<3 by decide)
 have:a%3=0∨a%3=1∨a%3=2:=by omega
 rcases this with h|h|h<;>rw [h]<;>decide
theorem It {a:Int} (h:(a*a)%3=0):a%3=0:=by
 rw [Int.mul_emod] at h
 have h0:=Int.emod_nonneg a (show (3:Int)≠0 by decide)
 have h1:=Int.emod_lt_of_pos a (show (0:Int)<3 by decide)
 have:a%3=0∨a%3=1∨a%3=2:=by omega
 rcases this with h'|h'|h'<;>rw [h'] at h<;>omega
theorem Lx {a b:Int} (h:(a*a+2*(b*b))%3=0) (h':(a*b)%3=0):a%3=0∧b%3=0:=by
 have ha:=Oi a
 have hb:=Oi b
 have hab:((a*a)*(b*b))%3=0:=by
  have:(a*a)*(b*b)=(a*b)*(a*b):=by grind
  rw [this,Int.mul_emod,h']; rfl
 rw [Int.mul_emod] at hab
 rcases ha with ha|ha<;>rcases hb with hb|hb
 ·exact ⟨It ha,It hb⟩
 ·omega
 ·omega
 ·rw [ha,hb] at hab; omega
theorem root3:∀(n:Nat) (a b c d:Int),a.natAbs+b.natAbs+c.natAbs+d.natAbs≤n→a*a+2*(b*b)=3*(c*c)+6*(d*d)→a*b=3*(c*d)→a=0∧b=0∧c=0∧d=0
 |0,a,b,c,d,h,_,_=>by omega
 | n +1,a,b,c,d,h,e1,e2=>by
  have hab:=Lx (a:=a) (b:=b) (by omega) (by omega)
  obtain ⟨a',rfl⟩:=Int.dvd_of_emod_eq_zero hab.1
  obtain ⟨b',rfl⟩:=Int.dvd_of_emod_eq_zero hab.2
  have q1:3*a'*(3*a')=9*(a'*a'):=by grind
  have q2:3*b'*(3*b')=9*(b'*b'):=by grind
  have q3:3*a'*(3*b')=9*(a'*b'):=by grind
  have hcd:=Lx (a:=c) (b:=d) (by omega) (by omega)
  obtain ⟨c',rfl⟩:=Int.dvd_of_emod_eq_zero hcd.1
  obtain ⟨d',rfl⟩:=Int.dvd_of_emod_eq_zero hcd.2
  have q4:3*c'*(3*c')=9*(c'*c'):=by grind
  have q5:3*d'*(3*d')=9*(d'*d'):=by grind
  have q6:3*c'*(3*d')=9*(c'*d'):=by grind
  by_cases hz:a'=0∧b'=0∧c'=0∧d'=0
  ·obtain ⟨rfl,rfl,rfl,rfl⟩:=hz; exact ⟨rfl,rfl,rfl,rfl⟩
  ·have:=root3 n a' b' c' d' (by omega) (by omega) (by omega)
   exact absurd this hz
theorem low_c0 {q:Q} (hd:q.d≠0) (h:q.c0≠0):(low q).c0≠0:=by
 obtain ⟨_,⟨c,hc⟩,_⟩:=Kj q
 have hn:=Mx hd
 show q.c0/sg_ q≠0
 rw [hc,Int.mul_ediv_cancel_left _ hn]
 rintro rfl
 rw [Int.mul_zero] at hc
 exact h hc
theorem Pp {q:Q} (hd:q.d≠0):∃m:Int,m≠0∧q.c0=m*(low q).c0∧q.c1=m*(low q).c1∧q.c2=m*(low q).c2∧q.c3=m*(low q).c3∧q.d=m*(low q).d:=by
 obtain ⟨d,d0,d1,d2,d3⟩:=Kj q
 have hn:=Mx hd
 have f:∀ {x:Int},sg_ q∣x→x=sg_ q*(x/sg_ q):=fun h=>(Int.mul_ediv_cancel' h).symm
 exact ⟨sg_ q,hn,f d0,f d1,f d2,f d3,f d⟩
theorem Ns {y:Q} (oy:y.ok=true):∃m:Int,m≠0∧y.c0*y.c0+2*(y.c1*y.c1)-3*(y.c2*y.c2)-6*(y.c3*y.c3)=m*(qtwo y).c0∧2*(y.c0*y.c1)-6*(y.c2*y.c3)=m*(qtwo y).c1∧(qtwo y).c2=0∧(qtwo y).c3=0:=by
 have hd:=Fp oy (show (cj2 y).ok=true from by rw [Mh,oy])
 obtain ⟨m,hm,h0,h1,h2,h3,_⟩:=Pp (q:=qprod y (cj2 y)) hd
 refine ⟨m,hm,?_,?_,?_,?_⟩
 ·show _=m*(low (qprod y (cj2 y))).c0
  rw [←h0]
  simp only [qprod,cj2,Int.mul_neg]
  omega
 ·show _=m*(low (qprod y (cj2 y))).c1
  rw [←h1]
  simp only [qprod,cj2,Int.mul_neg]
  rw [Int.mul_comm y.c1 y.c0,Int.mul_comm y.c3 y.c2]
  omega
 ·have e:(qprod y (cj2 y)).c2=0:=by
   simp only [qprod,cj2,Int.mul_neg]
   rw [Int.mul_comm y.c2 y.c0,Int.mul_comm y.c3 y.c1]
   omega
  rw [e] at h2
  rcases Int.mul_eq_zero.1 h2.symm with h|h
  ·exact absurd h hm
  ·exact h
 ·have e:(qprod y (cj2 y)).c3=0:=by
   simp only [qprod,cj2,Int.mul_neg]
   rw [Int.mul_comm y.c3 y.c0,Int.mul_comm y.c2 y.c1]
   omega
  rw [e] at h3
  rcases Int.mul_eq_zero.1 h3.symm with h|h
  ·exact absurd h hm
  ·exact h
theorem Iy {y:Q} (oy:y.ok=true):(qtwo y).ok=true:=Hz oy (by rw [Mh,oy])
theorem Ou {y:Q} (oy:y.ok=true):(qone y).ok=true:=Hz (Iy oy) (by rw [Mi,Iy oy])
theorem Iz {y:Q} (oy:y.ok=true) (hy:¬(y.c0=0∧y.c1=0∧y.c2=0∧y.c3=0)):(qone y).c0≠0:=by
 obtain ⟨m,hm,h0,h1,h2,h3⟩:=Ns oy
 have ot:=Iy oy
 refine low_c0 (q:=qprod (qtwo y) (cj1 (qtwo y))) (Fp ot (by rw [Mi,ot])) fun hz=> ?_
 have e:(qtwo y).c0*(qtwo y).c0=2*((qtwo y).c1*(qtwo y).c1):=by
  simp only [qprod,cj1,h2,h3,Int.mul_neg,Int.mul_zero,Int.zero_mul,Int.neg_zero] at hz
  omega
 obtain ⟨z0,z1⟩:=root2 _ _ _ (Nat.le_refl _) e
 rw [z0,Int.mul_zero] at h0
 rw [z1,Int.mul_zero] at h1
 exact hy (root3 _ _ _ _ _ (Nat.le_refl _) (by omega) (by omega))
theorem Ov {y:Q} (oy:y.ok=true) (hy:¬(y.c0=0∧y.c1=0∧y.c2=0∧y.c3=0)):(qinv y).ok=true:=O2 (q:=⟨(qone y).d,0,0,0,(qone y).c0⟩) (Iz oy hy)
end Go.Proofs.YtpejalpgficopaaGreatDoor.G
end
