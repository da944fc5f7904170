/- A part of what the law's proof leans on. PACKED BY pack.py of this repo. -/
import Derived.Test.YtpejalpgficopaaGreatDoorF11
set_option linter.unusedVariables false
set_option linter.unusedSimpArgs false
set_option linter.unusedSectionVars false
set_option linter.defProp false
set_option maxRecDepth 100000
open Go.IntKind (i64 u64 u32)
section
namespace Go.Proofs.YtpejalpgficopaaGreatDoor.G
open Go Go.Proofs RX
structure BigF where
 fM:Bool→ByteArray→Bool→ByteArray→(Bool×ByteArray)
 pM:Bool→ByteArray→Bool→ByteArray→Bool
 fA:Bool→ByteArray→Bool→ByteArray→(Bool×ByteArray)
 pA:Bool→ByteArray→Bool→ByteArray→Bool
 fO:Int→(Bool×ByteArray)
 pO:Int→Bool
structure PrS where
 (un0:Bool) (us0:ByteArray)
 (yn0:Bool) (ys0:ByteArray) (yn1:Bool) (ys1:ByteArray) (yn2:Bool) (ys2:ByteArray) (yn3:Bool) (ys3:ByteArray)
 (cn0:Bool) (cs0:ByteArray) (cn1:Bool) (cs1:ByteArray) (cn2:Bool) (cs2:ByteArray) (cn3:Bool) (cs3:ByteArray)
 (xn0:Bool) (xs0:ByteArray) (xn1:Bool) (xs1:ByteArray) (xn2:Bool) (xs2:ByteArray) (xn3:Bool) (xs3:ByteArray)
 (an0:Bool) (as0:ByteArray) (an1:Bool) (as1:ByteArray) (an2:Bool) (as2:ByteArray) (an3:Bool) (as3:ByteArray) (an4:Bool) (as4:ByteArray)
 (bn0:Bool) (bs0:ByteArray) (bn1:Bool) (bs1:ByteArray) (bn2:Bool) (bs2:ByteArray) (bn3:Bool) (bs3:ByteArray) (bn4:Bool) (bs4:ByteArray)
noncomputable abbrev BigF.env (F:BigF):Env:=⟨[(160,Ct.sp F.fO F.pO),(163,By.sp F.fM F.pM),(162,Dt.sp F.fA F.pA)],[],[]⟩
noncomputable abbrev pr.code:Code:=Jg (Ay Tryz.f161 0) 2
noncomputable abbrev pr.ex (F:BigF):=exec (R:=X×List Value×List (Option Blk)) Tryz.prog F.env [] (hs Tryz.prog F.env 5).lf (hs Tryz.prog F.env 5).cf pr.code
noncomputable abbrev pr.st (i j:Int) (s:PrS):St:=⟨gbuild [(2,.pointer (some ⟨0,0,none⟩)),(3,.pointer (some ⟨16,0,none⟩)),(4,.pointer (some ⟨32,0,none⟩)),(5,.pointer (some ⟨48,0,none⟩)),(6,.int .i64 i),(7,.pointer (some ⟨160,0,none⟩)),(12,.agg ⟨[.bool s.xn0,.string s.xs0,.bool s.xn1,.string s.xs1,.bool s.xn2,.string s.xs2,.bool s.xn3,.string s.xs3]⟩),(13,.int .i64 i),(18,.agg ⟨[.bool s.yn0,.string s.ys0,.bool s.yn1,.string s.ys1,.bool s.yn2,.string s.ys2,.bool s.yn3,.string s.ys3]⟩),(19,.int .i64 j)] 0 62,[(0,.cs [.bool s.an0,.string s.as0,.bool s.an1,.string s.as1,.bool s.an2,.string s.as2,.bool s.an3,.string s.as3,.bool s.an4,.string s.as4] 26),(16,.cs [.bool s.bn0,.string s.bs0,.bool s.bn1,.string s.bs1,.bool s.bn2,.string s.bs2,.bool s.bn3,.string s.bs3,.bool s.bn4,.string s.bs4] 26),(32,.cs [.bool false,.string ⟨#[]⟩,.bool false,.string ⟨#[]⟩,.bool false,.string ⟨#[]⟩,.bool false,.string ⟨#[]⟩,.bool false,.string ⟨#[]⟩] 26),(48,.cs [.bool s.cn0,.string s.cs0,.bool s.cn1,.string s.cs1,.bool s.cn2,.string s.cs2,.bool s.cn3,.string s.cs3] 24),(160,.cs [.bool s.un0,.string s.us0] 23)],256⟩
abbrev pr.pk:=pick 62 [2,3,4,5,6,7,12,13,18,19] [0,16,32,48,160]
abbrev pr.lk:=RX.lk [2,3,4,5,6,7,12,13,18,19] [0,16,32,48,160]
def prm (F:BigF) (k:Int) (un:Bool) (us:ByteArray) (yn:Bool) (ys:ByteArray):Bool×ByteArray:=F.fM (F.fO k).1 (F.fO k).2 (F.fM un us yn ys).1 (F.fM un us yn ys).2
def prc (F:BigF) (k:Int) (un:Bool) (us:ByteArray) (yn:Bool) (ys:ByteArray) (cn:Bool) (cs:ByteArray):Bool×ByteArray:=F.fA cn cs (prm F k un us yn ys).1 (prm F k un us yn ys).2
noncomputable abbrev prt (F:BigF) (k:Int) (un:Bool) (us:ByteArray) (yn:Bool) (ys:ByteArray) (cn:Bool) (cs:ByteArray) {A:Type} (skip go:Option A):Option A:=
 bif us.toList==(⟨#[]⟩:ByteArray).toList then skip else bif ys.toList==(⟨#[]⟩:ByteArray).toList then skip else
 bif F.pO k then bif F.pM un us yn ys then bif F.pM (F.fO k).1 (F.fO k).2 (F.fM un us yn ys).1 (F.fM un us yn ys).2 then
 bif F.pA cn cs (prm F k un us yn ys).1 (prm F k un us yn ys).2 then go else none else none else none else none
theorem pr.r00 (F:BigF) (s:PrS):pr.ex F (pr.st 0 0 s) pr.pk=prt F 1 s.un0 s.us0 s.yn0 s.ys0 s.cn0 s.cs0 (pr.lk .normal (pr.st 0 1 s)) (pr.lk .normal (pr.st 0 1 {s with cn0:=(prc F 1 s.un0 s.us0 s.yn0 s.ys0 s.cn0 s.cs0).1,cs0:=(prc F 1 s.un0 s.us0 s.yn0 s.ys0 s.cn0 s.cs0).2})):=by kernel_rfl
theorem pr.r01 (F:BigF) (s:PrS):pr.ex F (pr.st 0 1 s) pr.pk=prt F 1 s.un0 s.us0 s.yn1 s.ys1 s.cn1 s.cs1 (pr.lk .normal (pr.st 0 2 s)) (pr.lk .normal (pr.st 0 2 {s with cn1:=(prc F 1 s.un0 s.us0 s.yn1 s.ys1 s.cn1 s.cs1).1,cs1:=(prc F 1 s.un0 s.us0 s.yn1 s.ys1 s.cn1 s.cs1).2})):=by kernel_rfl
theorem pr.r02 (F:BigF) (s:PrS):pr.ex F (pr.st 0 2 s) pr.pk=prt F 1 s.un0 s.us0 s.yn2 s.ys2 s.cn2 s.cs2 (pr.lk .normal (pr.st 0 3 s)) (pr.lk .normal (pr.st 0 3 {s with cn2:=(prc F 1 s.un0 s.us0 s.yn2 s.ys2 s.cn2 s.cs2).1,cs2:=(prc F 1 s.un0 s.us0 s.yn2 s.ys2 s.cn2 s.cs2).2})):=by kernel_rfl
theorem pr.r03 (F:BigF) (s:PrS):pr.ex F (pr.st 0 3 s) pr.pk=prt F 1 s.un0 s.us0 s.yn3 s.ys3 s.cn3 s.cs3 (pr.lk .normal (pr.st 0 4 s)) (pr.lk .normal (pr.st 0 4 {s with cn3:=(prc F 1 s.un0 s.us0 s.yn3 s.ys3 s.cn3 s.cs3).1,cs3:=(prc F 1 s.un0 s.us0 s.yn3 s.ys3 s.cn3 s.cs3).2})):=by kernel_rfl
theorem pr.r04 (F:BigF) (s:PrS):pr.ex F (pr.st 0 4 s) pr.pk=pr.lk (.exit 2) (pr.st 0 4 s):=by kernel_rfl
theorem pr.r10 (F:BigF) (s:PrS):pr.ex F (pr.st 1 0 s) pr.pk=prt F 1 s.un0 s.us0 s.yn0 s.ys0 s.cn1 s.cs1 (pr.lk .normal (pr.st 1 1 s)) (pr.lk .normal (pr.st 1 1 {s with cn1:=(prc F 1 s.un0 s.us0 s.yn0 s.ys0 s.cn1 s.cs1).1,cs1:=(prc F 1 s.un0 s.us0 s.yn0 s.ys0 s.cn1 s.cs1).2})):=by kernel_rfl
theorem pr.r11 (F:BigF) (s:PrS):pr.ex F (pr.st 1 1 s) pr.pk=prt F 2 s.un0 s.us0 s.yn1 s.ys1 s.cn0 s.cs0 (pr.lk .normal (pr.st 1 2 s)) (pr.lk .normal (pr.st 1 2 {s with cn0:=(prc F 2 s.un0 s.us0 s.yn1 s.ys1 s.cn0 s.cs0).1,cs0:=(prc F 2 s.un0 s.us0 s.yn1 s.ys1 s.cn0 s.cs0).2})):=by kernel_rfl
theorem pr.r12 (F:BigF) (s:PrS):pr.ex F (pr.st 1 2 s) pr.pk=prt F 1 s.un0 s.us0 s.yn2 s.ys2 s.cn3 s.cs3 (pr.lk .normal (pr.st 1 3 s)) (pr.lk .normal (pr.st 1 3 {s with cn3:=(prc F 1 s.un0 s.us0 s.yn2 s.ys2 s.cn3 s.cs3).1,cs3:=(prc F 1 s.un0 s.us0 s.yn2 s.ys2 s.cn3 s.cs3).2})):=by kernel_rfl
theorem pr.r13 (F:BigF) (s:PrS):pr.ex F (pr.st 1 3 s) pr.pk=prt F 2 s.un0 s.us0 s.yn3 s.ys3 s.cn2 s.cs2 (pr.lk .normal (pr.st 1 4 s)) (pr.lk .normal (pr.st 1 4 {s with cn2:=(prc F 2 s.un0 s.us0 s.yn3 s.ys3 s.cn2 s.cs2).1,cs2:=(prc F 2 s.un0 s.us0 s.yn3 s.ys3 s.cn2 s.cs2).2})):=by kernel_rfl
theorem pr.r14 (F:BigF) (s:PrS):pr.ex F (pr.st 1 4 s) pr.pk=pr.lk (.exit 2) (pr.st 1 4 s):=by kernel_rfl
theorem pr.r20 (F:BigF) (s:PrS):pr.ex F (pr.st 2 0 s) pr.pk=prt F 1 s.un0 s.us0 s.yn0 s.ys0 s.cn2 s.cs2 (pr.lk .normal (pr.st 2 1 s)) (pr.lk .normal (pr.st 2 1 {s with cn2:=(prc F 1 s.un0 s.us0 s.yn0 s.ys0 s.cn2 s.cs2).1,cs2:=(prc F 1 s.un0 s.us0 s.yn0 s.ys0 s.cn2 s.cs2).2})):=by kernel_rfl
theorem pr.r21 (F:BigF) (s:PrS):pr.ex F (pr.st 2 1 s) pr.pk=prt F 1 s.un0 s.us0 s.yn1 s.ys1 s.cn3 s.cs3 (pr.lk .normal (pr.st 2 2 s)) (pr.lk .normal (pr.st 2 2 {s with cn3:=(prc F 1 s.un0 s.us0 s.yn1 s.ys1 s.cn3 s.cs3).1,cs3:=(prc F 1 s.un0 s.us0 s.yn1 s.ys1 s.cn3 s.cs3).2})):=by kernel_rfl
theorem pr.r22 (F:BigF) (s:PrS):pr.ex F (pr.st 2 2 s) pr.pk=prt F 3 s.un0 s.us0 s.yn2 s.ys2 s.cn0 s.cs0 (pr.lk .normal (pr.st 2 3 s)) (pr.lk .normal (pr.st 2 3 {s with cn0:=(prc F 3 s.un0 s.us0 s.yn2 s.ys2 s.cn0 s.cs0).1,cs0:=(prc F 3 s.un0 s.us0 s.yn2 s.ys2 s.cn0 s.cs0).2})):=by kernel_rfl
theorem pr.r23 (F:BigF) (s:PrS):pr.ex F (pr.st 2 3 s) pr.pk=prt F 3 s.un0 s.us0 s.yn3 s.ys3 s.cn1 s.cs1 (pr.lk .normal (pr.st 2 4 s)) (pr.lk .normal (pr.st 2 4 {s with cn1:=(prc F 3 s.un0 s.us0 s.yn3 s.ys3 s.cn1 s.cs1).1,cs1:=(prc F 3 s.un0 s.us0 s.yn3 s.ys3 s.cn1 s.cs1).2})):=by kernel_rfl
theorem pr.r24 (F:BigF) (s:PrS):pr.ex F (pr.st 2 4 s) pr.pk=pr.lk (.exit 2) (pr.st 2 4 s):=by kernel_rfl
theorem pr.r30 (F:BigF) (s:PrS):pr.ex F (pr.st 3 0 s) pr.pk=prt F 1 s.un0 s.us0 s.yn0 s.ys0 s.cn3 s.cs3 (pr.lk .normal (pr.st 3 1 s)) (pr.lk .normal (pr.st 3 1 {s with cn3:=(prc F 1 s.un0 s.us0 s.yn0 s.ys0 s.cn3 s.cs3).1,cs3:=(prc F 1 s.un0 s.us0 s.yn0 s.ys0 s.cn3 s.cs3).2})):=by kernel_rfl
theorem pr.r31 (F:BigF) (s:PrS):pr.ex F (pr.st 3 1 s) pr.pk=prt F 2 s.un0 s.us0 s.yn1 s.ys1 s.cn2 s.cs2 (pr.lk .normal (pr.st 3 2 s)) (pr.lk .normal (pr.st 3 2 {s with cn2:=(prc F 2 s.un0 s.us0 s.yn1 s.ys1 s.cn2 s.cs2).1,cs2:=(prc F 2 s.un0 s.us0 s.yn1 s.ys1 s.cn2 s.cs2).2})):=by kernel_rfl
theorem pr.r32 (F:BigF) (s:PrS):pr.ex F (pr.st 3 2 s) pr.pk=prt F 3 s.un0 s.us0 s.yn2 s.ys2 s.cn1 s.cs1 (pr.lk .normal (pr.st 3 3 s)) (pr.lk .normal (pr.st 3 3 {s with cn1:=(prc F 3 s.un0 s.us0 s.yn2 s.ys2 s.cn1 s.cs1).1,cs1:=(prc F 3 s.un0 s.us0 s.yn2 s.ys2 s.cn1 s.cs1).2})):=by kernel_rfl
theorem pr.r33 (F:BigF) (s:PrS):pr.ex F (pr.st 3 3 s) pr.pk=prt F 6 s.un0 s.us0 s.yn3 s.ys3 s.cn0 s.cs0 (pr.lk .normal (pr.st 3 4 s)) (pr.lk .normal (pr.st 3 4 {s with cn0:=(prc F 6 s.un0 s.us0 s.yn3 s.ys3 s.cn0 s.cs0).1,cs0:=(prc F 6 s.un0 s.us0 s.yn3 s.ys3 s.cn0 s.cs0).2})):=by kernel_rfl
theorem pr.r34 (F:BigF) (s:PrS):pr.ex F (pr.st 3 4 s) pr.pk=pr.lk (.exit 2) (pr.st 3 4 s):=by kernel_rfl
noncomputable def bigF:BigF:=⟨By,By.pre,Dt,Dt.pre,Ct,Ct.pre⟩
theorem F1:EnvOk Tryz.prog bigF.env:=⟨Aa Ct.ok (Aa By.ok (Aa Dt.ok Ac)),Aq,Aj,Ap⟩
def Few6 (k:Int):Prop:=k=1∨k=2∨k=3∨k=6
theorem Fu {k:Int} (hk:Few6 k):Bd 1 k:=by rcases hk with rfl|rfl|rfl|rfl<;>(unfold Bd; decide)
theorem Ef {k:Int} (u y c:Int):prc bigF k (dI u).1 (dI u).2 (dI y).1 (dI y).2 (dI c).1 (dI c).2=dI (c+k*(u*y)):=by
 show Dt _ _ _ _=_
 have:prm bigF k (dI u).1 (dI u).2 (dI y).1 (dI y).2=dI (k*(u*y)):=by
  show By (dI k).1 (dI k).2 _ _=_
  rw [show bigF.fM (dI u).1 (dI u).2 (dI y).1 (dI y).2=dI (u*y) from Ey u y,Ey]
 rw [this,Gp]
theorem Fd {A:Type} {k:Int} (hk:Few6 k) {m:Nat} (hm:m≤500000000) {u y c:Int} (hu:Bd m u) (hy:Bd m y) (hc:Bd (2*m+8) c) (skip go:Option A) (h:c+k*(u*y)=c→go=skip):
  prt bigF k (dI u).1 (dI u).2 (dI y).1 (dI y).2 (dI c).1 (dI c).2 skip go=go:=by
 unfold prt
 rw [RB,RB]
 by_cases h0:u=0
 ·subst h0; exact (h (by rw [Int.zero_mul,Int.mul_zero,Int.add_zero])).symm
 by_cases h1:y=0
 ·subst h1
  rw [E9 h0]
  exact (h (by rw [Int.mul_zero,Int.mul_zero,Int.add_zero])).symm
 have huy:=hu.mul hy
 have hkb:Bd 1 k:=by rcases hk with rfl|rfl|rfl|rfl<;>(unfold Bd; decide)
 have e1:bigF.fM (dI u).1 (dI u).2 (dI y).1 (dI y).2=dI (u*y):=Ey u y
 have e2:prm bigF k (dI u).1 (dI u).2 (dI y).1 (dI y).2=dI (k*(u*y)):=by
  show By (dI k).1 (dI k).2 _ _=_
  rw [e1,Ey]
 have p1:bigF.pO k=true:=by rcases hk with rfl|rfl|rfl|rfl<;>rfl
 have p2:bigF.pM (dI u).1 (dI u).2 (dI y).1 (dI y).2=true:=by
  show (szM _&&szM _)=true
  rw [Gq hu (by omega),Gq hy (by omega)]; rfl
 have p3:bigF.pM (bigF.fO k).1 (bigF.fO k).2 (bigF.fM (dI u).1 (dI u).2 (dI y).1 (dI y).2).1 (bigF.fM (dI u).1 (dI u).2 (dI y).1 (dI y).2).2=true:=by
  rw [e1]
  show (szM (dI k).2&&szM _)=true
  rw [Gq hkb (by omega),Gq huy (by omega)]; rfl
 have p4:bigF.pA (dI c).1 (dI c).2 (prm bigF k (dI u).1 (dI u).2 (dI y).1 (dI y).2).1 (prm bigF k (dI u).1 (dI u).2 (dI y).1 (dI y).2).2=true:=by
  rw [e2]
  show (szOk _&&szOk _)=true
  rw [Gf hc (by omega),Gf (hkb.mul huy) (by omega)]; rfl
 rw [E9 h0,E9 h1,p1,p2,p3,p4]; rfl
structure PrZ where
 (u y0 y1 y2 y3 c0 c1 c2 c3:Int)
noncomputable def PrS.to (s:PrS) (z:PrZ):PrS:= {s with un0:=(dI z.u).1,us0:=(dI z.u).2,yn0:=(dI z.y0).1,ys0:=(dI z.y0).2,yn1:=(dI z.y1).1,ys1:=(dI z.y1).2,yn2:=(dI z.y2).1,ys2:=(dI z.y2).2,yn3:=(dI z.y3).1,ys3:=(dI z.y3).2,cn0:=(dI z.c0).1,cs0:=(dI z.c0).2,cn1:=(dI z.c1).1,cs1:=(dI z.c1).2,cn2:=(dI z.c2).1,cs2:=(dI z.c2).2,cn3:=(dI z.c3).1,cs3:=(dI z.c3).2}
structure PrZ.Ok (m k:Nat) (z:PrZ):Prop where
 hm:m≤500000000
 hk:k≤2*m+8
 u:Bd m z.u
 y:Bd m z.y0∧Bd m z.y1∧Bd m z.y2∧Bd m z.y3
 c:Bd k z.c0∧Bd k z.c1∧Bd k z.c2∧Bd k z.c3
theorem pr.s00 {N:Nat→Prop} (s:PrS) {m k:Nat} (z:PrZ) (h:z.Ok m k) {x:X} {S':St} (ih:Lq Tryz.prog N pr.code (pr.st 0 1 (s.to {z with c0:=z.c0+1*(z.u*z.y0)})) x S'):Lq Tryz.prog N pr.code (pr.st 0 0 (s.to z)) x S':=by
 refine .to (f:=5) F1 Bs ((pr.r00 bigF (s.to z)).trans ((Fd (k:=1) (.inl rfl) h.hm h.u h.y.1 (h.c.1.mono h.hk) _ _ fun e=> ?_).trans ?_)) ?_ ih
 ·show pr.lk .normal (pr.st 0 1 {s.to z with cn0:=(prc bigF 1 (dI z.u).1 (dI z.u).2 (dI z.y0).1 (dI z.y0).2 (dI z.c0).1 (dI z.c0).2).1,cs0:=(prc bigF 1 (dI z.u).1 (dI z.u).2 (dI z.y0).1 (dI z.y0).2 (dI z.c0).1 (dI z.c0).2).2})=_
  rw [Ef,e]; rfl
 ·show pr.lk .normal (pr.st 0 1 {s.to z with cn0:=(prc bigF 1 (dI z.u).1 (dI z.u).2 (dI z.y0).1 (dI z.y0).2 (dI z.c0).1 (dI z.c0).2).1,cs0:=(prc bigF 1 (dI z.u).1 (dI z.u).2 (dI z.y0).1 (dI z.y0).2 (dI z.c0).1 (dI z.c0).2).2})=_
  rw [Ef]; rfl
 ·rfl
theorem pr.s01 {N:Nat→Prop} (s:PrS) {m k:Nat} (z:PrZ) (h:z.Ok m k) {x:X} {S':St} (ih:Lq Tryz.prog N pr.code (pr.st 0 2 (s.to {z with c1:=z.c1+1*(z.u*z.y1)})) x S'):Lq Tryz.prog N pr.code (pr.st 0 1 (s.to z)) x S':=by
 refine .to (f:=5) F1 Bs ((pr.r01 bigF (s.to z)).trans ((Fd (k:=1) (.inl rfl) h.hm h.u h.y.2.1 (h.c.2.1.mono h.hk) _ _ fun e=> ?_).trans ?_)) ?_ ih
 ·show pr.lk .normal (pr.st 0 2 {s.to z with cn1:=(prc bigF 1 (dI z.u).1 (dI z.u).2 (dI z.y1).1 (dI z.y1).2 (dI z.c1).1 (dI z.c1).2).1,cs1:=(prc bigF 1 (dI z.u).1 (dI z.u).2 (dI z.y1).1 (dI z.y1).2 (dI z.c1).1 (dI z.c1).2).2})=_
  rw [Ef,e]; rfl
 ·show pr.lk .normal (pr.st 0 2 {s.to z with cn1:=(prc bigF 1 (dI z.u).1 (dI z.u).2 (dI z.y1).1 (dI z.y1).2 (dI z.c1).1 (dI z.c1).2).1,cs1:=(prc bigF 1 (dI z.u).1 (dI z.u).2 (dI z.y1).1 (dI z.y1).2 (dI z.c1).1 (dI z.c1).2).2})=_
  rw [Ef]; rfl
 ·rfl
theorem pr.s02 {N:Nat→Prop} (s:PrS) {m k:Nat} (z:PrZ) (h:z.Ok m k) {x:X} {S':St} (ih:Lq Tryz.prog N pr.code (pr.st 0 3 (s.to {z with c2:=z.c2+1*(z.u*z.y2)})) x S'):Lq Tryz.prog N pr.code (pr.st 0 2 (s.to z)) x S':=by
 refine .to (f:=5) F1 Bs ((pr.r02 bigF (s.to z)).trans ((Fd (k:=1) (.inl rfl) h.hm h.u h.y.2.2.1 (h.c.2.2.1.mono h.hk) _ _ fun e=> ?_).trans ?_)) ?_ ih
 ·show pr.lk .normal (pr.st 0 3 {s.to z with cn2:=(prc bigF 1 (dI z.u).1 (dI z.u).2 (dI z.y2).1 (dI z.y2).2 (dI z.c2).1 (dI z.c2).2).1,cs2:=(prc bigF 1 (dI z.u).1 (dI z.u).2 (dI z.y2).1 (dI z.y2).2 (dI z.c2).1 (dI z.c2).2).2})=_
  rw [Ef,e]; rfl
 ·show pr.lk .normal (pr.st 0 3 {s.to z with cn2:=(prc bigF 1 (dI z.u).1 (dI z.u).2 (dI z.y2).1 (dI z.y2).2 (dI z.c2).1 (dI z.c2).2).1,cs2:=(prc bigF 1 (dI z.u).1 (dI z.u).2 (dI z.y2).1 (dI z.y2).2 (dI z.c2).1 (dI z.c2).2).2})=_
  rw [Ef]; rfl
 ·rfl
theorem pr.s03 {N:Nat→Prop} (s:PrS) {m k:Nat} (z:PrZ) (h:z.Ok m k) {x:X} {S':St} (ih:Lq Tryz.prog N pr.code (pr.st 0 4 (s.to {z with c3:=z.c3+1*(z.u*z.y3)})) x S'):Lq Tryz.prog N pr.code (pr.st 0 3 (s.to z)) x S':=by
 refine .to (f:=5) F1 Bs ((pr.r03 bigF (s.to z)).trans ((Fd (k:=1) (.inl rfl) h.hm h.u h.y.2.2.2 (h.c.2.2.2.mono h.hk) _ _ fun e=> ?_).trans ?_)) ?_ ih
 ·show pr.lk .normal (pr.st 0 4 {s.to z with cn3:=(prc bigF 1 (dI z.u).1 (dI z.u).2 (dI z.y3).1 (dI z.y3).2 (dI z.c3).1 (dI z.c3).2).1,cs3:=(prc bigF 1 (dI z.u).1 (dI z.u).2 (dI z.y3).1 (dI z.y3).2 (dI z.c3).1 (dI z.c3).2).2})=_
  rw [Ef,e]; rfl
 ·show pr.lk .normal (pr.st 0 4 {s.to z with cn3:=(prc bigF 1 (dI z.u).1 (dI z.u).2 (dI z.y3).1 (dI z.y3).2 (dI z.c3).1 (dI z.c3).2).1,cs3:=(prc bigF 1 (dI z.u).1 (dI z.u).2 (dI z.y3).1 (dI z.y3).2 (dI z.c3).1 (dI z.c3).2).2})=_
  rw [Ef]; rfl
 ·rfl
theorem pr.s10 {N:Nat→Prop} (s:PrS) {m k:Nat} (z:PrZ) (h:z.Ok m k) {x:X} {S':St} (ih:Lq Tryz.prog N pr.code (pr.st 1 1 (s.to {z with c1:=z.c1+1*(z.u*z.y0)})) x S'):Lq Tryz.prog N pr.code (pr.st 1 0 (s.to z)) x S':=by
 refine .to (f:=5) F1 Bs ((pr.r10 bigF (s.to z)).trans ((Fd (k:=1) (.inl rfl) h.hm h.u h.y.1 (h.c.2.1.mono h.hk) _ _ fun e=> ?_).trans ?_)) ?_ ih
 ·show pr.lk .normal (pr.st 1 1 {s.to z with cn1:=(prc bigF 1 (dI z.u).1 (dI z.u).2 (dI z.y0).1 (dI z.y0).2 (dI z.c1).1 (dI z.c1).2).1,cs1:=(prc bigF 1 (dI z.u).1 (dI z.u).2 (dI z.y0).1 (dI z.y0).2 (dI z.c1).1 (dI z.c1).2).2})=_
  rw [Ef,e]; rfl
 ·show pr.lk .normal (pr.st 1 1 {s.to z with cn1:=(prc bigF 1 (dI z.u).1 (dI z.u).2 (dI z.y0).1 (dI z.y0).2 (dI z.c1).1 (dI z.c1).2).1,cs1:=(prc bigF 1 (dI z.u).1 (dI z.u).2 (dI z.y0).1 (dI z.y0).2 (dI z.c1).1 (dI z.c1).2).2})=_
  rw [Ef]; rfl
 ·rfl
theorem pr.s11 {N:Nat→Prop} (s:PrS) {m k:Nat} (z:PrZ) (h:z.Ok m k) {x:X} {S':St} (ih:Lq Tryz.prog N pr.code (pr.st 1 2 (s.to {z with c0:=z.c0+2*(z.u*z.y1)})) x S'):Lq Tryz.prog N pr.code (pr.st 1 1 (s.to z)) x S':=by
 refine .to (f:=5) F1 Bs ((pr.r11 bigF (s.to z)).trans ((Fd (k:=2) (.inr (.inl rfl)) h.hm h.u h.y.2.1 (h.c.1.mono h.hk) _ _ fun e=> ?_).trans ?_)) ?_ ih
 ·show pr.lk .normal (pr.st 1 2 {s.to z with cn0:=(prc bigF 2 (dI z.u).1 (dI z.u).2 (dI z.y1).1 (dI z.y1).2 (dI z.c0).1 (dI z.c0).2).1,cs0:=(prc bigF 2 (dI z.u).1 (dI z.u).2 (dI z.y1).1 (dI z.y1).2 (dI z.c0).1 (dI z.c0).2).2})=_
  rw [Ef,e]; rfl
 ·show pr.lk .normal (pr.st 1 2 {s.to z with cn0:=(prc bigF 2 (dI z.u).1 (dI z.u).2 (dI z.y1).1 (dI z.y1).2 (dI z.c0).1 (dI z.c0).2).1,cs0:=(prc bigF 2 (dI z.u).1 (dI z.u).2 (dI z.y1).1 (dI z.y1).2 (dI z.c0).1 (dI z.c0).2).2})=_
  rw [Ef]; rfl
 ·rfl
theorem pr.s12 {N:Nat→Prop} (s:PrS) {m k:Nat} (z:PrZ) (h:z.Ok m k) {x:X} {S':St} (ih:Lq Tryz.prog N pr.code (pr.st 1 3 (s.to {z with c3:=z.c3+1*(z.u*z.y2)})) x S'):Lq Tryz.prog N pr.code (pr.st 1 2 (s.to z)) x S':=by
 refine .to (f:=5) F1 Bs ((pr.r12 bigF (s.to z)).trans ((Fd (k:=1) (.inl rfl) h.hm h.u h.y.2.2.1 (h.c.2.2.2.mono h.hk) _ _ fun e=> ?_).trans ?_)) ?_ ih
 ·show pr.lk .normal (pr.st 1 3 {s.to z with cn3:=(prc bigF 1 (dI z.u).1 (dI z.u).2 (dI z.y2).1 (dI z.y2).2 (dI z.c3).1 (dI z.c3).2).1,cs3:=(prc bigF 1 (dI z.u).1 (dI z.u).2 (dI z.y2).1 (dI z.y2).2 (dI z.c3).1 (dI z.c3).2).2})=_
  rw [Ef,e]; rfl
 ·show pr.lk .normal (pr.st 1 3 {s.to z with cn3:=(prc bigF 1 (dI z.u).1 (dI z.u).2 (dI z.y2).1 (dI z.y2).2 (dI z.c3).1 (dI z.c3).2).1,cs3:=(prc bigF 1 (dI z.u).1 (dI z.u).2 (dI z.y2).1 (dI z.y2).2 (dI z.c3).1 (dI z.c3).2).2})=_
  rw [Ef]; rfl
 ·rfl
theorem pr.s13 {N:Nat→Prop} (s:PrS) {m k:Nat} (z:PrZ) (h:z.Ok m k) {x:X} {S':St} (ih:Lq Tryz.prog N pr.code (pr.st 1 4 (s.to {z with c2:=z.c2+2*(z.u*z.y3)})) x S'):Lq Tryz.prog N pr.code (pr.st 1 3 (s.to z)) x S':=by
 refine .to (f:=5) F1 Bs ((pr.r13 bigF (s.to z)).trans ((Fd (k:=2) (.inr (.inl rfl)) h.hm h.u h.y.2.2.2 (h.c.2.2.1.mono h.hk) _ _ fun e=> ?_).trans ?_)) ?_ ih
 ·show pr.lk .normal (pr.st 1 4 {s.to z with cn2:=(prc bigF 2 (dI z.u).1 (dI z.u).2 (dI z.y3).1 (dI z.y3).2 (dI z.c2).1 (dI z.c2).2).1,cs2:=(prc bigF 2 (dI z.u).1 (dI z.u).2 (dI z.y3).1 (dI z.y3).2 (dI z.c2).1 (dI z.c2).2).2})=_
  rw [Ef,e]; rfl
 ·show pr.lk .normal (pr.st 1 4 {s.to z with cn2:=(prc bigF 2 (dI z.u).1 (dI z.u).2 (dI z.y3).1 (dI z.y3).2 (dI z.c2).1 (dI z.c2).2).1,cs2:=(prc bigF 2 (dI z.u).1 (dI z.u).2 (dI z.y3).1 (dI z.y3).2 (dI z.c2).1 (dI z.c2).2).2})=_
  rw [Ef]; rfl
 ·rfl
theorem pr.s20 {N:Nat→Prop} (s:PrS) {m k:Nat} (z:PrZ) (h:z.Ok m k) {x:X} {S':St} (ih:Lq Tryz.prog N pr.code (pr.st 2 1 (s.to {z with c2:=z.c2+1*(z.u*z.y0)})) x S'):Lq Tryz.prog N pr.code (pr.st 2 0 (s.to z)) x S':=by
 refine .to (f:=5) F1 Bs ((pr.r20 bigF (s.to z)).trans ((Fd (k:=1) (.inl rfl) h.hm h.u h.y.1 (h.c.2.2.1.mono h.hk) _ _ fun e=> ?_).trans ?_)) ?_ ih
 ·show pr.lk .normal (pr.st 2 1 {s.to z with cn2:=(prc bigF 1 (dI z.u).1 (dI z.u).2 (dI z.y0).1 (dI z.y0).2 (dI z.c2).1 (dI z.c2).2).1,cs2:=(prc bigF 1 (dI z.u).1 (dI z.u).2 (dI z.y0).1 (dI z.y0).2 (dI z.c2).1 (dI z.c2).2).2})=_
  rw [Ef,e]; rfl
 ·show pr.lk .normal (pr.st 2 1 {s.to z with cn2:=(prc bigF 1 (dI z.u).1 (dI z.u).2 (dI z.y0).1 (dI z.y0).2 (dI z.c2).1 (dI z.c2).2).1,cs2:=(prc bigF 1 (dI z.u).1 (dI z.u).2 (dI z.y0).1 (dI z.y0).2 (dI z.c2).1 (dI z.c2).2).2})=_
  rw [Ef]; rfl
 ·rfl
theorem pr.s21 {N:Nat→Prop} (s:PrS) {m k:Nat} (z:PrZ) (h:z.Ok m k) {x:X} {S':St} (ih:Lq Tryz.prog N pr.code (pr.st 2 2 (s.to {z with c3:=z.c3+1*(z.u*z.y1)})) x S'):Lq Tryz.prog N pr.code (pr.st 2 1 (s.to z)) x S':=by
 refine .to (f:=5) F1 Bs ((pr.r21 bigF (s.to z)).trans ((Fd (k:=1) (.inl rfl) h.hm h.u h.y.2.1 (h.c.2.2.2.mono h.hk) _ _ fun e=> ?_).trans ?_)) ?_ ih
 ·show pr.lk .normal (pr.st 2 2 {s.to z with cn3:=(prc bigF 1 (dI z.u).1 (dI z.u).2 (dI z.y1).1 (dI z.y1).2 (dI z.c3).1 (dI z.c3).2).1,cs3:=(prc bigF 1 (dI z.u).1 (dI z.u).2 (dI z.y1).1 (dI z.y1).2 (dI z.c3).1 (dI z.c3).2).2})=_
  rw [Ef,e]; rfl
 ·show pr.lk .normal (pr.st 2 2 {s.to z with cn3:=(prc bigF 1 (dI z.u).1 (dI z.u).2 (dI z.y1).1 (dI z.y1).2 (dI z.c3).1 (dI z.c3).2).1,cs3:=(prc bigF 1 (dI z.u).1 (dI z.u).2 (dI z.y1).1 (dI z.y1).2 (dI z.c3).1 (dI z.c3).2).2})=_
  rw [Ef]; rfl
 ·rfl
theorem pr.s22 {N:Nat→Prop} (s:PrS) {m k:Nat} (z:PrZ) (h:z.Ok m k) {x:X} {S':St} (ih:Lq Tryz.prog N pr.code (pr.st 2 3 (s.to {z with c0:=z.c0+3*(z.u*z.y2)})) x S'):Lq Tryz.prog N pr.code (pr.st 2 2 (s.to z)) x S':=by
 refine .to (f:=5) F1 Bs ((pr.r22 bigF (s.to z)).trans ((Fd (k:=3) (.inr (.inr (.inl rfl))) h.hm h.u h.y.2.2.1 (h.c.1.mono h.hk) _ _ fun e=> ?_).trans ?_)) ?_ ih
 ·show pr.lk .normal (pr.st 2 3 {s.to z with cn0:=(prc bigF 3 (dI z.u).1 (dI z.u).2 (dI z.y2).1 (dI z.y2).2 (dI z.c0).1 (dI z.c0).2).1,cs0:=(prc bigF 3 (dI z.u).1 (dI z.u).2 (dI z.y2).1 (dI z.y2).2 (dI z.c0).1 (dI z.c0).2).2})=_
  rw [Ef,e]; rfl
 ·show pr.lk .normal (pr.st 2 3 {s.to z with cn0:=(prc bigF 3 (dI z.u).1 (dI z.u).2 (dI z.y2).1 (dI z.y2).2 (dI z.c0).1 (dI z.c0).2).1,cs0:=(prc bigF 3 (dI z.u).1 (dI z.u).2 (dI z.y2).1 (dI z.y2).2 (dI z.c0).1 (dI z.c0).2).2})=_
  rw [Ef]; rfl
 ·rfl
theorem pr.s23 {N:Nat→Prop} (s:PrS) {m k:Nat} (z:PrZ) (h:z.Ok m k) {x:X} {S':St} (ih:Lq Tryz.prog N pr.code (pr.st 2 4 (s.to {z with c1:=z.c1+3*(z.u*z.y3)})) x S'):Lq Tryz.prog N pr.code (pr.st 2 3 (s.to z)) x S':=by
 refine .to (f:=5) F1 Bs ((pr.r23 bigF (s.to z)).trans ((Fd (k:=3) (.inr (.inr (.inl rfl))) h.hm h.u h.y.2.2.2 (h.c.2.1.mono h.hk) _ _ fun e=> ?_).trans ?_)) ?_ ih
 ·show pr.lk .normal (pr.st 2 4 {s.to z with cn1:=(prc bigF 3 (dI z.u).1 (dI z.u).2 (dI z.y3).1 (dI z.y3).2 (dI z.c1).1 (dI z.c1).2).1,cs1:=(prc bigF 3 (dI z.u).1 (dI z.u).2 (dI z.y3).1 (dI z.y3).2 (dI z.c1).1 (dI z.c1).2).2})=_
  rw [Ef,e]; rfl
 ·show pr.lk .normal (pr.st 2 4 {s.to z with cn1:=(prc bigF 3 (dI z.u).1 (dI z.u).2 (dI z.y3).1 (dI z.y3).2 (dI z.c1).1 (dI z.c1).2).1,cs1:=(prc bigF 3 (dI z.u).1 (dI z.u).2 (dI z.y3).1 (dI z.y3).2 (dI z.c1).1 (dI z.c1).2).2})=_
  rw [Ef]; rfl
 ·rfl
theorem pr.s30 {N:Nat→Prop} (s:PrS) {m k:Nat} (z:PrZ) (h:z.Ok m k) {x:X} {S':St} (ih:Lq Tryz.prog N pr.code (pr.st 3 1 (s.to {z with c3:=z.c3+1*(z.u*z.y0)})) x S'):Lq Tryz.prog N pr.code (pr.st 3 0 (s.to z)) x S':=by
 refine .to (f:=5) F1 Bs ((pr.r30 bigF (s.to z)).trans ((Fd (k:=1) (.inl rfl) h.hm h.u h.y.1 (h.c.2.2.2.mono h.hk) _ _ fun e=> ?_).trans ?_)) ?_ ih
 ·show pr.lk .normal (pr.st 3 1 {s.to z with cn3:=(prc bigF 1 (dI z.u).1 (dI z.u).2 (dI z.y0).1 (dI z.y0).2 (dI z.c3).1 (dI z.c3).2).1,cs3:=(prc bigF 1 (dI z.u).1 (dI z.u).2 (dI z.y0).1 (dI z.y0).2 (dI z.c3).1 (dI z.c3).2).2})=_
  rw [Ef,e]; rfl
 ·show pr.lk .normal (pr.st 3 1 {s.to z with cn3:=(prc bigF 1 (dI z.u).1 (dI z.u).2 (dI z.y0).1 (dI z.y0).2 (dI z.c3).1 (dI z.c3).2).1,cs3:=(prc bigF 1 (dI z.u).1 (dI z.u).2 (dI z.y0).1 (dI z.y0).2 (dI z.c3).1 (dI z.c3).2).2})=_
  rw [Ef]; rfl
 ·rfl
theorem pr.s31 {N:Nat→Prop} (s:PrS) {m k:Nat} (z:PrZ) (h:z.Ok m k) {x:X} {S':St} (ih:Lq Tryz.prog N pr.code (pr.st 3 2 (s.to {z with c2:=z.c2+2*(z.u*z.y1)})) x S'):Lq Tryz.prog N pr.code (pr.st 3 1 (s.to z)) x S':=by
 refine .to (f:=5) F1 Bs ((pr.r31 bigF (s.to z)).trans ((Fd (k:=2) (.inr (.inl rfl)) h.hm h.u h.y.2.1 (h.c.2.2.1.mono h.hk) _ _ fun e=> ?_).trans ?_)) ?_ ih
 ·show pr.lk .normal (pr.st 3 2 {s.to z with cn2:=(prc bigF 2 (dI z.u).1 (dI z.u).2 (dI z.y1).1 (dI z.y1).2 (dI z.c2).1 (dI z.c2).2).1,cs2:=(prc bigF 2 (dI z.u).1 (dI z.u).2 (dI z.y1).1 (dI z.y1).2 (dI z.c2).1 (dI z.c2).2).2})=_
  rw [Ef,e]; rfl
 ·show pr.lk .normal (pr.st 3 2 {s.to z with cn2:=(prc bigF 2 (dI z.u).1 (dI z.u).2 (dI z.y1).1 (dI z.y1).2 (dI z.c2).1 (dI z.c2).2).1,cs2:=(prc bigF 2 (dI z.u).1 (dI z.u).2 (dI z.y1).1 (dI z.y1).2 (dI z.c2).1 (dI z.c2).2).2})=_
  rw [Ef]; rfl
 ·rfl
theorem pr.s32 {N:Nat→Prop} (s:PrS) {m k:Nat} (z:PrZ) (h:z.Ok m k) {x:X} {S':St} (ih:Lq Tryz.prog N pr.code (pr.st 3 3 (s.to {z with c1:=z.c1+3*(z.u*z.y2)})) x S'):Lq Tryz.prog N pr.code (pr.st 3 2 (s.to z)) x S':=by
 refine .to (f:=5) F1 Bs ((pr.r32 bigF (s.to z)).trans ((Fd (k:=3) (.inr (.inr (.inl rfl))) h.hm h.u h.y.2.2.1 (h.c.2.1.mono h.hk) _ _ fun e=> ?_).trans ?_)) ?_ ih
 ·show pr.lk .normal (pr.st 3 3 {s.to z with cn1:=(prc bigF 3 (dI z.u).1 (dI z.u).2 (dI z.y2).1 (dI z.y2).2 (dI z.c1).1 (dI z.c1).2).1,cs1:=(prc bigF 3 (dI z.u).1 (dI z.u).2 (dI z.y2).1 (dI z.y2).2 (dI z.c1).1 (dI z.c1).2).2})=_
  rw [Ef,e]; rfl
 ·show pr.lk .normal (pr.st 3 3 {s.to z with cn1:=(prc bigF 3 (dI z.u).1 (dI z.u).2 (dI z.y2).1 (dI z.y2).2 (dI z.c1).1 (dI z.c1).2).1,cs1:=(prc bigF 3 (dI z.u).1 (dI z.u).2 (dI z.y2).1 (dI z.y2).2 (dI z.c1).1 (dI z.c1).2).2})=_
  rw [Ef]; rfl
 ·rfl
theorem pr.s33 {N:Nat→Prop} (s:PrS) {m k:Nat} (z:PrZ) (h:z.Ok m k) {x:X} {S':St} (ih:Lq Tryz.prog N pr.code (pr.st 3 4 (s.to {z with c0:=z.c0+6*(z.u*z.y3)})) x S'):Lq Tryz.prog N pr.code (pr.st 3 3 (s.to z)) x S':=by
 refine .to (f:=5) F1 Bs ((pr.r33 bigF (s.to z)).trans ((Fd (k:=6) (.inr (.inr (.inr rfl))) h.hm h.u h.y.2.2.2 (h.c.1.mono h.hk) _ _ fun e=> ?_).trans ?_)) ?_ ih
 ·show pr.lk .normal (pr.st 3 4 {s.to z with cn0:=(prc bigF 6 (dI z.u).1 (dI z.u).2 (dI z.y3).1 (dI z.y3).2 (dI z.c0).1 (dI z.c0).2).1,cs0:=(prc bigF 6 (dI z.u).1 (dI z.u).2 (dI z.y3).1 (dI z.y3).2 (dI z.c0).1 (dI z.c0).2).2})=_
  rw [Ef,e]; rfl
 ·show pr.lk .normal (pr.st 3 4 {s.to z with cn0:=(prc bigF 6 (dI z.u).1 (dI z.u).2 (dI z.y3).1 (dI z.y3).2 (dI z.c0).1 (dI z.c0).2).1,cs0:=(prc bigF 6 (dI z.u).1 (dI z.u).2 (dI z.y3).1 (dI z.y3).2 (dI z.c0).1 (dI z.c0).2).2})=_
  rw [Ef]; rfl
 ·rfl
theorem P5 {m k:Nat} {z:PrZ} {c:Int} (h:z.Ok m k) (hc:Bd k c):PrZ.Ok m k {z with c0:=c} :=⟨h.hm,h.hk,h.u,h.y,hc,h.c.2.1,h.c.2.2.1,h.c.2.2.2⟩
theorem P4 {m k:Nat} {z:PrZ} {c:Int} (h:z.Ok m k) (hc:Bd k c):PrZ.Ok m k {z with c1:=c} :=⟨h.hm,h.hk,h.u,h.y,h.c.1,hc,h.c.2.2.1,h.c.2.2.2⟩
theorem P3 {m k:Nat} {z:PrZ} {c:Int} (h:z.Ok m k) (hc:Bd k c):PrZ.Ok m k {z with c2:=c} :=⟨h.hm,h.hk,h.u,h.y,h.c.1,h.c.2.1,hc,h.c.2.2.2⟩
theorem P2 {m k:Nat} {z:PrZ} {c:Int} (h:z.Ok m k) (hc:Bd k c):PrZ.Ok m k {z with c3:=c} :=⟨h.hm,h.hk,h.u,h.y,h.c.1,h.c.2.1,h.c.2.2.1,hc⟩
def PrZ.row0 (z:PrZ):PrZ:= {z with c0:=z.c0+1*(z.u*z.y0),c1:=z.c1+1*(z.u*z.y1),c2:=z.c2+1*(z.u*z.y2),c3:=z.c3+1*(z.u*z.y3)}
theorem pr.w0 {N:Nat→Prop} (s:PrS) {m k:Nat} (z:PrZ) (h:z.Ok m k) (hk:k+1≤2*m+8) (h2:2*m+2≤k+1):Lq Tryz.prog N pr.code (pr.st 0 0 (s.to z)) (.exit 2) (pr.st 0 4 (s.to z.row0)):=by
 have ad:∀ {c q y:Int},Bd k c→Few6 q→Bd m y→Bd (k+1) (c+q*(z.u*y)):=fun hc hq hy=>by
  have hq1:Bd 1 _:=Fu hq
  have:=(hc.mono (show k≤k from Nat.le_refl _)).add ((hq1.mul (h.u.mul hy)).mono (show 1+(m+m)≤k by omega))
  exact this
 have up0:z.Ok m (k+1):=⟨h.hm,hk,h.u,h.y,h.c.1.mono (by omega),h.c.2.1.mono (by omega),h.c.2.2.1.mono (by omega),h.c.2.2.2.mono (by omega)⟩
 refine pr.s00 s _ up0 ?_
 have up1:=P5 up0 (ad h.c.1 (.inl rfl) h.y.1)
 refine pr.s01 s _ up1 ?_
 have up2:=P4 up1 (ad h.c.2.1 (.inl rfl) h.y.2.1)
 refine pr.s02 s _ up2 ?_
 have up3:=P3 up2 (ad h.c.2.2.1 (.inl rfl) h.y.2.2.1)
 refine pr.s03 s _ up3 ?_
 have up4:=P2 up3 (ad h.c.2.2.2 (.inl rfl) h.y.2.2.2)
 exact .end (f:=5) F1 Bs (pr.r04 bigF _) (fun q=>by cases q) rfl
def PrZ.row1 (z:PrZ):PrZ:= {z with c0:=z.c0+2*(z.u*z.y1),c1:=z.c1+1*(z.u*z.y0),c2:=z.c2+2*(z.u*z.y3),c3:=z.c3+1*(z.u*z.y2)}
theorem pr.w1 {N:Nat→Prop} (s:PrS) {m k:Nat} (z:PrZ) (h:z.Ok m k) (hk:k+1≤2*m+8) (h2:2*m+2≤k+1):Lq Tryz.prog N pr.code (pr.st 1 0 (s.to z)) (.exit 2) (pr.st 1 4 (s.to z.row1)):=by
 have ad:∀ {c q y:Int},Bd k c→Few6 q→Bd m y→Bd (k+1) (c+q*(z.u*y)):=fun hc hq hy=>by
  have hq1:Bd 1 _:=Fu hq
  have:=(hc.mono (show k≤k from Nat.le_refl _)).add ((hq1.mul (h.u.mul hy)).mono (show 1+(m+m)≤k by omega))
  exact this
 have up0:z.Ok m (k+1):=⟨h.hm,hk,h.u,h.y,h.c.1.mono (by omega),h.c.2.1.mono (by omega),h.c.2.2.1.mono (by omega),h.c.2.2.2.mono (by omega)⟩
 refine pr.s10 s _ up0 ?_
 have up1:=P4 up0 (ad h.c.2.1 (.inl rfl) h.y.1)
 refine pr.s11 s _ up1 ?_
 have up2:=P5 up1 (ad h.c.1 (.inr (.inl rfl)) h.y.2.1)
 refine pr.s12 s _ up2 ?_
 have up3:=P2 up2 (ad h.c.2.2.2 (.inl rfl) h.y.2.2.1)
 refine pr.s13 s _ up3 ?_
 have up4:=P3 up3 (ad h.c.2.2.1 (.inr (.inl rfl)) h.y.2.2.2)
 exact .end (f:=5) F1 Bs (pr.r14 bigF _) (fun q=>by cases q) rfl
def PrZ.row2 (z:PrZ):PrZ:= {z with c0:=z.c0+3*(z.u*z.y2),c1:=z.c1+3*(z.u*z.y3),c2:=z.c2+1*(z.u*z.y0),c3:=z.c3+1*(z.u*z.y1)}
theorem pr.w2 {N:Nat→Prop} (s:PrS) {m k:Nat} (z:PrZ) (h:z.Ok m k) (hk:k+1≤2*m+8) (h2:2*m+2≤k+1):Lq Tryz.prog N pr.code (pr.st 2 0 (s.to z)) (.exit 2) (pr.st 2 4 (s.to z.row2)):=by
 have ad:∀ {c q y:Int},Bd k c→Few6 q→Bd m y→Bd (k+1) (c+q*(z.u*y)):=fun hc hq hy=>by
  have hq1:Bd 1 _:=Fu hq
  have:=(hc.mono (show k≤k from Nat.le_refl _)).add ((hq1.mul (h.u.mul hy)).mono (show 1+(m+m)≤k by omega))
  exact this
 have up0:z.Ok m (k+1):=⟨h.hm,hk,h.u,h.y,h.c.1.mono (by omega),h.c.2.1.mono (by omega),h.c.2.2.1.mono (by omega),h.c.2.2.2.mono (by omega)⟩
 refine pr.s20 s _ up0 ?_
 have up1:=P3 up0 (ad h.c.2.2.1 (.inl rfl) h.y.1)
 refine pr.s21 s _ up1 ?_
 have up2:=P2 up1 (ad h.c.2.2.2 (.inl rfl) h.y.2.1)
 refine pr.s22 s _ up2 ?_
 have up3:=P5 up2 (ad h.c.1 (.inr (.inr (.inl rfl))) h.y.2.2.1)
 refine pr.s23 s _ up3 ?_
 have up4:=P4 up3 (ad h.c.2.1 (.inr (.inr (.inl rfl))) h.y.2.2.2)
 exact .end (f:=5) F1 Bs (pr.r24 bigF _) (fun q=>by cases q) rfl
def PrZ.row3 (z:PrZ):PrZ:= {z with c0:=z.c0+6*(z.u*z.y3),c1:=z.c1+3*(z.u*z.y2),c2:=z.c2+2*(z.u*z.y1),c3:=z.c3+1*(z.u*z.y0)}
theorem pr.w3 {N:Nat→Prop} (s:PrS) {m k:Nat} (z:PrZ) (h:z.Ok m k) (hk:k+1≤2*m+8) (h2:2*m+2≤k+1):Lq Tryz.prog N pr.code (pr.st 3 0 (s.to z)) (.exit 2) (pr.st 3 4 (s.to z.row3)):=by
 have ad:∀ {c q y:Int},Bd k c→Few6 q→Bd m y→Bd (k+1) (c+q*(z.u*y)):=fun hc hq hy=>by
  have hq1:Bd 1 _:=Fu hq
  have:=(hc.mono (show k≤k from Nat.le_refl _)).add ((hq1.mul (h.u.mul hy)).mono (show 1+(m+m)≤k by omega))
  exact this
 have up0:z.Ok m (k+1):=⟨h.hm,hk,h.u,h.y,h.c.1.mono (by omega),h.c.2.1.mono (by omega),h.c.2.2.1.mono (by omega),h.c.2.2.2.mono (by omega)⟩
 refine pr.s30 s _ up0 ?_
 have up1:=P2 up0 (ad h.c.2.2.2 (.inl rfl) h.y.1)
 refine pr.s31 s _ up1 ?_
 have up2:=P3 up1 (ad h.c.2.2.1 (.inr (.inl rfl)) h.y.2.1)
 refine pr.s32 s _ up2 ?_
 have up3:=P4 up2 (ad h.c.2.1 (.inr (.inr (.inl rfl))) h.y.2.2.1)
 refine pr.s33 s _ up3 ?_
 have up4:=P5 up3 (ad h.c.1 (.inr (.inr (.inr rfl))) h.y.2.2.2)
 exact .end (f:=5) F1 Bs (pr.r34 bigF _) (fun q=>by cases q) rfl
end Go.Proofs.YtpejalpgficopaaGreatDoor.G
end
section
namespace RX
open Go
def aggl:Value→List Value
 | .agg ⟨l⟩=>l
 |_=>[]
def bkl:Option Blk→List Value
 |some (.cs l _)=>l
 |_=>[]
def bA (l:List Value) (i:Nat):Bool:=match nth l i with| .bool b=>b|_=>false
def sA (l:List Value) (i:Nat):ByteArray:=match nth l i with| .string s=>s|_=>⟨#[]⟩
def iA:Value→Int
 | .int .i64 i=>i
 |_=>0
def isP (v:Value) (b:Nat):Bool:=match v with| .pointer (some ⟨b',o,none⟩)=>Nat.beq b' b&&Nat.beq o 0|_=>false
theorem HH {v:Value} {b:Nat} (h:isP v b=true):v= .pointer (some ⟨b,0,none⟩):=by
 unfold isP at h
 split at h
 ·simp only [zB] at h
  rw [zE h.1,zE h.2]
 ·cases h
def isI (v:Value):Bool:=match v with| .int .i64 _=>true|_=>false
theorem MX {v:Value} (h:isI v=true):v= .int .i64 (iA v):=by
 unfold isI at h
 split at h
 ·rfl
 ·cases h
def shC:Nat→List Value→Bool
 |0,[]=>true
 |k+1,.bool _:: .string _::r=>shC k r
 |_,_=>false
def mkC (l:List Value) (i:Nat):Nat→List Value
 |0=>[]
 |k+1=> .bool (bA l i):: .string (sA l (i+1))::mkC l (i+2) k
theorem L4 (a b:Value) (l:List Value):∀(k i:Nat),mkC (a::b::l) (i+2) k=mkC l i k
 |0,i=>rfl
 | k+1,i=>by
  have h1:bA (a::b::l) (i+2)=bA l i:=rfl
  have h2:sA (a::b::l) (i+2+1)=sA l (i+1):=rfl
  simp only [mkC,h1,h2,L4 a b l k]
theorem MH:∀ {k:Nat} {l:List Value},shC k l=true→l=mkC l 0 k
 |0,[],_=>rfl
 | k+1,.bool x:: .string y::r,h=>by
  show _= .bool x:: .string y::mkC (.bool x:: .string y::r) (0+2) k
  rw [L4,←MH (show shC k r=true from h)]
 |0,_::_,h=>by simp [shC] at h
 |k+1,[],h=>by simp [shC] at h
 |k+1,[a],h=>by cases a<;>simp [shC] at h
 | k +1,a::b::r,h=>by
  unfold shC at h
  split at h
  ·contradiction
  ·rename_i e1 e2
   injection e1 with e1
   subst e1
   injection e2 with e2 e3
   injection e3 with e3 e4
   subst e2 e3 e4
   show _=Value.bool _::Value.string _::mkC (_::_::_) (0+2) _
   rw [L4,←MH h]
   rfl
  ·cases h
def isA (k:Nat) (v:Value):Bool:=match v with| .agg ⟨l⟩=>shC k l|_=>false
theorem O5 {k:Nat} {v:Value} (h:isA k v=true):v= .agg ⟨mkC (aggl v) 0 k⟩:=by
 unfold isA at h
 split at h
 ·rename_i l
  exact congrArg (fun l=>Value.agg ⟨l⟩) (MH h)
 ·cases h
def isB (t:TypeId) (k:Nat) (b:Option Blk):Bool:=match b with|some (.cs l t')=>Nat.beq t' t&&shC k l|_=>false
theorem Ig {t:TypeId} {k:Nat} {b:Option Blk} (h:isB t k b=true):b=some (.cs (mkC (bkl b) 0 k) t):=by
 unfold isB at h
 split at h
 ·simp only [zB] at h
  rw [zE h.1]
  exact congrArg (fun l=>some (Blk.cs l t)) (MH h.2)
 ·cases h
def shZ:Nat→List Value→Bool
 |0,[]=>true
 |k+1,.bool b:: .string s::r=> !b&&(Nat.beq s.size 0&&shZ k r)
 |_,_=>false
def mkZs:Nat→List Value
 |0=>[]
 |k+1=> .bool false:: .string ⟨#[]⟩::mkZs k
theorem RZ {s:ByteArray} (h:Nat.beq s.size 0=true):s=⟨#[]⟩:=by
 have:=zE h
 obtain ⟨⟨l⟩⟩:=s
 cases l with
 |nil=>rfl
 |cons a r=>simp [ByteArray.size] at this
theorem QN:∀ {k:Nat} {l:List Value},shZ k l=true→l=mkZs k
 |0,[],_=>rfl
 |0,_::_,h=>by simp [shZ] at h
 |k+1,[],h=>by simp [shZ] at h
 |k+1,[a],h=>by cases a<;>simp [shZ] at h
 | k +1,a::b::r,h=>by
  unfold shZ at h
  split at h
  ·contradiction
  ·rename_i e1 e2
   injection e1 with e1
   subst e1
   injection e2 with e2 e3
   injection e3 with e3 e4
   subst e2 e3 e4
   simp only [zB,Bool.not_eq_true'] at h
   rw [h.1,RZ h.2.1,QN h.2.2]; rfl
  ·cases h
def isZ (t:TypeId) (k:Nat) (b:Option Blk):Bool:=match b with|some (.cs l t')=>Nat.beq t' t&&shZ k l|_=>false
theorem Qs {t:TypeId} {k:Nat} {b:Option Blk} (h:isZ t k b=true):b=some (.cs (mkZs k) t):=by
 unfold isZ at h
 split at h
 ·simp only [zB] at h
  rw [zE h.1,QN h.2]
 ·cases h
end RX
end
section
namespace Go.Proofs.YtpejalpgficopaaGreatDoor.G
open Go Go.Proofs RX
def szB (k:Nat) (n:Bool) (s:ByteArray):Bool:=vld n s&&Nat.ble s.size k
theorem Es {k:Nat} {n:Bool} {s:ByteArray} (h:szB k n s=true):Bd k (vl n s)∧dI (vl n s)=(n,s):=by
 simp only [szB,zB,Nat.ble_eq] at h
 refine ⟨?_,dI_vl h.1⟩
 have h1:=PR s.data.toList
 have h2:s.data.toList.length=s.size:=rfl
 rw [h2] at h1
 unfold Bd
 rw [QC]
 exact Int.lt_of_lt_of_le h1 (I3 h.2)
theorem F3 {k:Nat} {z:Int} (h:Bd k z):szB k (dI z).1 (dI z).2=true:=by
 simp only [szB,vld_dI,Bool.true_and,Nat.ble_eq]
 exact Mm h
theorem O3 {α:Type} {a0 a1 a2 a3 a4 a5 a6 a7 a8 a9 b0 b1 b2 b3 b4 b5 b6 b7 b8 b9:α} (h0:a0=b0) (h1:a1=b1) (h2:a2=b2) (h3:a3=b3) (h4:a4=b4) (h5:a5=b5) (h6:a6=b6) (h7:a7=b7) (h8:a8=b8) (h9:a9=b9):[a0,a1,a2,a3,a4,a5,a6,a7,a8,a9]=[b0,b1,b2,b3,b4,b5,b6,b7,b8,b9]:=by subst h0 h1 h2 h3 h4 h5 h6 h7 h8 h9; rfl
theorem Pr {α:Type} {a0 a1 a2 a3 a4 b0 b1 b2 b3 b4:α} (h0:a0=b0) (h1:a1=b1) (h2:a2=b2) (h3:a3=b3) (h4:a4=b4):[a0,a1,a2,a3,a4]=[b0,b1,b2,b3,b4]:=by subst h0 h1 h2 h3 h4; rfl
def PRM:Nat:=400000000
def PrS.z (s:PrS):PrZ:=⟨vl s.un0 s.us0,vl s.yn0 s.ys0,vl s.yn1 s.ys1,vl s.yn2 s.ys2,vl s.yn3 s.ys3,vl s.cn0 s.cs0,vl s.cn1 s.cs1,vl s.cn2 s.cs2,vl s.cn3 s.cs3⟩
def pr.need (k:Nat) (s:PrS):Bool:=szB PRM s.un0 s.us0&&szB PRM s.yn0 s.ys0&&szB PRM s.yn1 s.ys1&&szB PRM s.yn2 s.ys2&&szB PRM s.yn3 s.ys3&&szB k s.cn0 s.cs0&&szB k s.cn1 s.cs1&&szB k s.cn2 s.cs2&&szB k s.cn3 s.cs3
theorem pr.of_need {k:Nat} {s:PrS} (hk:k≤2*PRM+8) (h:pr.need k s=true):s.z.Ok PRM k∧s.to s.z=s:=by
 simp only [pr.need,zB] at h
 obtain ⟨⟨⟨⟨⟨⟨⟨⟨hu,y0⟩,y1⟩,y2⟩,y3⟩,c0⟩,c1⟩,c2⟩,c3⟩:=h
 refine ⟨⟨by decide,hk,(Es hu).1,⟨(Es y0).1,(Es y1).1,(Es y2).1,(Es y3).1⟩,⟨(Es c0).1,(Es c1).1,(Es c2).1,(Es c3).1⟩⟩,?_⟩
 unfold PrS.to PrS.z
 simp only [(Es hu).2,(Es y0).2,(Es y1).2,(Es y2).2,(Es y3).2,(Es c0).2,(Es c1).2,(Es c2).2,(Es c3).2]
noncomputable def pr.lt (i:Int) (s:PrS):LT:=
 bif ieq i 0 then .got (pr.need (2*PRM+1) s) (.exit 2) (pr.st 0 4 (s.to s.z.row0)) else
 bif ieq i 1 then .got (pr.need (2*PRM+2) s) (.exit 2) (pr.st 1 4 (s.to s.z.row1)) else
 bif ieq i 2 then .got (pr.need (2*PRM+3) s) (.exit 2) (pr.st 2 4 (s.to s.z.row2)) else
 .got (ieq i 3&&pr.need (2*PRM+4) s) (.exit 2) (pr.st 3 4 (s.to s.z.row3))
theorem pr.lp {N:Nat→Prop} (i:Int) (s:PrS) {x:X} {S':St} (h:(pr.lt i s).at=some (x,S')):Lq Tryz.prog N pr.code (pr.st i 0 s) x S':=by
 unfold pr.lt at h
 cases h0:ieq i 0 with
 | true=>
  obtain rfl:=Gl.1 h0
  rw [h0,cond_true] at h
  obtain ⟨hn,rfl,rfl⟩:=Ez h
  obtain ⟨h1,h2⟩:=pr.of_need (by decide) hn
  have:=pr.w0 (N:=N) s s.z h1 (by decide) (by decide)
  rwa [h2] at this
 |false=>
 rw [h0,cond_false] at h
 cases h1:ieq i 1 with
 | true=>
  obtain rfl:=Gl.1 h1
  rw [h1,cond_true] at h
  obtain ⟨hn,rfl,rfl⟩:=Ez h
  obtain ⟨h1,h2⟩:=pr.of_need (by decide) hn
  have:=pr.w1 (N:=N) s s.z h1 (by decide) (by decide)
  rwa [h2] at this
 |false=>
 rw [h1,cond_false] at h
 cases h3:ieq i 2 with
 | true=>
  obtain rfl:=Gl.1 h3
  rw [h3,cond_true] at h
  obtain ⟨hn,rfl,rfl⟩:=Ez h
  obtain ⟨h1,h2⟩:=pr.of_need (by decide) hn
  have:=pr.w2 (N:=N) s s.z h1 (by decide) (by decide)
  rwa [h2] at this
 |false=>
 rw [h3,cond_false] at h
 obtain ⟨hn,rfl,rfl⟩:=Ez h
 rw [zB] at hn
 obtain rfl:=Gl.1 hn.1
 obtain ⟨h1,h2⟩:=pr.of_need (by decide) hn.2
 have:=pr.w3 (N:=N) s s.z h1 (by decide) (by decide)
 rwa [h2] at this
def pr.of (S:St):PrS:=⟨bA (bkl (RX.look S.heap 160)) 0,sA (bkl (RX.look S.heap 160)) 1,bA (aggl (RX.nth S.tmps 18)) 0,sA (aggl (RX.nth S.tmps 18)) 1,bA (aggl (RX.nth S.tmps 18)) 2,sA (aggl (RX.nth S.tmps 18)) 3,bA (aggl (RX.nth S.tmps 18)) 4,sA (aggl (RX.nth S.tmps 18)) 5,bA (aggl (RX.nth S.tmps 18)) 6,sA (aggl (RX.nth S.tmps 18)) 7,bA (bkl (RX.look S.heap 48)) 0,sA (bkl (RX.look S.heap 48)) 1,bA (bkl (RX.look S.heap 48)) 2,sA (bkl (RX.look S.heap 48)) 3,bA (bkl (RX.look S.heap 48)) 4,sA (bkl (RX.look S.heap 48)) 5,bA (bkl (RX.look S.heap 48)) 6,sA (bkl (RX.look S.heap 48)) 7,bA (aggl (RX.nth S.tmps 12)) 0,sA (aggl (RX.nth S.tmps 12)) 1,bA (aggl (RX.nth S.tmps 12)) 2,sA (aggl (RX.nth S.tmps 12)) 3,bA (aggl (RX.nth S.tmps 12)) 4,sA (aggl (RX.nth S.tmps 12)) 5,bA (aggl (RX.nth S.tmps 12)) 6,sA (aggl (RX.nth S.tmps 12)) 7,bA (bkl (RX.look S.heap 0)) 0,sA (bkl (RX.look S.heap 0)) 1,bA (bkl (RX.look S.heap 0)) 2,sA (bkl (RX.look S.heap 0)) 3,bA (bkl (RX.look S.heap 0)) 4,sA (bkl (RX.look S.heap 0)) 5,bA (bkl (RX.look S.heap 0)) 6,sA (bkl (RX.look S.heap 0)) 7,bA (bkl (RX.look S.heap 0)) 8,sA (bkl (RX.look S.heap 0)) 9,bA (bkl (RX.look S.heap 16)) 0,sA (bkl (RX.look S.heap 16)) 1,bA (bkl (RX.look S.heap 16)) 2,sA (bkl (RX.look S.heap 16)) 3,bA (bkl (RX.look S.heap 16)) 4,sA (bkl (RX.look S.heap 16)) 5,bA (bkl (RX.look S.heap 16)) 6,sA (bkl (RX.look S.heap 16)) 7,bA (bkl (RX.look S.heap 16)) 8,sA (bkl (RX.look S.heap 16)) 9⟩
def pr.chk (S:St):Bool:=Nat.beq S.tmps.length 62&&(Nat.beq S.nxt 256&&(isP (RX.nth S.tmps 2) 0&&(isP (RX.nth S.tmps 3) 16&&(isP (RX.nth S.tmps 4) 32&&(isP (RX.nth S.tmps 5) 48&&(isI (RX.nth S.tmps 6)&&(isP (RX.nth S.tmps 7) 160&&(isA 4 (RX.nth S.tmps 12)&&(isI (RX.nth S.tmps 13)&&(isA 4 (RX.nth S.tmps 18)&&(isI (RX.nth S.tmps 19)&&
 (isB 26 5 (RX.look S.heap 0)&&(isB 26 5 (RX.look S.heap 16)&&(isZ 26 5 (RX.look S.heap 32)&&(isB 24 4 (RX.look S.heap 48)&&(isB 23 1 (RX.look S.heap 160)&&(ieq (iA (RX.nth S.tmps 13)) (iA (RX.nth S.tmps 6))&&ieq (iA (RX.nth S.tmps 19)) 0)))))))))))))))))
noncomputable def pr.t:LSpec:=fun S=>bif pr.chk S then some (pr.lt (iA (RX.nth S.tmps 6)) (pr.of S)) else none
theorem pr.lok {N:Nat→Prop} :LOKn Tryz.prog N pr.code pr.t:=by
 refine FS fun S lt x S' ht hat=> ?_
 unfold pr.t at ht
 cases hb:pr.chk S with
 |false=>rw [hb] at ht; cases ht
 | true=>
  rw [hb] at ht
  injection ht with ht
  subst ht
  simp only [pr.chk,zB] at hb
  obtain ⟨hl,hn,h2,h3,h4,h5,h6,h7,h12,h13,h18,h19,g0,g16,g32,g48,g160,e1,e2⟩:=hb
  have e1:=Gl.1 e1
  have e2:=Gl.1 e2
  have h13:=MX h13
  have h19:=MX h19
  rw [e1] at h13
  rw [e2] at h19
  refine .into 62 [2,3,4,5,6,7,12,13,18,19] [0,16,32,48,160] hl (zE hn) ?_ ?_ rfl (pr.lp _ (pr.of S) hat)
  ·simp only [List.map_cons,List.map_nil]
   rw [HH h2,HH h3,HH h4,HH h5,HH h7,h13,h19]
   refine O3 rfl rfl rfl rfl (MX h6) rfl (O5 h12) rfl (O5 h18) rfl
  ·simp only [List.map_cons,List.map_nil]
   exact Pr (Ig g0) (Ig g16) (Qs g32) (Ig g48) (Ig g160)
abbrev pro.env:Env:=⟨[],[],[]⟩
noncomputable abbrev pro.code:Code:=Ay Tryz.f161 0
noncomputable abbrev pro.ex:=exec (R:=X×List Value×List (Option Blk)) Tryz.prog pro.env [(2,pr.t)] (hs Tryz.prog pro.env 5).lf (hs Tryz.prog pro.env 5).cf pro.code
noncomputable abbrev pro.st (i:Int) (s:PrS):St:=⟨gbuild [(2,.pointer (some ⟨0,0,none⟩)),(3,.pointer (some ⟨16,0,none⟩)),(4,.pointer (some ⟨32,0,none⟩)),(5,.pointer (some ⟨48,0,none⟩)),(12,.agg ⟨[.bool s.xn0,.string s.xs0,.bool s.xn1,.string s.xs1,.bool s.xn2,.string s.xs2,.bool s.xn3,.string s.xs3]⟩),(13,.int .i64 i)] 0 62,[(0,.cs [.bool s.an0,.string s.as0,.bool s.an1,.string s.as1,.bool s.an2,.string s.as2,.bool s.an3,.string s.as3,.bool s.an4,.string s.as4] 26),(16,.cs [.bool s.bn0,.string s.bs0,.bool s.bn1,.string s.bs1,.bool s.bn2,.string s.bs2,.bool s.bn3,.string s.bs3,.bool s.bn4,.string s.bs4] 26),(32,.cs [.bool false,.string ⟨#[]⟩,.bool false,.string ⟨#[]⟩,.bool false,.string ⟨#[]⟩,.bool false,.string ⟨#[]⟩,.bool false,.string ⟨#[]⟩] 26),(48,.cs [.bool s.cn0,.string s.cs0,.bool s.cn1,.string s.cs1,.bool s.cn2,.string s.cs2,.bool s.cn3,.string s.cs3] 24)],112⟩
abbrev pro.pk:=pick 62 [2,3,4,5,12,13] [0,16,32,48]
abbrev pro.lk:=RX.lk [2,3,4,5,12,13] [0,16,32,48]
theorem pro.envok:EnvOk Tryz.prog pro.env:=⟨Ac,Aq,Aj,Ap⟩
theorem pro.lsok {N:Nat→Prop} :LsOkn Tryz.prog N [(2,pr.t)] pro.code:=Er rfl pr.lok Bs
abbrev PrS.in0 (s:PrS):PrS:= {s with un0:=s.xn0,us0:=s.xs0,yn0:=s.bn0,ys0:=s.bs0,yn1:=s.bn1,ys1:=s.bs1,yn2:=s.bn2,ys2:=s.bs2,yn3:=s.bn3,ys3:=s.bs3}
theorem pro.r0 (s:PrS):pro.ex (pro.st 0 s) pro.pk=bif pr.need (2*PRM+1) s.in0 then pro.lk .normal (pro.st 1 (s.in0.to s.in0.z.row0)) else none:=by kernel_rfl
abbrev PrS.in1 (s:PrS):PrS:= {s with un0:=s.xn1,us0:=s.xs1,yn0:=s.bn0,ys0:=s.bs0,yn1:=s.bn1,ys1:=s.bs1,yn2:=s.bn2,ys2:=s.bs2,yn3:=s.bn3,ys3:=s.bs3}
theorem pro.r1 (s:PrS):pro.ex (pro.st 1 s) pro.pk=bif pr.need (2*PRM+2) s.in1 then pro.lk .normal (pro.st 2 (s.in1.to s.in1.z.row1)) else none:=by kernel_rfl
abbrev PrS.in2 (s:PrS):PrS:= {s with un0:=s.xn2,us0:=s.xs2,yn0:=s.bn0,ys0:=s.bs0,yn1:=s.bn1,ys1:=s.bs1,yn2:=s.bn2,ys2:=s.bs2,yn3:=s.bn3,ys3:=s.bs3}
theorem pro.r2 (s:PrS):pro.ex (pro.st 2 s) pro.pk=bif pr.need (2*PRM+3) s.in2 then pro.lk .normal (pro.st 3 (s.in2.to s.in2.z.row2)) else none:=by kernel_rfl
abbrev PrS.in3 (s:PrS):PrS:= {s with un0:=s.xn3,us0:=s.xs3,yn0:=s.bn0,ys0:=s.bs0,yn1:=s.bn1,ys1:=s.bs1,yn2:=s.bn2,ys2:=s.bs2,yn3:=s.bn3,ys3:=s.bs3}
theorem pro.r3 (s:PrS):pro.ex (pro.st 3 s) pro.pk=bif pr.need (2*PRM+4) s.in3 then pro.lk .normal (pro.st 4 (s.in3.to s.in3.z.row3)) else none:=by kernel_rfl
theorem pro.r4 (s:PrS):pro.ex (pro.st 4 s) pro.pk=pro.lk (.exit 0) (pro.st 4 s):=by kernel_rfl
def PrS.wc (s:PrS) (c0 c1 c2 c3:Int):PrS:= {s with cn0:=(dI c0).1,cs0:=(dI c0).2,cn1:=(dI c1).1,cs1:=(dI c1).2,cn2:=(dI c2).1,cs2:=(dI c2).2,cn3:=(dI c3).1,cs3:=(dI c3).2}
theorem pro.g0 {N:Nat→Prop} (s:PrS) (c0 c1 c2 c3:Int) (hx:szB PRM s.xn0 s.xs0=true) (hb:szB PRM s.bn0 s.bs0=true∧szB PRM s.bn1 s.bs1=true∧szB PRM s.bn2 s.bs2=true∧szB PRM s.bn3 s.bs3=true) (hc:Bd (2*PRM+1) c0∧Bd (2*PRM+1) c1∧Bd (2*PRM+1) c2∧Bd (2*PRM+1) c3) {x:X} {S':St}
  (ih:Lq Tryz.prog N pro.code (pro.st 1 (s.wc (c0+1*(vl s.xn0 s.xs0*vl s.bn0 s.bs0)) (c1+1*(vl s.xn0 s.xs0*vl s.bn1 s.bs1)) (c2+1*(vl s.xn0 s.xs0*vl s.bn2 s.bs2)) (c3+1*(vl s.xn0 s.xs0*vl s.bn3 s.bs3)))) x S'):Lq Tryz.prog N pro.code (pro.st 0 (s.wc c0 c1 c2 c3)) x S':=by
 have hn:pr.need (2*PRM+1) (s.wc c0 c1 c2 c3).in0=true:=by
  simp only [pr.need,zB]
  exact ⟨⟨⟨⟨⟨⟨⟨⟨hx,hb.1⟩,hb.2.1⟩,hb.2.2.1⟩,hb.2.2.2⟩,F3 hc.1⟩,F3 hc.2.1⟩,F3 hc.2.2.1⟩,F3 hc.2.2.2⟩
 have hz:(s.wc c0 c1 c2 c3).in0.z=⟨vl s.xn0 s.xs0,vl s.bn0 s.bs0,vl s.bn1 s.bs1,vl s.bn2 s.bs2,vl s.bn3 s.bs3,c0,c1,c2,c3⟩:=by simp only [PrS.z,PrS.wc,Kb]
 refine .to (f:=5) pro.envok pro.lsok ((pro.r0 (s.wc c0 c1 c2 c3)).trans (ct hn)) rfl ?_
 rw [hz]
 exact ih
theorem pro.g1 {N:Nat→Prop} (s:PrS) (c0 c1 c2 c3:Int) (hx:szB PRM s.xn1 s.xs1=true) (hb:szB PRM s.bn0 s.bs0=true∧szB PRM s.bn1 s.bs1=true∧szB PRM s.bn2 s.bs2=true∧szB PRM s.bn3 s.bs3=true) (hc:Bd (2*PRM+2) c0∧Bd (2*PRM+2) c1∧Bd (2*PRM+2) c2∧Bd (2*PRM+2) c3) {x:X} {S':St}
  (ih:Lq Tryz.prog N pro.code (pro.st 2 (s.wc (c0+2*(vl s.xn1 s.xs1*vl s.bn1 s.bs1)) (c1+1*(vl s.xn1 s.xs1*vl s.bn0 s.bs0)) (c2+2*(vl s.xn1 s.xs1*vl s.bn3 s.bs3)) (c3+1*(vl s.xn1 s.xs1*vl s.bn2 s.bs2)))) x S'):Lq Tryz.prog N pro.code (pro.st 1 (s.wc c0 c1 c2 c3)) x S':=by
 have hn:pr.need (2*PRM+2) (s.wc c0 c1 c2 c3).in1=true:=by
  simp only [pr.need,zB]
  exact ⟨⟨⟨⟨⟨⟨⟨⟨hx,hb.1⟩,hb.2.1⟩,hb.2.2.1⟩,hb.2.2.2⟩,F3 hc.1⟩,F3 hc.2.1⟩,F3 hc.2.2.1⟩,F3 hc.2.2.2⟩
 have hz:(s.wc c0 c1 c2 c3).in1.z=⟨vl s.xn1 s.xs1,vl s.bn0 s.bs0,vl s.bn1 s.bs1,vl s.bn2 s.bs2,vl s.bn3 s.bs3,c0,c1,c2,c3⟩:=by simp only [PrS.z,PrS.wc,Kb]
 refine .to (f:=5) pro.envok pro.lsok ((pro.r1 (s.wc c0 c1 c2 c3)).trans (ct hn)) rfl ?_
 rw [hz]
 exact ih
theorem pro.g2 {N:Nat→Prop} (s:PrS) (c0 c1 c2 c3:Int) (hx:szB PRM s.xn2 s.xs2=true) (hb:szB PRM s.bn0 s.bs0=true∧szB PRM s.bn1 s.bs1=true∧szB PRM s.bn2 s.bs2=true∧szB PRM s.bn3 s.bs3=true) (hc:Bd (2*PRM+3) c0∧Bd (2*PRM+3) c1∧Bd (2*PRM+3) c2∧Bd (2*PRM+3) c3) {x:X} {S':St}
  (ih:Lq Tryz.prog N pro.code (pro.st 3 (s.wc (c0+3*(vl s.xn2 s.xs2*vl s.bn2 s.bs2)) (c1+3*(vl s.xn2 s.xs2*vl s.bn3 s.bs3)) (c2+1*(vl s.xn2 s.xs2*vl s.bn0 s.bs0)) (c3+1*(vl s.xn2 s.xs2*vl s.bn1 s.bs1)))) x S'):Lq Tryz.prog N pro.code (pro.st 2 (s.wc c0 c1 c2 c3)) x S':=by
 have hn:pr.need (2*PRM+3) (s.wc c0 c1 c2 c3).in2=true:=by
  simp only [pr.need,zB]
  exact ⟨⟨⟨⟨⟨⟨⟨⟨hx,hb.1⟩,hb.2.1⟩,hb.2.2.1⟩,hb.2.2.2⟩,F3 hc.1⟩,F3 hc.2.1⟩,F3 hc.2.2.1⟩,F3 hc.2.2.2⟩
 have hz:(s.wc c0 c1 c2 c3).in2.z=⟨vl s.xn2 s.xs2,vl s.bn0 s.bs0,vl s.bn1 s.bs1,vl s.bn2 s.bs2,vl s.bn3 s.bs3,c0,c1,c2,c3⟩:=by simp only [PrS.z,PrS.wc,Kb]
 refine .to (f:=5) pro.envok pro.lsok ((pro.r2 (s.wc c0 c1 c2 c3)).trans (ct hn)) rfl ?_
 rw [hz]
 exact ih
theorem pro.g3 {N:Nat→Prop} (s:PrS) (c0 c1 c2 c3:Int) (hx:szB PRM s.xn3 s.xs3=true) (hb:szB PRM s.bn0 s.bs0=true∧szB PRM s.bn1 s.bs1=true∧szB PRM s.bn2 s.bs2=true∧szB PRM s.bn3 s.bs3=true) (hc:Bd (2*PRM+4) c0∧Bd (2*PRM+4) c1∧Bd (2*PRM+4) c2∧Bd (2*PRM+4) c3) {x:X} {S':St}
  (ih:Lq Tryz.prog N pro.code (pro.st 4 (s.wc (c0+6*(vl s.xn3 s.xs3*vl s.bn3 s.bs3)) (c1+3*(vl s.xn3 s.xs3*vl s.bn2 s.bs2)) (c2+2*(vl s.xn3 s.xs3*vl s.bn1 s.bs1)) (c3+1*(vl s.xn3 s.xs3*vl s.bn0 s.bs0)))) x S'):Lq Tryz.prog N pro.code (pro.st 3 (s.wc c0 c1 c2 c3)) x S':=by
 have hn:pr.need (2*PRM+4) (s.wc c0 c1 c2 c3).in3=true:=by
  simp only [pr.need,zB]
  exact ⟨⟨⟨⟨⟨⟨⟨⟨hx,hb.1⟩,hb.2.1⟩,hb.2.2.1⟩,hb.2.2.2⟩,F3 hc.1⟩,F3 hc.2.1⟩,F3 hc.2.2.1⟩,F3 hc.2.2.2⟩
 have hz:(s.wc c0 c1 c2 c3).in3.z=⟨vl s.xn3 s.xs3,vl s.bn0 s.bs0,vl s.bn1 s.bs1,vl s.bn2 s.bs2,vl s.bn3 s.bs3,c0,c1,c2,c3⟩:=by simp only [PrS.z,PrS.wc,Kb]
 refine .to (f:=5) pro.envok pro.lsok ((pro.r3 (s.wc c0 c1 c2 c3)).trans (ct hn)) rfl ?_
 rw [hz]
 exact ih
theorem pro.go {N:Nat→Prop} (s:PrS) (c0 c1 c2 c3:Int) (hx:szB PRM s.xn0 s.xs0=true∧szB PRM s.xn1 s.xs1=true∧szB PRM s.xn2 s.xs2=true∧szB PRM s.xn3 s.xs3=true) (hb:szB PRM s.bn0 s.bs0=true∧szB PRM s.bn1 s.bs1=true∧szB PRM s.bn2 s.bs2=true∧szB PRM s.bn3 s.bs3=true) (hc:Bd (2*PRM+1) c0∧Bd (2*PRM+1) c1∧Bd (2*PRM+1) c2∧Bd (2*PRM+1) c3):
  Lq Tryz.prog N pro.code (pro.st 0 (s.wc c0 c1 c2 c3)) (.exit 0) (pro.st 4 (s.wc ((((c0+1*(vl s.xn0 s.xs0*vl s.bn0 s.bs0))+2*(vl s.xn1 s.xs1*vl s.bn1 s.bs1))+3*(vl s.xn2 s.xs2*vl s.bn2 s.bs2))+6*(vl s.xn3 s.xs3*vl s.bn3 s.bs3)) ((((c1+1*(vl s.xn0 s.xs0*vl s.bn1 s.bs1))+1*(vl s.xn1 s.xs1*vl s.bn0 s.bs0))+3*(vl s.xn2 s.xs2*vl s.bn3 s.bs3))+3*(vl s.xn3 s.xs3*vl s.bn2 s.bs2)) ((((c2+1*(vl s.xn0 s.xs0*vl s.bn2 s.bs2))+2*(vl s.xn1 s.xs1*vl s.bn3 s.bs3))+1*(vl s.xn2 s.xs2*vl s.bn0 s.bs0))+2*(vl s.xn3 s.xs3*vl s.bn1 s.bs1)) ((((c3+1*(vl s.xn0 s.xs0*vl s.bn3 s.bs3))+1*(vl s.xn1 s.xs1*vl s.bn2 s.bs2))+1*(vl s.xn2 s.xs2*vl s.bn1 s.bs1))+1*(vl s.xn3 s.xs3*vl s.bn0 s.bs0)))):=by
 have ad:∀ {n m:Bool} {t u:ByteArray} {c q:Int} (k k':Nat),2*PRM+1≤k→k'=k+1→Bd k c→Few6 q→szB PRM n t=true→szB PRM m u=true→Bd k' (c+q*(vl n t*vl m u)):=fun k k' hk e hc hq h1 h2=>e▸
  hc.add (((Fu hq).mul ((Es h1).1.mul (Es h2).1)).mono (by omega))
 have f1:Few6 1:= .inl rfl
 have f2:Few6 2:= .inr (.inl rfl)
 have f3:Few6 3:= .inr (.inr (.inl rfl))
 have f6:Few6 6:= .inr (.inr (.inr rfl))
 obtain ⟨x0,x1,x2,x3⟩:=hx
 have hb':=hb
 obtain ⟨b0,b1,b2,b3⟩:=hb'
 obtain ⟨d0,d1,d2,d3⟩:=hc
 refine pro.g0 s _ _ _ _ x0 hb ⟨d0,d1,d2,d3⟩ ?_
 replace d0:=ad (2*PRM+1) (2*PRM+2) (by omega) (by omega) d0 f1 x0 b0
 replace d1:=ad (2*PRM+1) (2*PRM+2) (by omega) (by omega) d1 f1 x0 b1
 replace d2:=ad (2*PRM+1) (2*PRM+2) (by omega) (by omega) d2 f1 x0 b2
 replace d3:=ad (2*PRM+1) (2*PRM+2) (by omega) (by omega) d3 f1 x0 b3
 refine pro.g1 s _ _ _ _ x1 hb ⟨d0,d1,d2,d3⟩ ?_
 replace d0:=ad (2*PRM+2) (2*PRM+3) (by omega) (by omega) d0 f2 x1 b1
 replace d1:=ad (2*PRM+2) (2*PRM+3) (by omega) (by omega) d1 f1 x1 b0
 replace d2:=ad (2*PRM+2) (2*PRM+3) (by omega) (by omega) d2 f2 x1 b3
 replace d3:=ad (2*PRM+2) (2*PRM+3) (by omega) (by omega) d3 f1 x1 b2
 refine pro.g2 s _ _ _ _ x2 hb ⟨d0,d1,d2,d3⟩ ?_
 replace d0:=ad (2*PRM+3) (2*PRM+4) (by omega) (by omega) d0 f3 x2 b2
 replace d1:=ad (2*PRM+3) (2*PRM+4) (by omega) (by omega) d1 f3 x2 b3
 replace d2:=ad (2*PRM+3) (2*PRM+4) (by omega) (by omega) d2 f1 x2 b0
 replace d3:=ad (2*PRM+3) (2*PRM+4) (by omega) (by omega) d3 f1 x2 b1
 refine pro.g3 s _ _ _ _ x3 hb ⟨d0,d1,d2,d3⟩ ?_
 exact .end (f:=5) pro.envok pro.lsok (pro.r4 _) (fun q=>by cases q) rfl
def PrS.fin (s:PrS):PrS:=s.wc (((((vl s.cn0 s.cs0+1*(vl s.xn0 s.xs0*vl s.bn0 s.bs0))+2*(vl s.xn1 s.xs1*vl s.bn1 s.bs1))+3*(vl s.xn2 s.xs2*vl s.bn2 s.bs2))+6*(vl s.xn3 s.xs3*vl s.bn3 s.bs3))) (((((vl s.cn1 s.cs1+1*(vl s.xn0 s.xs0*vl s.bn1 s.bs1))+1*(vl s.xn1 s.xs1*vl s.bn0 s.bs0))+3*(vl s.xn2 s.xs2*vl s.bn3 s.bs3))+3*(vl s.xn3 s.xs3*vl s.bn2 s.bs2))) (((((vl s.cn2 s.cs2+1*(vl s.xn0 s.xs0*vl s.bn2 s.bs2))+2*(vl s.xn1 s.xs1*vl s.bn3 s.bs3))+1*(vl s.xn2 s.xs2*vl s.bn0 s.bs0))+2*(vl s.xn3 s.xs3*vl s.bn1 s.bs1))) (((((vl s.cn3 s.cs3+1*(vl s.xn0 s.xs0*vl s.bn3 s.bs3))+1*(vl s.xn1 s.xs1*vl s.bn2 s.bs2))+1*(vl s.xn2 s.xs2*vl s.bn1 s.bs1))+1*(vl s.xn3 s.xs3*vl s.bn0 s.bs0)))
def pro.need (s:PrS):Bool:=szB PRM s.xn0 s.xs0&&szB PRM s.xn1 s.xs1&&szB PRM s.xn2 s.xs2&&szB PRM s.xn3 s.xs3&&szB PRM s.bn0 s.bs0&&szB PRM s.bn1 s.bs1&&szB PRM s.bn2 s.bs2&&szB PRM s.bn3 s.bs3&&szB (2*PRM+1) s.cn0 s.cs0&&szB (2*PRM+1) s.cn1 s.cs1&&szB (2*PRM+1) s.cn2 s.cs2&&szB (2*PRM+1) s.cn3 s.cs3
noncomputable def pro.lt (s:PrS):LT:= .got (pro.need s) (.exit 0) (pro.st 4 s.fin)
theorem pro.lp {N:Nat→Prop} (s:PrS) {x:X} {S':St} (h:(pro.lt s).at=some (x,S')):Lq Tryz.prog N pro.code (pro.st 0 s) x S':=by
 obtain ⟨hn,rfl,rfl⟩:=Ez h
 simp only [pro.need,zB] at hn
 obtain ⟨⟨⟨⟨⟨⟨⟨⟨⟨⟨⟨x0,x1⟩,x2⟩,x3⟩,b0⟩,b1⟩,b2⟩,b3⟩,c0⟩,c1⟩,c2⟩,c3⟩:=hn
 have:=pro.go (N:=N) s _ _ _ _ ⟨x0,x1,x2,x3⟩ ⟨b0,b1,b2,b3⟩ ⟨(Es c0).1,(Es c1).1,(Es c2).1,(Es c3).1⟩
 have e:s.wc (vl s.cn0 s.cs0) (vl s.cn1 s.cs1) (vl s.cn2 s.cs2) (vl s.cn3 s.cs3)=s:=by
  unfold PrS.wc
  simp only [(Es c0).2,(Es c1).2,(Es c2).2,(Es c3).2]
 rw [e] at this
 exact this
def pro.of (S:St):PrS:= {pr.of S with un0:=false,us0:=⟨#[]⟩,yn0:=false,ys0:=⟨#[]⟩,yn1:=false,ys1:=⟨#[]⟩,yn2:=false,ys2:=⟨#[]⟩,yn3:=false,ys3:=⟨#[]⟩}
def pro.chk (S:St):Bool:=Nat.beq S.tmps.length 62&&(Nat.beq S.nxt 112&&(isP (RX.nth S.tmps 2) 0&&(isP (RX.nth S.tmps 3) 16&&(isP (RX.nth S.tmps 4) 32&&(isP (RX.nth S.tmps 5) 48&&(isA 4 (RX.nth S.tmps 12)&&(isI (RX.nth S.tmps 13)&&
 (isB 26 5 (RX.look S.heap 0)&&(isB 26 5 (RX.look S.heap 16)&&(isZ 26 5 (RX.look S.heap 32)&&(isB 24 4 (RX.look S.heap 48)&&ieq (iA (RX.nth S.tmps 13)) 0)))))))))))
noncomputable def pro.t:LSpec:=fun S=>bif pro.chk S then some (pro.lt (pro.of S)) else none
theorem Pq {α:Type} {a0 a1 a2 a3 a4 a5 b0 b1 b2 b3 b4 b5:α} (h0:a0=b0) (h1:a1=b1) (h2:a2=b2) (h3:a3=b3) (h4:a4=b4) (h5:a5=b5):[a0,a1,a2,a3,a4,a5]=[b0,b1,b2,b3,b4,b5]:=by subst h0 h1 h2 h3 h4 h5; rfl
theorem Ps {α:Type} {a0 a1 a2 a3 b0 b1 b2 b3:α} (h0:a0=b0) (h1:a1=b1) (h2:a2=b2) (h3:a3=b3):[a0,a1,a2,a3]=[b0,b1,b2,b3]:=by subst h0 h1 h2 h3; rfl
theorem pro.lok {N:Nat→Prop} :LOKn Tryz.prog N pro.code pro.t:=by
 refine FS fun S lt x S' ht hat=> ?_
 unfold pro.t at ht
 cases hb:pro.chk S with
 |false=>rw [hb] at ht; cases ht
 | true=>
  rw [hb] at ht
  injection ht with ht
  subst ht
  simp only [pro.chk,zB] at hb
  obtain ⟨hl,hn,h2,h3,h4,h5,h12,h13,g0,g16,g32,g48,e1⟩:=hb
  have e1:=Gl.1 e1
  have h13:=MX h13
  rw [e1] at h13
  refine .into 62 [2,3,4,5,12,13] [0,16,32,48] hl (zE hn) ?_ ?_ rfl (pro.lp (pro.of S) hat)
  ·simp only [List.map_cons,List.map_nil]
   rw [HH h2,HH h3,HH h4,HH h5,h13]
   exact Pq rfl rfl rfl rfl (O5 h12) rfl
  ·simp only [List.map_cons,List.map_nil]
   exact Ps (Ig g0) (Ig g16) (Qs g32) (Ig g48)
def LIM:Nat:=4000000000
theorem KQ {j k:Nat} {a b:Int} (ha:Bd j a) (hb:Bd k b) (hj:j≤LIM) (hk:k≤LIM):EO.pre (dI a).1 (dI a).2 (dI b).1 (dI b).2=true:=by
 unfold LIM at hj hk
 simp only [EO.pre,Gq ha (by omega),Gq hb (by omega),Bool.and_self]
theorem I6 {j k:Nat} {a b:Int} (ha:Bd j a) (hb:Bd k b) (hj:j≤LIM) (hk:k≤LIM):By.pre (dI a).1 (dI a).2 (dI b).1 (dI b).2=true:=by
 unfold LIM at hj hk
 simp only [By.pre,Gq ha (by omega),Gq hb (by omega),Bool.and_self]
theorem Mq {j k:Nat} {a b:Int} (ha:Bd j a) (hb:Bd k b) (hj:j≤2*LIM) (hk:k≤2*LIM):Dt.pre (dI a).1 (dI a).2 (dI b).1 (dI b).2=true:=by
 unfold LIM at hj hk
 simp only [Dt.pre,Gf ha (by omega),Gf hb (by omega),Bool.and_self]
theorem Oe {j k:Nat} {a b:Int} (ha:Bd j a) (hb:Bd k b) (hj:j≤2*LIM) (hk:k≤2*LIM):EN.pre (dI a).1 (dI a).2 (dI b).1 (dI b).2=true:=by
 unfold LIM at hj hk
 simp only [EN.pre,Gf ha (by omega),Gf hb (by omega),Bool.and_self]
theorem cmp_pre {j k:Nat} {a b:Int} (ha:Bd j a) (hb:Bd k b) (hj:j≤2*LIM) (hk:k≤2*LIM):EP.pre (dI a).1 (dI a).2 (dI b).1 (dI b).2=true:=by
 unfold LIM at hj hk
 simp only [EP.pre,Gf ha (by omega),Gf hb (by omega),Bool.and_self]
theorem dm_pre {j k:Nat} {a b:Int} (ha:Bd j a) (hb:Bd k b) (hj:j≤LIM) (hk:k≤LIM):E1.pre (dI a).1 (dI a).2 (dI b).1 (dI b).2=true:=by
 unfold LIM at hj hk
 simp only [E1.pre,Gq ha (by omega),Gq hb (by omega),Bool.and_self]
theorem NH (n:Int):Ct n=dI n:=rfl
theorem of_pre {n:Int} (h: -9223372036854775808≤n) (h':n≤9223372036854775807):Ct.pre n=true:=by
 simp [Ct.pre,h,h']
theorem KK:Ct.pre 1=true:=rfl
theorem Ew {α:Type} {o:Option α} {v:α} (h:o=some v):o.isSome=true:=by rw [h]; rfl
theorem FP {α:Type} [Inhabited α] {o:Option α} {v:α} (h:o=some v):o.getD default=v:=by rw [h]; rfl
structure Q where
 (c0 c1 c2 c3 d:Int)
deriving DecidableEq
abbrev T10:=TY5
def C5 (q:Q):T10:=((dI q.c0).1,(dI q.c0).2,(dI q.c1).1,(dI q.c1).2,(dI q.c2).1,(dI q.c2).2,(dI q.c3).1,(dI q.c3).2,(dI q.d).1,(dI q.d).2)
def gg (c0 c1 c2 c3 d:Int):Int:=((Int.gcd ((Int.gcd ((Int.gcd ((Int.gcd d c0:Nat):Int) c1:Nat):Int) c2:Nat):Int) c3:Nat):Int)
def Q.g (q:Q):Int:=gg q.c0 q.c1 q.c2 q.c3 q.d
def Q.ok (q:Q):Bool:=decide (0<q.d)&&q.g==1
def Q.zero:Q:=⟨0,0,0,0,0⟩
def low (q:Q):Q:=let g:=if q.d<0 then -q.g else q.g; ⟨q.c0/g,q.c1/g,q.c2/g,q.c3/g,q.d/g⟩
structure Q.Bd (k:Nat) (q:Q):Prop where
 c0:G.Bd k q.c0
 c1:G.Bd k q.c1
 c2:G.Bd k q.c2
 c3:G.Bd k q.c3
 d:G.Bd k q.d
theorem Q.Bd.mono {j k:Nat} {q:Q} (h:q.Bd j) (hk:j≤k):q.Bd k:=⟨h.c0.mono hk,h.c1.mono hk,h.c2.mono hk,h.c3.mono hk,h.d.mono hk⟩
theorem Ii {j k:Nat} {a b:Int} (ha:Bd k a) (hb:Bd k b):Bd k ((Int.gcd a b:Nat):Int):=by
 by_cases h:a=0
 ·subst h
  rw [Int.gcd_zero_left]
  exact hb.le (by omega)
 ·refine ha.le ?_
  have:=Nat.le_of_dvd (by omega) (Int.gcd_dvd_natAbs_left a b)
  omega
theorem Q.Bd.g {k:Nat} {q:Q} (h:q.Bd k):G.Bd k q.g:=Ii (j:=k) (Ii (j:=k) (Ii (j:=k) (Ii (j:=k) h.d h.c0) h.c1) h.c2) h.c3
theorem Pw (c0 c1 c2 c3 d:Int):0≤gg c0 c1 c2 c3 d:=by unfold gg; omega
theorem R2 (c0 c1 c2 c3 d:Int):gg c0 c1 c2 c3 d∣d∧gg c0 c1 c2 c3 d∣c0∧gg c0 c1 c2 c3 d∣c1∧gg c0 c1 c2 c3 d∣c2∧gg c0 c1 c2 c3 d∣c3:=by
 unfold gg
 have h3:=Int.gcd_dvd_left ((Int.gcd ((Int.gcd ((Int.gcd d c0:Nat):Int) c1:Nat):Int) c2:Nat):Int) c3
 have h3':=Int.gcd_dvd_right ((Int.gcd ((Int.gcd ((Int.gcd d c0:Nat):Int) c1:Nat):Int) c2:Nat):Int) c3
 have h2:=Int.gcd_dvd_left ((Int.gcd ((Int.gcd d c0:Nat):Int) c1:Nat):Int) c2
 have h2':=Int.gcd_dvd_right ((Int.gcd ((Int.gcd d c0:Nat):Int) c1:Nat):Int) c2
 have h1:=Int.gcd_dvd_left ((Int.gcd d c0:Nat):Int) c1
 have h1':=Int.gcd_dvd_right ((Int.gcd d c0:Nat):Int) c1
 have h0:=Int.gcd_dvd_left d c0
 have h0':=Int.gcd_dvd_right d c0
 exact ⟨Int.dvd_trans h3 (Int.dvd_trans h2 (Int.dvd_trans h1 h0)),Int.dvd_trans h3 (Int.dvd_trans h2 (Int.dvd_trans h1 h0')),Int.dvd_trans h3 (Int.dvd_trans h2 h1'),Int.dvd_trans h3 h2',h3'⟩
theorem Qz {c0 c1 c2 c3 d:Int} (h:d≠0):0<gg c0 c1 c2 c3 d:=by
 have h1:=Pw c0 c1 c2 c3 d
 have h2:=(R2 c0 c1 c2 c3 d).1
 by_cases h0:gg c0 c1 c2 c3 d=0
 ·rw [h0] at h2
  exact absurd (Int.zero_dvd.1 h2) h
 ·omega
theorem R5 {a b:Int} (hb:b≠0) (h:b∣a):fq a b=a/b:=by
 obtain ⟨c,rfl⟩:=h
 unfold fq
 split
 ·rfl
 ·rw [Int.mul_ediv_cancel_left _ hb,←Int.mul_neg,show b* -c=(-b)*c by rw [Int.mul_neg,Int.neg_mul],Int.mul_ediv_cancel_left _ (by omega)]
theorem JK {k:Nat} {a b:Int} (ha:Bd k a) (hb:b≠0) (h:b∣a):Bd k (a/b):=by
 obtain ⟨c,rfl⟩:=h
 rw [Int.mul_ediv_cancel_left _ hb]
 refine ha.le ?_
 rw [Int.natAbs_mul]
 exact Nat.le_mul_of_pos_left _ (by omega)
def sg_ (q:Q):Int:=if q.d<0 then -q.g else q.g
theorem Mx {q:Q} (h:q.d≠0):sg_ q≠0:=by
 have:0<q.g:=Qz h
 unfold sg_; split<;>omega
theorem Kj (q:Q):sg_ q∣q.d∧sg_ q∣q.c0∧sg_ q∣q.c1∧sg_ q∣q.c2∧sg_ q∣q.c3:=by
 have h:=R2 q.c0 q.c1 q.c2 q.c3 q.d
 unfold sg_
 split
 ·exact ⟨(Int.neg_dvd).2 h.1,(Int.neg_dvd).2 h.2.1,(Int.neg_dvd).2 h.2.2.1,(Int.neg_dvd).2 h.2.2.2.1,(Int.neg_dvd).2 h.2.2.2.2⟩
 ·exact h
theorem MT {k:Nat} {q:Q} (h:q.Bd k) (hd:q.d≠0):(low q).Bd k:=by
 have hn:=Mx hd
 obtain ⟨d,d0,d1,d2,d3⟩:=Kj q
 exact ⟨JK h.c0 hn d0,JK h.c1 hn d1,JK h.c2 hn d2,JK h.c3 hn d3,JK h.d hn d⟩
theorem Qy (m c0 c1 c2 c3 d:Int):gg (m*c0) (m*c1) (m*c2) (m*c3) (m*d)=m.natAbs*gg c0 c1 c2 c3 d:=by
 unfold gg
 have key:∀(m n:Int) (a b:Int),m.natAbs=n.natAbs→Int.gcd (m*a) (n*b)=m.natAbs*Int.gcd a b:=fun m n a b h=>by
  rw [Int.gcd_eq_natAbs_gcd_natAbs,Int.natAbs_mul,Int.natAbs_mul,←h,Nat.gcd_mul_left,←Int.gcd_eq_natAbs_gcd_natAbs]
 have k2:∀(x:Nat) (c:Int),Int.gcd ((m.natAbs*x:Nat):Int) (m*c)=m.natAbs*Int.gcd (x:Int) c:=fun x c=>by
  rw [Int.natCast_mul]
  exact key _ m _ _ (by omega)
 rw [key m m d c0 rfl,k2,k2,k2,Int.natCast_mul]
theorem O2 {q:Q} (hd:q.d≠0):(low q).ok=true:=by
 have hn:=Mx hd
 have hg:0<q.g:=Qz hd
 obtain ⟨⟨d,e⟩,⟨a0,e0⟩,⟨a1,e1⟩,⟨a2,e2⟩,⟨a3,e3⟩⟩:=Kj q
 have l:low q=⟨a0,a1,a2,a3,d⟩:=by
  show (⟨q.c0/sg_ q,q.c1/sg_ q,q.c2/sg_ q,q.c3/sg_ q,q.d/sg_ q⟩:Q)=_
  have f:∀ {x y:Int},x=sg_ q*y→x/sg_ q=y:=fun h=>by rw [h,Int.mul_ediv_cancel_left _ hn]
  rw [f e,f e0,f e1,f e2,f e3]
 rw [l]
 have hs:q.g=(sg_ q).natAbs*gg a0 a1 a2 a3 d:=by
  show gg q.c0 q.c1 q.c2 q.c3 q.d=_
  rw [e,e0,e1,e2,e3,Qy]
 have ha:((sg_ q).natAbs:Int)=q.g:=by unfold sg_; split<;>omega
 rw [ha] at hs
 have h1:gg a0 a1 a2 a3 d=1:=by
  have:q.g*gg a0 a1 a2 a3 d=q.g*1:=by omega
  exact Int.eq_of_mul_eq_mul_left (by omega) this
 have h2:0<d:=by
  by_cases hneg:q.d<0
  ·have hsg:sg_ q= -q.g:=by unfold sg_; rw [if_pos hneg]
   rw [hsg] at e
   have:=Int.pos_of_mul_neg_right (a:= -q.g) (b:=d) (by omega) (by omega)
   exact this
  ·have hsg:sg_ q=q.g:=by unfold sg_; rw [if_neg hneg]
   rw [hsg] at e
   exact Int.pos_of_mul_pos_right (a:=q.g) (b:=d) (by omega) (by omega)
 simp [Q.ok,Q.g,h1,h2]
end Go.Proofs.YtpejalpgficopaaGreatDoor.G
end
section
namespace Go.Proofs.YtpejalpgficopaaGreatDoor.G
open Go Go.Proofs Go.RowKit RX
section
variable {R:Type} (D3:Bool→ByteArray→Bool→ByteArray→(Bool×ByteArray)) (D1:Bool→ByteArray→Bool→ByteArray→Bool) (A7:Bool) (AA:ByteArray) (AG:Bool) (AF:ByteArray) (AE:Bool) (AD:ByteArray) (AI:Bool) (AH:ByteArray) (AC:Bool) (AB:ByteArray)
def Bm.K (k:Bool×ByteArray→Option R):Option R:=
 let t0:=D1 AC AB A7 AA
 bif t0 then
 let t1:=D3 AC AB A7 AA
 let t2:=D1 t1.1 t1.2 AG AF
 bif t2 then
 let t3:=D3 t1.1 t1.2 AG AF
 let t4:=D1 t3.1 t3.2 AE AD
 bif t4 then
 let t5:=D3 t3.1 t3.2 AE AD
 let t6:=D1 t5.1 t5.2 AI AH
 bif t6 then
 let t7:=D3 t5.1 t5.2 AI AH
 k (t7.1,t7.2) else none else none else none else none
theorem Bm.run:xfn Tryz.prog ⟨[(185,EO.sp D3 D1)],[],[]⟩ [] 60 Tryz.f159 [.agg ⟨[.bool A7,.string AA,.bool AG,.string AF,.bool AE,.string AD,.bool AI,.string AH]⟩,.agg ⟨[.bool AC,.string AB]⟩] []=Bm.K D3 D1 A7 AA AG AF AE AD AI AH AC AB (fun r=>some (.agg ⟨[.bool r.1,.string r.2]⟩,[])):=by kernel_rfl
def Bm.o:Option (Bool×ByteArray):=Bm.K EO EO.pre A7 AA AG AF AE AD AI AH AC AB some
def Bm.pre:Bool:=(Bm.o A7 AA AG AF AE AD AI AH AC AB).isSome
def Bm:Bool×ByteArray:=(Bm.o A7 AA AG AF AE AD AI AH AC AB).getD default
theorem Bm.nat (k:Bool×ByteArray→Option R):Bm.K D3 D1 A7 AA AG AF AE AD AI AH AC AB k=(Bm.K D3 D1 A7 AA AG AF AE AD AI AH AC AB some).bind k:=by
 simp only [Bm.K,bcond,Option.bind_some,Option.bind_none]
theorem Bm.os {k:Nat} {c0 c1 c2 c3 d:Int} (h0:Bd k c0) (h1:Bd k c1) (h2:Bd k c2) (h3:Bd k c3) (hd:Bd k d) (hk:k≤LIM):
  Bm.o (dI c0).1 (dI c0).2 (dI c1).1 (dI c1).2 (dI c2).1 (dI c2).2 (dI c3).1 (dI c3).2 (dI d).1 (dI d).2=some (dI (gg c0 c1 c2 c3 d)):=by
 have g0:=Ii (j:=k) hd h0
 have g1:=Ii (j:=k) g0 h1
 have g2:=Ii (j:=k) g1 h2
 simp only [Bm.o,Bm.K,Le,KQ hd h0 hk hk,KQ g0 h1 hk hk,KQ g1 h2 hk hk,KQ g2 h3 hk hk,cond_true]
 rfl
theorem Bm.ps {k:Nat} {c0 c1 c2 c3 d:Int} (h0:Bd k c0) (h1:Bd k c1) (h2:Bd k c2) (h3:Bd k c3) (hd:Bd k d) (hk:k≤LIM):
 Bm.pre (dI c0).1 (dI c0).2 (dI c1).1 (dI c1).2 (dI c2).1 (dI c2).2 (dI c3).1 (dI c3).2 (dI d).1 (dI d).2=true:=Ew (Bm.os h0 h1 h2 h3 hd hk)
theorem Bm.es {k:Nat} {c0 c1 c2 c3 d:Int} (h0:Bd k c0) (h1:Bd k c1) (h2:Bd k c2) (h3:Bd k c3) (hd:Bd k d) (hk:k≤LIM):
 Bm (dI c0).1 (dI c0).2 (dI c1).1 (dI c1).2 (dI c2).1 (dI c2).2 (dI c3).1 (dI c3).2 (dI d).1 (dI d).2=dI (gg c0 c1 c2 c3 d):=FP (Bm.os h0 h1 h2 h3 hd hk)
end
theorem Bm.ok:SOK Tryz.prog 159 (Bm.sp Bm Bm.pre):=by
 refine Dl (E:=⟨[(185,EO.sp EO EO.pre)],[],[]⟩) (L:=[]) ⟨(Aa EO.ok Ac),Aq,Aj,Ap⟩ 60 Tryz.func159 (by decide) rfl Bf fun vs bl v bl' h=> ?_
 unfold Bm.sp at h
 split at h
 ·rename_i A7 AA AG AF AE AD AI AH AC AB
  simp only [zS,zP] at h
  obtain ⟨hp,rfl,rfl⟩:=h
  have hr:=Bm.run EO EO.pre A7 AA AG AF AE AD AI AH AC AB
  rw [Bm.nat] at hr
  obtain ⟨r,h2⟩:=Option.isSome_iff_exists.1 (hp:(Bm.o A7 AA AG AF AE AD AI AH AC AB).isSome=true)
  have h3:Bm A7 AA AG AF AE AD AI AH AC AB=r:=by unfold Bm; rw [h2]; rfl
  have h4:Bm.K EO EO.pre A7 AA AG AF AE AD AI AH AC AB some=some r:=h2
  rw [h4,Option.bind_some] at hr
  rw [h3]
  exact ⟨hr,by simp [okV,Nat.blt],clo_spec 8 _ (by kernel_rfl),Bg (by kernel_rfl)⟩
 ·cases h
section
variable {R:Type} (DF:Bool→ByteArray→Bool→ByteArray→(Bool×ByteArray×Bool×ByteArray×Int)) (DD:Bool→ByteArray→Bool→ByteArray→Bool) (A7:Bool) (AA:ByteArray) (AC:Bool) (AB:ByteArray)
def Cl.K (k:Bool×ByteArray→Option R):Option R:=
 let t0:=DD A7 AA AC AB
 bif t0 then
 let t1:=DF A7 AA AC AB
 k (t1.1,t1.2.1) else none
theorem Cl.run:xfn Tryz.prog ⟨[(198,E1.sp DF DD)],[],[]⟩ [] 60 Tryz.f194 [.agg ⟨[.bool A7,.string AA]⟩,.agg ⟨[.bool AC,.string AB]⟩] []=Cl.K DF DD A7 AA AC AB (fun r=>some (.agg ⟨[.bool r.1,.string r.2]⟩,[])):=by kernel_rfl
def Cl.o:Option (Bool×ByteArray):=Cl.K E1 E1.pre A7 AA AC AB some
def Cl.pre:Bool:=(Cl.o A7 AA AC AB).isSome
def Cl:Bool×ByteArray:=(Cl.o A7 AA AC AB).getD default
theorem Cl.nat (k:Bool×ByteArray→Option R):Cl.K DF DD A7 AA AC AB k=(Cl.K DF DD A7 AA AC AB some).bind k:=by
 simp only [Cl.K,bcond,Option.bind_some,Option.bind_none]
theorem Cl.os {j k:Nat} {a b:Int} (ha:Bd j a) (hb:Bd k b) (hj:j≤LIM) (hk:k≤LIM) (h0:b≠0) (hd:b∣a):Cl.o (dI a).1 (dI a).2 (dI b).1 (dI b).2=some (dI (a/b)):=by
 simp only [Cl.o,Cl.K,dm_pre ha hb hj hk,Jr h0,R5 h0 hd,cond_true]
theorem Cl.ps {j k:Nat} {a b:Int} (ha:Bd j a) (hb:Bd k b) (hj:j≤LIM) (hk:k≤LIM) (h0:b≠0) (hd:b∣a):Cl.pre (dI a).1 (dI a).2 (dI b).1 (dI b).2=true:=Ew (Cl.os ha hb hj hk h0 hd)
theorem Cl.es {j k:Nat} {a b:Int} (ha:Bd j a) (hb:Bd k b) (hj:j≤LIM) (hk:k≤LIM) (h0:b≠0) (hd:b∣a):Cl (dI a).1 (dI a).2 (dI b).1 (dI b).2=dI (a/b):=FP (Cl.os ha hb hj hk h0 hd)
end
theorem Cl.ok:SOK Tryz.prog 194 (Cl.sp Cl Cl.pre):=by
 refine Dl (E:=⟨[(198,E1.sp E1 E1.pre)],[],[]⟩) (L:=[]) ⟨(Aa E1.ok Ac),Aq,Aj,Ap⟩ 60 Tryz.func194 (by decide) rfl Bf fun vs bl v bl' h=> ?_
 unfold Cl.sp at h
 split at h
 ·rename_i A7 AA AC AB
  simp only [zS,zP] at h
  obtain ⟨hp,rfl,rfl⟩:=h
  have hr:=Cl.run E1 E1.pre A7 AA AC AB
  rw [Cl.nat] at hr
  obtain ⟨r,h2⟩:=Option.isSome_iff_exists.1 (hp:(Cl.o A7 AA AC AB).isSome=true)
  have h3:Cl A7 AA AC AB=r:=by unfold Cl; rw [h2]; rfl
  have h4:Cl.K E1 E1.pre A7 AA AC AB some=some r:=h2
  rw [h4,Option.bind_some] at hr
  rw [h3]
  exact ⟨hr,by simp [okV,Nat.blt],clo_spec 8 _ (by kernel_rfl),Bg (by kernel_rfl)⟩
 ·cases h
section
variable {R:Type} (C6:Bool→ByteArray→(Int)) (CI:TF5 (Bool×ByteArray)) (CO:TF5 Bool) (C0:Int→(Bool×ByteArray)) (BZ:Int→Bool) (BX:Bool→ByteArray→(Bool×ByteArray)) (CK:Bool→ByteArray→Bool→ByteArray→(Bool×ByteArray)) (CJ:Bool→ByteArray→Bool→ByteArray→Bool) (A7:Bool) (AA:ByteArray) (AG:Bool) (AF:ByteArray) (AE:Bool) (AD:ByteArray) (AI:Bool) (AH:ByteArray) (AC:Bool) (AB:ByteArray)
def Az.K (k:TY5→Option R):Option R:=
 let t0:=CO A7 AA AG AF AE AD AI AH AC AB
 bif t0 then
 let t1:=C6 AC AB
 bif decide (t1<0) then
 let t2:=BZ 1
 bif t2 then
 let t3:=CI A7 AA AG AF AE AD AI AH AC AB
 let t4:=BX t3.1 t3.2
 let t5:=C0 1
 bif t4.1==t5.1&&t4.2.toList==t5.2.toList then k (A7,AA,AG,AF,AE,AD,AI,AH,AC,AB) else
 let t6:=CJ A7 AA t4.1 t4.2
 bif t6 then
 let t7:=CJ AG AF t4.1 t4.2
 bif t7 then
 let t8:=CJ AE AD t4.1 t4.2
 bif t8 then
 let t9:=CJ AI AH t4.1 t4.2
 bif t9 then
 let t10:=CJ AC AB t4.1 t4.2
 bif t10 then
 let t11:=CK A7 AA t4.1 t4.2
 let t12:=CK AG AF t4.1 t4.2
 let t13:=CK AE AD t4.1 t4.2
 let t14:=CK AI AH t4.1 t4.2
 let t15:=CK AC AB t4.1 t4.2
 k (t11.1,t11.2,t12.1,t12.2,t13.1,t13.2,t14.1,t14.2,t15.1,t15.2) else none else none else none else none else none else none else
 let t16:=BZ 1
 bif t16 then
 let t17:=CI A7 AA AG AF AE AD AI AH AC AB
 let t18:=C0 1
 bif t17.1==t18.1&&t17.2.toList==t18.2.toList then k (A7,AA,AG,AF,AE,AD,AI,AH,AC,AB) else
 let t19:=CJ A7 AA t17.1 t17.2
 bif t19 then
 let t20:=CJ AG AF t17.1 t17.2
 bif t20 then
 let t21:=CJ AE AD t17.1 t17.2
 bif t21 then
 let t22:=CJ AI AH t17.1 t17.2
 bif t22 then
 let t23:=CJ AC AB t17.1 t17.2
 bif t23 then
 let t24:=CK A7 AA t17.1 t17.2
 let t25:=CK AG AF t17.1 t17.2
 let t26:=CK AE AD t17.1 t17.2
 let t27:=CK AI AH t17.1 t17.2
 let t28:=CK AC AB t17.1 t17.2
 k (t24.1,t24.2,t25.1,t25.2,t26.1,t26.2,t27.1,t27.2,t28.1,t28.2) else none else none else none else none else none else none else none
theorem Az.run:xfn Tryz.prog ⟨[(158,E4.sp C6),(159,Bm.sp CI CO),(160,Ct.sp C0 BZ),(193,EA.sp BX),(194,Cl.sp CK CJ)],[],[]⟩ [] 60 Tryz.f164 [.agg ⟨[.bool A7,.string AA,.bool AG,.string AF,.bool AE,.string AD,.bool AI,.string AH]⟩,.agg ⟨[.bool AC,.string AB]⟩] []=Az.K C6 CI CO C0 BZ BX CK CJ A7 AA AG AF AE AD AI AH AC AB (fun r=>some (.agg ⟨[.bool r.1,.string r.2.1,.bool r.2.2.1,.string r.2.2.2.1,.bool r.2.2.2.2.1,.string r.2.2.2.2.2.1,.bool r.2.2.2.2.2.2.1,.string r.2.2.2.2.2.2.2.1,.bool r.2.2.2.2.2.2.2.2.1,.string r.2.2.2.2.2.2.2.2.2]⟩,[])):=by kernel_rfl
def Az.o:Option (TY5):=Az.K E4 Bm Bm.pre Ct Ct.pre EA Cl Cl.pre A7 AA AG AF AE AD AI AH AC AB some
def Az.pre:Bool:=(Az.o A7 AA AG AF AE AD AI AH AC AB).isSome
def Az:TY5:=(Az.o A7 AA AG AF AE AD AI AH AC AB).getD default
theorem Az.nat (k:TY5→Option R):Az.K C6 CI CO C0 BZ BX CK CJ A7 AA AG AF AE AD AI AH AC AB k=(Az.K C6 CI CO C0 BZ BX CK CJ A7 AA AG AF AE AD AI AH AC AB some).bind k:=by
 simp only [Az.K,bcond,Option.bind_some,Option.bind_none]
theorem Az.os {k:Nat} {q:Q} (h:q.Bd k) (hk:k≤LIM) (hd:q.d≠0):
  Az.o (dI q.c0).1 (dI q.c0).2 (dI q.c1).1 (dI q.c1).2 (dI q.c2).1 (dI q.c2).2 (dI q.c3).1 (dI q.c3).2 (dI q.d).1 (dI q.d).2=some (C5 (low q)):=by
 have hn:=Mx hd
 obtain ⟨d,d0,d1,d2,d3⟩:=Kj q
 have hg:Bd k (sg_ q):=by unfold sg_; split; exact h.g.neg; exact h.g
 have c1:=Bm.ps h.c0 h.c1 h.c2 h.c3 h.d hk
 have c2:=Bm.es h.c0 h.c1 h.c2 h.c3 h.d hk
 have o0:=Cl.es h.c0 hg hk hk hn d0
 have o1:=Cl.es h.c1 hg hk hk hn d1
 have o2:=Cl.es h.c2 hg hk hk hn d2
 have o3:=Cl.es h.c3 hg hk hk hn d3
 have o4:=Cl.es h.d hg hk hk hn d
 have p0:=Cl.ps h.c0 hg hk hk hn d0
 have p1:=Cl.ps h.c1 hg hk hk hn d1
 have p2:=Cl.ps h.c2 hg hk hk hn d2
 have p3:=Cl.ps h.c3 hg hk hk hn d3
 have p4:=Cl.ps h.d hg hk hk hn d
 have hl:low q=⟨q.c0/sg_ q,q.c1/sg_ q,q.c2/sg_ q,q.c3/sg_ q,q.d/sg_ q⟩:=rfl
 have hgq:gg q.c0 q.c1 q.c2 q.c3 q.d=q.g:=rfl
 have h1:sg_ q=1→C5 q=C5 (low q):=fun e=>by rw [hl,e]; simp
 by_cases hneg:q.d<0
 ·have es:sgn q.d<0:=by simp [sgn,hneg]
  have hs:sg_ q= -q.g:=by unfold sg_; rw [if_pos hneg]
  simp only [Az.o,Az.K,c1,c2,hgq,Fy,dtrue es,KK,NH,Gn,←hs,M5,cond_true,o0,o1,o2,o3,o4,p0,p1,p2,p3,p4]
  by_cases e:sg_ q=1
  ·rw [e]; exact congrArg some (h1 e)
  ·rw [E9 e]; rfl
 ·have es:¬sgn q.d<0:=by unfold sgn; rw [if_neg hneg]; split<;>decide
  have hs:sg_ q=q.g:=by unfold sg_; rw [if_neg hneg]
  simp only [Az.o,Az.K,c1,c2,hgq,Fy,dfalse es,KK,NH,←hs,M5,cond_true,cond_false,o0,o1,o2,o3,o4,p0,p1,p2,p3,p4]
  by_cases e:sg_ q=1
  ·rw [e]; exact congrArg some (h1 e)
  ·rw [E9 e]; rfl
theorem Az.ps {k:Nat} {q:Q} (h:q.Bd k) (hk:k≤LIM) (hd:q.d≠0):
 Az.pre (dI q.c0).1 (dI q.c0).2 (dI q.c1).1 (dI q.c1).2 (dI q.c2).1 (dI q.c2).2 (dI q.c3).1 (dI q.c3).2 (dI q.d).1 (dI q.d).2=true:=Ew (Az.os h hk hd)
theorem Az.es {k:Nat} {q:Q} (h:q.Bd k) (hk:k≤LIM) (hd:q.d≠0):
 Az (dI q.c0).1 (dI q.c0).2 (dI q.c1).1 (dI q.c1).2 (dI q.c2).1 (dI q.c2).2 (dI q.c3).1 (dI q.c3).2 (dI q.d).1 (dI q.d).2=C5 (low q):=FP (Az.os h hk hd)
end
theorem Az.ok:SOK Tryz.prog 164 (Az.sp Az Az.pre):=by
 refine Dl (E:=⟨[(158,E4.sp E4),(159,Bm.sp Bm Bm.pre),(160,Ct.sp Ct Ct.pre),(193,EA.sp EA),(194,Cl.sp Cl Cl.pre)],[],[]⟩) (L:=[]) ⟨(Aa E4.ok (Aa Bm.ok (Aa Ct.ok (Aa EA.ok (Aa Cl.ok Ac))))),Aq,Aj,Ap⟩ 60 Tryz.func164 (by decide) rfl Bf fun vs bl v bl' h=> ?_
 unfold Az.sp at h
 split at h
 ·rename_i A7 AA AG AF AE AD AI AH AC AB
  simp only [zS,zP] at h
  obtain ⟨hp,rfl,rfl⟩:=h
  have hr:=Az.run E4 Bm Bm.pre Ct Ct.pre EA Cl Cl.pre A7 AA AG AF AE AD AI AH AC AB
  rw [Az.nat] at hr
  obtain ⟨r,h2⟩:=Option.isSome_iff_exists.1 (hp:(Az.o A7 AA AG AF AE AD AI AH AC AB).isSome=true)
  have h3:Az A7 AA AG AF AE AD AI AH AC AB=r:=by unfold Az; rw [h2]; rfl
  have h4:Az.K E4 Bm Bm.pre Ct Ct.pre EA Cl Cl.pre A7 AA AG AF AE AD AI AH AC AB some=some r:=h2
  rw [h4,Option.bind_some] at hr
  rw [h3]
  exact ⟨hr,by simp [okV,Nat.blt],clo_spec 8 _ (by kernel_rfl),Bg (by kernel_rfl)⟩
 ·cases h
section
variable {R:Type} (CW:Bool→ByteArray→(Bool)) (C6:Bool→ByteArray→(Int)) (CI:TF5 (Bool×ByteArray)) (CO:TF5 Bool) (C0:Int→(Bool×ByteArray)) (BZ:Int→Bool) (A7:Bool) (AA:ByteArray) (AG:Bool) (AF:ByteArray) (AE:Bool) (AD:ByteArray) (AI:Bool) (AH:ByteArray) (AK:Bool) (AJ:ByteArray)
def Al.K (k:(Bool)→Option R):Option R:=
 let t0:=CW A7 AA
 bif !t0 then k (false) else
 let t1:=CW AG AF
 bif !t1 then k (false) else
 let t2:=CW AE AD
 bif !t2 then k (false) else
 let t3:=CW AI AH
 bif !t3 then k (false) else
 let t4:=CW AK AJ
 bif t4 then
 let t5:=C6 AK AJ
 bif decide (t5>0) then
 let t6:=CO A7 AA AG AF AE AD AI AH AK AJ
 bif t6 then
 let t7:=BZ 1
 bif t7 then
 let t8:=CI A7 AA AG AF AE AD AI AH AK AJ
 let t9:=C0 1
 k (t8.1==t9.1&&t8.2.toList==t9.2.toList) else none else none else k (false) else k (false)
theorem Al.run:xfn Tryz.prog ⟨[(157,EZ.sp CW),(158,E4.sp C6),(159,Bm.sp CI CO),(160,Ct.sp C0 BZ)],[],[]⟩ [] 60 Tryz.f109 [.agg ⟨[.bool A7,.string AA,.bool AG,.string AF,.bool AE,.string AD,.bool AI,.string AH,.bool AK,.string AJ]⟩] []=Al.K CW C6 CI CO C0 BZ A7 AA AG AF AE AD AI AH AK AJ (fun r=>some (.bool r,[])):=by kernel_rfl
def Al.o:Option (Bool):=Al.K EZ E4 Bm Bm.pre Ct Ct.pre A7 AA AG AF AE AD AI AH AK AJ some
def Al.pre:Bool:=(Al.o A7 AA AG AF AE AD AI AH AK AJ).isSome
def Al:Bool:=(Al.o A7 AA AG AF AE AD AI AH AK AJ).getD default
theorem Al.nat (k:(Bool)→Option R):Al.K CW C6 CI CO C0 BZ A7 AA AG AF AE AD AI AH AK AJ k=(Al.K CW C6 CI CO C0 BZ A7 AA AG AF AE AD AI AH AK AJ some).bind k:=by
 simp only [Al.K,bcond,Option.bind_some,Option.bind_none]
theorem Al.os {k:Nat} {q:Q} (h:q.Bd k) (hk:k≤LIM):
  Al.o (dI q.c0).1 (dI q.c0).2 (dI q.c1).1 (dI q.c1).2 (dI q.c2).1 (dI q.c2).2 (dI q.c3).1 (dI q.c3).2 (dI q.d).1 (dI q.d).2=some q.ok:=by
 have c1:=Bm.ps h.c0 h.c1 h.c2 h.c3 h.d hk
 have c2:=Bm.es h.c0 h.c1 h.c2 h.c3 h.d hk
 have hgq:gg q.c0 q.c1 q.c2 q.c3 q.d=q.g:=rfl
 simp only [Al.o,Al.K,KA,Fy,c1,c2,hgq,KK,NH,M5,cond_true,cond_false,zN]
 by_cases hp:0<q.d
 ·have:sgn q.d>0:=by unfold sgn; rw [if_neg (by omega),if_neg (by omega)]; decide
  simp [dtrue this,Q.ok,hp]
 ·have:¬sgn q.d>0:=by unfold sgn; split; decide; rw [if_pos (by omega)]; decide
  simp [dfalse this,Q.ok,hp]
theorem Al.ps {k:Nat} {q:Q} (h:q.Bd k) (hk:k≤LIM):
 Al.pre (dI q.c0).1 (dI q.c0).2 (dI q.c1).1 (dI q.c1).2 (dI q.c2).1 (dI q.c2).2 (dI q.c3).1 (dI q.c3).2 (dI q.d).1 (dI q.d).2=true:=Ew (Al.os h hk)
theorem Al.es {k:Nat} {q:Q} (h:q.Bd k) (hk:k≤LIM):
 Al (dI q.c0).1 (dI q.c0).2 (dI q.c1).1 (dI q.c1).2 (dI q.c2).1 (dI q.c2).2 (dI q.c3).1 (dI q.c3).2 (dI q.d).1 (dI q.d).2=q.ok:=FP (Al.os h hk)
end
theorem Al.ok:SOK Tryz.prog 109 (Al.sp Al Al.pre):=by
 refine Dl (E:=⟨[(157,EZ.sp EZ),(158,E4.sp E4),(159,Bm.sp Bm Bm.pre),(160,Ct.sp Ct Ct.pre)],[],[]⟩) (L:=[]) ⟨(Aa EZ.ok (Aa E4.ok (Aa Bm.ok (Aa Ct.ok Ac)))),Aq,Aj,Ap⟩ 60 Tryz.func109 (by decide) rfl Bf fun vs bl v bl' h=> ?_
 unfold Al.sp at h
 split at h
 ·rename_i A7 AA AG AF AE AD AI AH AK AJ
  simp only [zS,zP] at h
  obtain ⟨hp,rfl,rfl⟩:=h
  have hr:=Al.run EZ E4 Bm Bm.pre Ct Ct.pre A7 AA AG AF AE AD AI AH AK AJ
  rw [Al.nat] at hr
  obtain ⟨r,h2⟩:=Option.isSome_iff_exists.1 (hp:(Al.o A7 AA AG AF AE AD AI AH AK AJ).isSome=true)
  have h3:Al A7 AA AG AF AE AD AI AH AK AJ=r:=by unfold Al; rw [h2]; rfl
  have h4:Al.K EZ E4 Bm Bm.pre Ct Ct.pre A7 AA AG AF AE AD AI AH AK AJ some=some r:=h2
  rw [h4,Option.bind_some] at hr
  rw [h3]
  exact ⟨hr,by simp [okV,Nat.blt],clo_spec 8 _ (by kernel_rfl),Bg (by kernel_rfl)⟩
 ·cases h
section
variable {R:Type} (C0:Int→(Bool×ByteArray)) (BZ:Int→Bool) (a0:Int)
def Cd.K (k:TY5→Option R):Option R:=
 let t0:=BZ a0
 bif t0 then
 let t1:=BZ 1
 bif t1 then
 let t2:=C0 a0
 let t3:=C0 1
 k (t2.1,t2.2,false,{data:= #[]},false,{data:= #[]},false,{data:= #[]},t3.1,t3.2) else none else none
theorem Cd.run:xfn Tryz.prog ⟨[(160,Ct.sp C0 BZ)],[],[]⟩ [] 60 Tryz.f114 [.int .i64 a0] []=Cd.K C0 BZ a0 (fun r=>some (.agg ⟨[.bool r.1,.string r.2.1,.bool r.2.2.1,.string r.2.2.2.1,.bool r.2.2.2.2.1,.string r.2.2.2.2.2.1,.bool r.2.2.2.2.2.2.1,.string r.2.2.2.2.2.2.2.1,.bool r.2.2.2.2.2.2.2.2.1,.string r.2.2.2.2.2.2.2.2.2]⟩,[])):=by kernel_rfl
def Cd.o (a0:Int):Option (TY5):=Cd.K Ct Ct.pre a0 some
def Cd.pre (a0:Int):Bool:=(Cd.o a0).isSome
def Cd (a0:Int):TY5:=(Cd.o a0).getD default
theorem Cd.nat (k:TY5→Option R):Cd.K C0 BZ a0 k=(Cd.K C0 BZ a0 some).bind k:=by
 simp only [Cd.K,bcond,Option.bind_some,Option.bind_none]
theorem Cd.os {n:Int} (h: -9223372036854775808≤n) (h':n≤9223372036854775807):Cd.o n=some (C5 ⟨n,0,0,0,1⟩):=by
 simp only [Cd.o,Cd.K,of_pre h h',KK,NH,cond_true,C5,Me]
theorem Cd.ps {n:Int} (h: -9223372036854775808≤n) (h':n≤9223372036854775807):Cd.pre n=true:=Ew (Cd.os h h')
theorem Cd.es {n:Int} (h: -9223372036854775808≤n) (h':n≤9223372036854775807):Cd n=C5 ⟨n,0,0,0,1⟩:=FP (Cd.os h h')
end
theorem Cd.ok:SOK Tryz.prog 114 (Cd.sp Cd Cd.pre):=by
 refine Dl (E:=⟨[(160,Ct.sp Ct Ct.pre)],[],[]⟩) (L:=[]) ⟨(Aa Ct.ok Ac),Aq,Aj,Ap⟩ 60 Tryz.func114 (by decide) rfl Bf fun vs bl v bl' h=> ?_
 unfold Cd.sp at h
 split at h
 ·rename_i a0
  simp only [zS,zP] at h
  obtain ⟨hp,rfl,rfl⟩:=h
  have hr:=Cd.run Ct Ct.pre a0
  rw [Cd.nat] at hr
  obtain ⟨r,h2⟩:=Option.isSome_iff_exists.1 (hp:(Cd.o a0).isSome=true)
  have h3:Cd a0=r:=by unfold Cd; rw [h2]; rfl
  have h4:Cd.K Ct Ct.pre a0 some=some r:=h2
  rw [h4,Option.bind_some] at hr
  rw [h3]
  exact ⟨hr,by simp [okV,Nat.blt],clo_spec 8 _ (by kernel_rfl),Bg (by kernel_rfl)⟩
 ·cases h
end Go.Proofs.YtpejalpgficopaaGreatDoor.G
end
