/- A part of what the law's proof leans on. PACKED BY pack.py of this repo. -/
import Derived.Test.YtdadecjefafflaaL2
set_option linter.unusedVariables false
set_option linter.unusedSimpArgs false
set_option linter.defProp false
set_option linter.unusedSectionVars false
section
namespace Go.Proofs.Ytdadecjefafflaa.PLst
set_option maxRecDepth 100000
open Go.RowKit Go.Proofs.YtdadecjefafflaaW.PrintWords Go.Proofs.YtdadecjefafflaaW.PrintLast Go.Proofs.YtdadecjefafflaaW.PrintMore
attribute [local go_sem] Bd Bb Bm Bk BU BT Bc Ba
def Cd (pl:List Bool) (a:Int):Option Bool:=if 0≤a then (if a<(pl.length:Int) then some (!rdOf false pl a) else none) else none
theorem li_not (A1:Option Addr) (c1:Nat) (pl:List Bool) (a:Int) (b:Bool) (g:Nat) (w:World) (hr:Kd.C Kd.bool w A1 pl.length pl) (h:Cd pl a=some b) (hb:w.heap[g]? =some (.cells #[.slice A1 pl.length c1] 67 (0,0))):
  Calls Try.prog 52 #[.int .i64 a,.pointer (some ⟨g,0,none⟩)] w fun e w'=>e= .returned (.bool b)∧Below w.heap.size w w':=by
 unfold Cd at h
 by_cases c0:0≤a
 ·rw [if_pos c0] at h
  by_cases c4:a<(pl.length:Int)
  ·rw [if_pos c4] at h
   cases h
   have hy:w.cell? ⟨g,0,none⟩=some (.slice A1 pl.length c1):=(AK hb 0).trans rfl
   obtain ⟨ad,e1,hx0⟩:=Kd.at_bool hr a c0 c4
   cases e1
   have c0b:=eq_true c0
   have c4b:=eq_true c4
   clear hr hb c0 c4
   go_enter Try.func52,Try.ntmps52
   go_wp2
   all_goals (go_ret; exact ⟨by first|rfl|(simp; done)|(simp [*]; done),by repeat (first|exact Below.refl _ _|apply AC|apply AD)⟩)
  ·rw [if_neg c4] at h; cases h
 ·rw [if_neg c0] at h; cases h
def ready (pl:List Bool) (ts:List S64) (i:Int):Option Bool:=(Cd pl i).bind fun b=>if b=true then (if i<(ts.length:Int) then (anyO (Cd pl) (AM ts i).f3).map (fun b=> !b) else none) else some false
open Go.Shelf in
theorem Gs (A1:Option Addr) (c1:Nat) (pl:List Bool) (m:Int) (A2:Option Addr) (c2:Nat) (ts:List S64) (i:Int) (b:Bool) (g1 g2:Nat) (w:World) (hr:Kd.C Kd.bool w A1 pl.length pl) (hr2:Kd.C k64 w A2 ts.length ts) (h:ready pl ts i=some b)
  (hb1:w.heap[g1]? =some (.cells #[.slice A1 pl.length c1] 67 (0,0))) (hb2:w.heap[g2]? =some (.cells #[.int .i64 m,.slice A2 ts.length c2] 34 (0,0))):
  Calls Try.prog 51 #[.int .i64 i,.pointer (some ⟨g1,0,none⟩),.pointer (some ⟨g2,0,none⟩)] w fun e w'=>e= .returned (.bool b)∧Below w.heap.size w w':=by
 unfold ready at h
 rw [Option.bind_eq_some_iff] at h
 obtain ⟨b1,h1,h⟩:=h
 have h1':=h1
 unfold Cd at h1
 by_cases c0:0≤i
 ·rw [if_pos c0] at h1
  by_cases c4:i<(pl.length:Int)
  ·rw [if_pos c4] at h1
   cases h1
   have hy:w.cell? ⟨g1,0,none⟩=some (.slice A1 pl.length c1):=(AK hb1 0).trans rfl
   obtain ⟨ad,e1,hx0⟩:=Kd.at_bool hr i c0 c4
   cases e1
   have c0b:=eq_true c0
   have c4b:=eq_true c4
   have HR:=yA hr
   have HB1:=yA hb1
   cases hv:rdOf false pl i with
   | true=>
    rw [hv] at h hx0
    obtain rfl:b=false:=by simpa using h.symm
    clear hr hr2 hb1 hb2 h1' h hv c0 c4
    go_enter Try.func51,Try.ntmps51
    go_wp2
    all_goals (go_ret; exact ⟨by first|rfl|(simp; done)|(simp [*]; done),by repeat (first|exact Below.refl _ _|apply AC|apply AD)⟩)
   | false=>
    rw [hv] at h hx0
    simp only [Bool.not_false,if_true] at h
    by_cases c5:i<(ts.length:Int)
    ·rw [if_pos c5,Option.map_eq_some_iff] at h
     obtain ⟨b2,h2,rfl⟩:=h
     have hy2:w.cell? ⟨g2,1,none⟩=some (.slice A2 ts.length c2):=(AK hb2 1).trans rfl
     obtain ⟨ad2,A3,c3,e2,hx20,hx21,hx22,hx23,hl3,hi3⟩:=C6 hr2 i c0 c5
     cases e2
     have c5b:=eq_true c5
     have hp:PredI w 52 #[.pointer (some ⟨g1,0,none⟩)] (Cd pl):=fun W x b hW hx=>by
      show Calls Try.prog 52 #[.int .i64 x,.pointer (some ⟨g1,0,none⟩)] W _
      exact (li_not (some ad) c1 pl x b g1 W (Kd.C_below hr hW) hx (AP hb1 hW)).mono fun e w' h=>⟨h.1,C5 hW hW.size h.2⟩
     have hq:=fun W (hW:Below w.heap.size w W)=>ctf_I w 52 _ _ (enters_of Try.func52 zI rfl) hp A3 c3 (AM ts i).f3 hi3 b2 h2 W hW
     clear hr hr2 hb1 hb2 h1' h2 hp hv c0 c4 c5 hl3 hi3 hx20 hx21 hx22
     go_enter Try.func51,Try.ntmps51
     go_wp2_with (first|(go_at_call 45; (with_reducible refine (hq _ (by repeat (first|exact Below.refl _ _|apply AC|apply AD))).mono ?_); rintro e w' ⟨rfl,hb⟩))
     all_goals (go_ret; exact ⟨by first|rfl|(simp; done)|(simp [*]; done),hb⟩)
    ·rw [if_neg c5] at h; cases h
  ·rw [if_neg c4] at h1; cases h1
 ·rw [if_neg c0] at h1; cases h1
def CF.f (l0:List Int) (l1:List Bool) (AB:Int) (l2_1:List S64):Option Int:=ixO (ready l1 l2_1) l0 0
open Go.Shelf in
theorem CF.calls (A0:Option Addr) (c0:Nat) (l0:List Int) (A1:Option Addr) (c1:Nat) (l1:List Bool) (AB:Int) (A2_1:Option Addr) (c2_1:Nat) (l2_1:List S64) (r:Int) (w:World) (hr0:Kd.C (Kd.int .i64) w A0 l0.length l0) (hc0:l0.length≤c0) (hr1:Kd.C Kd.bool w A1 l1.length l1) (hc1:l1.length≤c1) (hr2_1:Kd.C k64 w A2_1 l2_1.length l2_1) (hc2_1:l2_1.length≤c2_1) (h:CF.f l0 l1 AB l2_1=some r) {g1 g2:Nat}
  (hb1:w.heap[g1]? =some (.cells #[.slice A1 l1.length c1] 67 (0,0))) (hb2:w.heap[g2]? =some (.cells #[.int .i64 AB,.slice A2_1 l2_1.length c2_1] 34 (0,0))):
  Calls Try.prog 50 #[.slice A0 l0.length c0,.func (.func 51) #[] #[.pointer (some ⟨g1,0,none⟩),.pointer (some ⟨g2,0,none⟩)]] w fun e w'=>e= .returned (.int .i64 r)∧Below w.heap.size w w':=by
 have hp:PredI w 51 #[.pointer (some ⟨g1,0,none⟩),.pointer (some ⟨g2,0,none⟩)] (ready l1 l2_1):=fun W x b hW hx=>by
  show Calls Try.prog 51 #[.int .i64 x,.pointer (some ⟨g1,0,none⟩),.pointer (some ⟨g2,0,none⟩)] W _
  exact (Gs A1 c1 l1 AB A2_1 c2_1 l2_1 x b g1 g2 W (Kd.C_below hr1 hW) (Kd.C_below hr2_1 hW) hx (AP hb1 hW) (AP hb2 hW)).mono fun e w' h=>⟨h.1,C5 hW hW.size h.2⟩
 exact ixf_I w 51 _ _ (enters_of Try.func51 zI rfl) hp A0 c0 l0 hr0 r h w (Below.refl _ _)
mutual
def Ac.l0:Nat→List Int→List (S47)→List Int→Int→Int→List Bool→Int→List (S64)→Option ((List (S47)))
 |0,_,_,_,_,_,_,_,_=>none
 |k+1,x1,x5,x7,x23,x24,x76,x160000,x160001=>if x24<x23 then ((CF.f x1 x76 x160000 x160001).bind fun t170=>(if 0≤t170 then (if t170<(x1.length:Int) then ((BN.f x7).bind fun t172=>((Ak.f k x7 t172).bind fun t173=>(if 0≤t173 then (if t173<(x7.length:Int) then (if 0≤(rd x1 t170) then (if (rd x1 t170)<(x160001.length:Int) then (Ac.l1 k x1 x5 x7 (rd x1 t170) t173 (rd x7 t173) x23 x24 ((AM x160001 (rd x1 t170)).f3) (((AM x160001 (rd x1 t170)).f3).length:Int) 0 x76 x160000 x160001) else (none)) else (none)) else (none)) else (none)))) else (none)) else (none))) else (some x5)
def Ac.l1:Nat→List Int→List (S47)→List Int→Int→Int→Int→Int→Int→List Int→Int→Int→List Bool→Int→List (S64)→Option ((List (S47)))
 |0,_,_,_,_,_,_,_,_,_,_,_,_,_,_=>none
 |k+1,x1,x5,x7,x8,x9,x10,x23,x24,x45,x46,x47,x76,x160000,x160001=>if x47<x46 then (if 0≤x47 then (if x47<(x45.length:Int) then ((BB.f x160000 x160001 x5 (rd x45 x47)).bind fun t177=>(Ac.l1 k x1 x5 x7 x8 x9 (mx x10 t177) x23 x24 x45 x46 (wrap64 (x47+1)) x76 x160000 x160001)) else (none)) else (none)) else (if 0≤x8 then (if x8<(x5.length:Int) then ((some (x5.set (x8:Int).toNat (⟨x9,x10⟩:S47):List (S47))).bind fun y178=>(if x8<(x76.length:Int) then ((BB.f x160000 x160001 y178 x8).bind fun t180=>(if 0≤x9 then (if x9<(x7.length:Int) then (Ac.l0 k x1 y178 (x7.set (x9:Int).toNat t180) x23 (wrap64 (x24+1)) (x76.set (x8:Int).toNat true) x160000 x160001) else (none)) else (none))) else (none))) else (none)) else (none))
end
def Ac.f (k:Nat) (A8:Int) (l0_1:List (S64)) (l1:List Int):Option ((List (S47))):=if 0≤(l1.length:Int) then (if ((l1.length:Int):Int).toNat≤17592186044416 then (if ((l1.length:Int):Int).toNat≤281474976710656 then (if 0≤A8 then (if (A8:Int).toNat≤35184372088832 then (Ac.l0 k l1 (List.replicate ((l1.length:Int):Int).toNat z47) (List.replicate (A8:Int).toNat 0) (l1.length:Int) 0 (List.replicate ((l1.length:Int):Int).toNat false) A8 l0_1) else (none)) else (none)) else (none)) else (none)) else (none)
theorem Ac.mono_l:∀k,(∀y0 y1 y2 y3 y4 y5 y6 y7,LeO (Ac.l0 k y0 y1 y2 y3 y4 y5 y6 y7) (Ac.l0 (k+1) y0 y1 y2 y3 y4 y5 y6 y7))∧(∀y0 y1 y2 y3 y4 y5 y6 y7 y8 y9 y10 y11 y12 y13,LeO (Ac.l1 k y0 y1 y2 y3 y4 y5 y6 y7 y8 y9 y10 y11 y12 y13) (Ac.l1 (k+1) y0 y1 y2 y3 y4 y5 y6 y7 y8 y9 y10 y11 y12 y13))
 |0=>⟨fun _ _ _ _ _ _ _ _ r h=>by simp [Ac.l0] at h,fun _ _ _ _ _ _ _ _ _ _ _ _ _ _ r h=>by simp [Ac.l1] at h⟩
 | k +1=>by
  obtain ⟨ih0,ih1⟩:=Ac.mono_l k
  refine ⟨?_,?_⟩
  ·intro y0 y1 y2 y3 y4 y5 y6 y7
   unfold Ac.l0
   repeat' first
   |(with_reducible exact ih0 _ _ _ _ _ _ _ _)
   |(with_reducible exact ih1 _ _ _ _ _ _ _ _ _ _ _ _ _ _)
   |(with_reducible exact Ak.mono _ _ _)
   |(with_reducible exact LeO.refl _)
   |(with_reducible exact LeO.none _)
   |(with_reducible refine LeO.ite ?_ ?_)
   |(with_reducible refine LeO.bind ?_ (fun _=> ?_))
   |exact ih0 _ _ _ _ _ _ _ _
   |exact ih1 _ _ _ _ _ _ _ _ _ _ _ _ _ _
   |exact Ak.mono _ _ _
   |exact LeO.none _
   |refine LeO.ite ?_ ?_
   |refine LeO.bind ?_ (fun _=> ?_)
  ·intro y0 y1 y2 y3 y4 y5 y6 y7 y8 y9 y10 y11 y12 y13
   unfold Ac.l1
   repeat' first
   |(with_reducible exact ih0 _ _ _ _ _ _ _ _)
   |(with_reducible exact ih1 _ _ _ _ _ _ _ _ _ _ _ _ _ _)
   |(with_reducible exact Ak.mono _ _ _)
   |(with_reducible exact LeO.refl _)
   |(with_reducible exact LeO.none _)
   |(with_reducible refine LeO.ite ?_ ?_)
   |(with_reducible refine LeO.bind ?_ (fun _=> ?_))
   |exact ih0 _ _ _ _ _ _ _ _
   |exact ih1 _ _ _ _ _ _ _ _ _ _ _ _ _ _
   |exact Ak.mono _ _ _
   |exact LeO.none _
   |refine LeO.ite ?_ ?_
   |refine LeO.bind ?_ (fun _=> ?_)
theorem Ac.mono:∀a0 a1 a2 k,LeO (Ac.f k a0 a1 a2) (Ac.f (k+1) a0 a1 a2):=by
 intro a0 a1 a2 k
 obtain ⟨ih0,ih1⟩:=Ac.mono_l k
 unfold Ac.f
 repeat' first
  |(with_reducible exact ih0 _ _ _ _ _ _ _ _)
  |(with_reducible exact ih1 _ _ _ _ _ _ _ _ _ _ _ _ _ _)
  |(with_reducible exact Ak.mono _ _ _)
  |(with_reducible exact LeO.refl _)
  |(with_reducible exact LeO.none _)
  |(with_reducible refine LeO.ite ?_ ?_)
  |(with_reducible refine LeO.bind ?_ (fun _=> ?_))
  |exact ih0 _ _ _ _ _ _ _ _
  |exact ih1 _ _ _ _ _ _ _ _ _ _ _ _ _ _
  |exact Ak.mono _ _ _
  |exact LeO.none _
  |refine LeO.ite ?_ ?_
  |refine LeO.bind ?_ (fun _=> ?_)
def Ac.T14:Bool×List (List Nat×List Nat):=(true,[([],[]),([],[]),([],[]),([],[]),([],[]),([],[]),([4,5],[4,5]),([0,1,0,1,4,5,6],[0,1]),([7,6,0,1,4,5,6],[6,7]),([2,3,0,1,2,3,4,5,6,7,8],[2,3]),([9,8,0,1,2,3,4,5,6,7,8],[9])])
def Ac.B14:List Nat:=[0,0,0,0,0,0,48,115,243,511,1023]
theorem Ac.tab14:rtab .any (Cx Try.f31 14)=Ac.T14:=by kernel_rfl
theorem Ac.bits14:C2 Ac.T14.2 Ac.B14=true:=by kernel_rfl
set_option maxHeartbeats 8000000 in
theorem Ac.calls (k : Nat) (A8 : Int) (A0_1:Option Addr) (c0_1:Nat) (l0_1:List (S64)) (A1:Option Addr) (c1:Nat) (l1:List Int) (r:List (S47)) (w:World) (hr0_1:Kd.C k64 w A0_1 l0_1.length l0_1) (hc0_1:l0_1.length≤c0_1) (hr1:Kd.C (Kd.int .i64) w A1 l1.length l1) (hc1:l1.length≤c1) (h:Ac.f k A8 l0_1 l1=some r):
  Calls Try.prog 31 #[.agg #[.int .i64 A8,.slice A0_1 l0_1.length c0_1],.slice A1 l1.length c1] w fun e w'=>∃v0_:Value,e= .returned (v0_)∧Kd.R k47 47 w' w.heap.size (fun _=>True) v0_ r∧Below w.heap.size w w':=by
 have hu34:=Try.underlying34
 have hu47:=Try.underlying47
 have HR0_1:=yA hr0_1
 have HC0_1:=yA hc0_1
 clear hr0_1 hc0_1
 have HR1:=yA hr1
 have HC1:=yA hc1
 clear hr1 hc1
 have HB:=yA (Below.refl w.heap.size w)
 have H:(if 0≤(l1.length:Int) then (if ((l1.length:Int):Int).toNat≤17592186044416 then (if ((l1.length:Int):Int).toNat≤281474976710656 then (if 0≤A8 then (if (A8:Int).toNat≤35184372088832 then (Ac.l0 k l1 (List.replicate ((l1.length:Int):Int).toNat z47) (List.replicate (A8:Int).toNat 0) (l1.length:Int) 0 (List.replicate ((l1.length:Int):Int).toNat false) A8 l0_1) else (none)) else (none)) else (none)) else (none)) else (none))=some r:=h
 clear h
 by_cases c3:0≤(l1.length:Int)
 ·rw [if_pos c3] at H
  have c3b0:=eq_true c3
  have c3b1:decide (0≤(l1.length:Int))=true:=decide_eq_true c3
  clear c3
  by_cases c4:((l1.length:Int):Int).toNat≤17592186044416
  ·rw [if_pos c4] at H
   have c4b0:=eq_true c4
   have c4b1:decide (((l1.length:Int):Int).toNat≤17592186044416)=true:=decide_eq_true c4
   clear c4
   obtain ⟨y160,hy160⟩:∃y_:List (S47),y_=(List.replicate ((l1.length:Int):Int).toNat z47):=⟨_,rfl⟩
   replace H:(if ((l1.length:Int):Int).toNat≤281474976710656 then (if 0≤A8 then (if (A8:Int).toNat≤35184372088832 then (Ac.l0 k l1 y160 (List.replicate (A8:Int).toNat 0) (l1.length:Int) 0 (List.replicate ((l1.length:Int):Int).toNat false) A8 l0_1) else (none)) else (none)) else (none))=some r:=by first|(rw [hy160]; with_reducible exact H)|(have H2_:=(Option.bind_some _ _).symm.trans H; rw [hy160]; with_reducible exact H2_)|(have H2_:=(Option.bind_some _ _).symm.trans H; with_reducible exact H2_)|with_reducible exact H|(rw [hy160]; exact H)|exact H
   have Ny160:=yA hy160
   clear hy160
   by_cases c5:((l1.length:Int):Int).toNat≤281474976710656
   ·rw [if_pos c5] at H
    have c5b0:=eq_true c5
    have c5b1:decide (((l1.length:Int):Int).toNat≤281474976710656)=true:=decide_eq_true c5
    clear c5
    obtain ⟨y163,hy163⟩:∃y_:List Bool,y_=(List.replicate ((l1.length:Int):Int).toNat false):=⟨_,rfl⟩
    replace H:(if 0≤A8 then (if (A8:Int).toNat≤35184372088832 then (Ac.l0 k l1 y160 (List.replicate (A8:Int).toNat 0) (l1.length:Int) 0 y163 A8 l0_1) else (none)) else (none))=some r:=by first|(rw [hy163]; with_reducible exact H)|(have H2_:=(Option.bind_some _ _).symm.trans H; rw [hy163]; with_reducible exact H2_)|(have H2_:=(Option.bind_some _ _).symm.trans H; with_reducible exact H2_)|with_reducible exact H|(rw [hy163]; exact H)|exact H
    have Ny163:=yA hy163
    clear hy163
    by_cases c6:0≤A8
    ·rw [if_pos c6] at H
     have c6b0:=eq_true c6
     have c6b1:decide (0≤A8)=true:=decide_eq_true c6
     clear c6
     by_cases c7:(A8:Int).toNat≤35184372088832
     ·rw [if_pos c7] at H
      have c7b0:=eq_true c7
      have c7b1:decide ((A8:Int).toNat≤35184372088832)=true:=decide_eq_true c7
      clear c7
      obtain ⟨y167,hy167⟩:∃y_:List Int,y_=(List.replicate (A8:Int).toNat 0):=⟨_,rfl⟩
      replace H:(Ac.l0 k l1 y160 y167 (l1.length:Int) 0 y163 A8 l0_1)=some r:=by first|(rw [hy167]; with_reducible exact H)|(have H2_:=(Option.bind_some _ _).symm.trans H; rw [hy167]; with_reducible exact H2_)|(have H2_:=(Option.bind_some _ _).symm.trans H; with_reducible exact H2_)|with_reducible exact H|(rw [hy167]; exact H)|exact H
      have Ny167:=yA hy167
      clear hy167
      have H':=yA H
      clear H
      go_enter Try.func31,Try.ntmps31
      go_wp2_with (first|((with_reducible refine Aq (N:=2) rfl ?_); refine Av ?hg (N:=2) ?hd (cs:= #[.int .i64 A8,.slice A0_1 l0_1.length c0_1]) (t:=34) ?hr ?_; (case hd=>rfl); (case hg=>rfl); (case hr=>first|(go_simp; done)|(go_simp; rfl)); intro gb159 hg w8 hbox hb; have n0_:=yA (AO zB hb); have n1_:=yA (hbox); have n2_:=yA ((by rw [hg]; exact (AQ zB):w.heap.size≤gb159)); have n3_:=yA ((by rw [hg]; exact (AQ zB):w.heap.size≤gb159)); clear HB; have HB:=n0_; have BK159:=n1_; have GW159:=n2_; have GE159:=n3_; clear n0_ n1_ n2_ n3_; clear hb hbox hg)|((with_reducible refine Aq (N:=15) rfl ?_); refine Kd.R_make k47 _ 47 rfl (N:=15) rfl 37 _ _ rfl (l1.length:Int) rfl rfl Try.underlying37 (.agg #[(.int .i64 0),(.int .i64 0)]) 16 info47 rfl zA0 zE z47 (ok:=fun _=>True) (okp:=fun _=>True) (Fw _ _ _ z47) (fun _ hk=>hk) trivial (yD) (Nat.le_trans (Nat.mul_le_mul_right _ (yD:(l1.length:Int).toNat≤17592186044416)) zE) (Below.refl _ _) (Nat.le_refl _) ?_; intro v161 w9 ho10 hb hg_ hnew_; clear hg_ hnew_; (first|rw [←Ny160.out] at ho10|(simp only [Int.reduceToNat] at ho10; rw [←Ny160.out] at ho10)); have n0_:=yA (Kd.R_lower ho10 (AQ zC1)); have n1_:=yA (AP (g:=gb159) (o:= .cells #[.int .i64 A8,.slice A0_1 l0_1.length c0_1] 34 (0,0)) zA7 hb); have n2_:=yA (AO zC1 hb); clear BK159; clear HB; have HO162:=n0_; have BK159:=n1_; have HB:=n2_; clear n0_ n1_ n2_; clear hb ho10)|((with_reducible refine Aq (N:=18) rfl ?_); refine Kd.R_make Kd.bool _ 4 rfl (N:=18) rfl 67 _ _ rfl (l1.length:Int) rfl rfl Try.underlying67 (.bool false) 1 info4 rfl zA0 zE false (ok:=fun _=>True) (okp:=fun _=>True) rfl (fun _ hk=>hk) trivial (yD) (Nat.le_trans (Nat.mul_le_mul_right _ (yD:(l1.length:Int).toNat≤281474976710656)) zE) (Below.refl _ _) (Nat.le_refl _) ?_; intro v164 w11 ho12 hb hg_ hnew_; clear hg_ hnew_; (first|rw [←Ny163.out] at ho12|(simp only [Int.reduceToNat] at ho12; rw [←Ny163.out] at ho12)); have n0_:=yA (Kd.R_below (by (with_reducible repeat (first|apply Kd.R_alloc|apply Kd.R_drewN|apply Kd.R_drew)); exact HO162.out) hb); have n1_:=yA (Kd.R_lower ho12 (AQ zC1)); have n2_:=yA (AP (g:=gb159) (o:= .cells #[.int .i64 A8,.slice A0_1 l0_1.length c0_1] 34 (0,0)) zA7 hb); have n3_:=yA (AO zC1 hb); clear HO162; clear BK159; clear HB; have HO162:=n0_; have HO165:=n1_; have BK159:=n2_; have HB:=n3_; clear n0_ n1_ n2_ n3_; clear hb ho12)|((with_reducible refine Aq (N:=6) rfl ?_); refine Av ?hg (N:=6) ?hd (cs:= #[.slice none 0 0]) (t:=67) ?hr ?_; (case hd=>rfl); (case hg=>rfl); (case hr=>first|(go_simp; done)|(go_simp; rfl)); intro gb166 hg w13 hbox hb; have n0_:=yA (Kd.R_below (by (with_reducible repeat (first|apply Kd.R_alloc|apply Kd.R_drewN|apply Kd.R_drew)); exact HO162.out) hb); have n1_:=yA (Kd.R_below (by (with_reducible repeat (first|apply Kd.R_alloc|apply Kd.R_drewN|apply Kd.R_drew)); exact HO165.out) hb); have n2_:=yA (AP (g:=gb159) (o:= .cells #[.int .i64 A8,.slice A0_1 l0_1.length c0_1] 34 (0,0)) zA7 hb); have n3_:=yA (AO zC1 hb); have n4_:=yA (hbox); have n5_:=yA ((by rw [hg]; exact (AQ zC1):w.heap.size≤gb166)); have n6_:=yA ((by rw [hg]; exact (AQ zC1):w.heap.size≤gb166)); have n7_:=yA ((by rw [hg]; exact Nat.ne_of_lt (B8 (g:=gb159) (o:= .cells #[.int .i64 A8,.slice A0_1 l0_1.length c0_1] 34 (0,0)) zA7):gb159≠gb166)); have n8_:=yA ((by rw [hg]; exact Nat.ne_of_gt (B8 (g:=gb159) (o:= .cells #[.int .i64 A8,.slice A0_1 l0_1.length c0_1] 34 (0,0)) zA7):gb166≠gb159)); clear HO162; clear HO165; clear BK159; clear HB; have HO162:=n0_; have HO165:=n1_; have BK159:=n2_; have HB:=n3_; have BK166:=n4_; have GW166:=n5_; have GE166:=n6_; have NB159_166:=n7_; have NB166_159:=n8_; clear n0_ n1_ n2_ n3_ n4_ n5_ n6_ n7_ n8_; clear hb hbox hg; have hnb14:=NB166_159.out; have hnc14:=NB159_166.out; have hcz15_0:w13.cell? ⟨gb166,0,none⟩=some (.slice none 0 0):=(AK BK166.out 0).trans rfl; have hfz15_0:=AJ BK166.out 0; have hcz16_0:w13.cell? ⟨gb159,0,none⟩=some (.int .i64 A8):=(AK BK159.out 0).trans rfl; have hcz16_1:w13.cell? ⟨gb159,1,none⟩=some (.slice A0_1 l0_1.length c0_1):=(AK BK159.out 1).trans rfl; have hfz16_0:=AJ BK159.out 0; have hfz16_1:=AJ BK159.out 1)|((with_reducible refine BS (t:=67) (p:=6) rfl ?_); refine BP (t:=67) (p:=6) (v:= ?vo_) (w1:=(w13.setCell ⟨gb166,0,none⟩ v164)) ?hg ?ho ?hn ?hr ?_; (case ho=>rfl); (case hg=>rfl); (case hn=>rfl); (case hr=>(obtain ⟨Am_,cm_,em_⟩:=Kd.R_slice HO165.out; subst em_; first|(go_simp; done)|(go_simp; rfl))); intro wz_ hw_; subst hw_)|((with_reducible refine Aq (N:=21) rfl ?_); refine Kd.R_make (Kd.int .i64) _ 3 rfl (N:=21) rfl 26 _ _ rfl A8 rfl rfl Try.underlying26 (.int .i64 0) 8 info3 rfl zA0 zE 0 (ok:=fun _=>True) (okp:=fun _=>True) rfl (fun _ hk=>hk) trivial (yD) (Nat.le_trans (Nat.mul_le_mul_right _ (yD:A8.toNat≤35184372088832)) zE) (Below.refl _ _) (Nat.le_refl _) ?_; intro v168 w17 ho18 hb hg_ hnew_; clear hg_ hnew_; (first|rw [←Ny167.out] at ho18|(simp only [Int.reduceToNat] at ho18; rw [←Ny167.out] at ho18)); have n0_:=yA (Kd.R_below (by (with_reducible repeat (first|apply Kd.R_alloc|apply Kd.R_drewN|apply Kd.R_drew)); exact (Kd.R_mono (Kd.R_far (p:=⟨gb166,0,none⟩) (Kd.R_types HO162.out BK166.out zA0) (fun _ hk=>hk.2) (v164)) (fun _ h_=>h_.1))) hb); have n1_:=yA (Kd.R_below (by (with_reducible repeat (first|apply Kd.R_alloc|apply Kd.R_drewN|apply Kd.R_drew)); exact (Kd.R_mono (Kd.R_far (p:=⟨gb166,0,none⟩) (Kd.R_types HO165.out BK166.out zA0) (fun _ hk=>hk.2) (v164)) (fun _ h_=>h_.1))) hb); have n2_:=yA (Kd.R_lower ho18 (AQ zC6)); have n3_:=yA (AP (g:=gb159) (o:= .cells #[.int .i64 A8,.slice A0_1 l0_1.length c0_1] 34 (0,0)) (by (with_reducible repeat (first|refine AF ?_ _|refine AH ?_|refine AG ?_ _)); refine AV ?_ NB159_166.out _; (with_reducible repeat (first|refine AF ?_ _|refine AH ?_|refine AG ?_ _)); exact BK159.out) hb); have n4_:=yA (AP (g:=gb166) (o:= .cells #[v164] 67 (0,0)) (by (with_reducible repeat (first|refine AF ?_ _|refine AH ?_|refine AG ?_ _)); refine An (cs:= #[.slice none 0 0]) ?_ 0 _ rfl; (with_reducible repeat (first|refine AF ?_ _|refine AH ?_|refine AG ?_ _)); exact BK166.out) hb); have n5_:=yA (AO zC6 hb); clear HO162; clear HO165; clear BK159; clear BK166; clear HB; have HO162:=n0_; have HO165:=n1_; have HO169:=n2_; have BK159:=n3_; have BK166:=n4_; have HB:=n5_; clear n0_ n1_ n2_ n3_ n4_ n5_; clear hb ho18))
      go_loopg [24] k (fun kq v24 w'=>∃(x5_1:List (S47)) (x7_1:List Int) (x24_1:Int) (x76_1:List Bool),v24= .int .i64 x24_1∧Aside0 (Ac.l0 kq l1 x5_1 x7_1 (l1.length:Int) x24_1 x76_1 A8 l0_1=some r)∧Aside0 (kq≤k)∧Aside0 (Kd.R k47 47 w' w.heap.size (fun _=>True) v161 x5_1)∧Aside0 (Kd.R (Kd.int .i64) 3 w' w.heap.size (fun _=>True) v168 x7_1)∧Aside0 (Kd.R Kd.bool 4 w' w.heap.size (fun _=>True) v164 x76_1)∧Aside0 (w'.heap[gb159]? =some (.cells #[.int .i64 A8,(.slice A0_1 l0_1.length c0_1)] 34 (0,0)))∧Aside0 (w'.heap[gb166]? =some (.cells #[v164] 67 (0,0)))∧Aside0 (Below w.heap.size w w'))
      case atStart=>exact ⟨(y160),(y167),(0),(y163),zH,H',⟨Nat.le_refl _⟩,⟨by (with_reducible repeat (first|apply Kd.R_alloc|apply Kd.R_drewN|apply Kd.R_drew)); exact HO162.out⟩,⟨by (with_reducible repeat (first|apply Kd.R_alloc|apply Kd.R_drewN|apply Kd.R_drew)); exact HO169.out⟩,⟨by (with_reducible repeat (first|apply Kd.R_alloc|apply Kd.R_drewN|apply Kd.R_drew)); exact HO165.out⟩,⟨by (with_reducible repeat (first|refine AF ?_ _|refine AH ?_|refine AG ?_ _)); exact BK159.out⟩,⟨by (with_reducible repeat (first|refine AF ?_ _|refine AH ?_|refine AG ?_ _)); exact BK166.out⟩,⟨by repeat (first|(with_reducible first|exact HB.out|apply AE|apply AC|apply AD|refine AI ?_ GE159.out|refine AI ?_ GE166.out)|exact HB.out)⟩⟩
      case round=>
       clear H'
       try clear c1
       try clear p2
       try clear c3
       try clear c3b0
       try clear c3b1
       try clear c4
       try clear c4b0
       try clear c4b1
       try clear c5
       try clear c5b0
       try clear c5b1
       try clear c6
       try clear c6b0
       try clear c6b1
       try clear c7
       try clear c7b0
       try clear c7b1
       try clear c14
       try clear hcz15_0
       try clear hcz16_0
       try clear hcz16_1
       try clear hfz15_0
       try clear hfz16_0
       try clear hfz16_1
       obtain ⟨x5_1,x7_1,x24_1,x76_1,rfl,HA,HK1,HO_5,HO_7,HO_76,BK159,BK166,HB⟩:=hrel
       cases gk with
       |zero=>exact absurd HA.out (by simp [Ac.l0])
       | succ k1 =>
        have H:=HA.out
        clear HA
        simp only [Ac.l0] at H
        by_cases c19:x24_1<(l1.length:Int)
        ·rw [if_pos c19] at H
         have c19b0:decide (x24_1<(l1.length:Int))=true:=decide_eq_true c19
         clear c19
         replace H:=Option.bind_eq_some_iff.mp H
         obtain ⟨t170,A200,H⟩:=H
         replace H:(if 0≤t170 then (if t170<(l1.length:Int) then ((BN.f x7_1).bind fun t172=>((Ak.f k1 x7_1 t172).bind fun t173=>(if 0≤t173 then (if t173<(x7_1.length:Int) then (if 0≤(rd l1 t170) then (if (rd l1 t170)<(l0_1.length:Int) then (Ac.l1 k1 l1 x5_1 x7_1 (rd l1 t170) t173 (rd x7_1 t173) (l1.length:Int) x24_1 ((AM l0_1 (rd l1 t170)).f3) (((AM l0_1 (rd l1 t170)).f3).length:Int) 0 x76_1 A8 l0_1) else (none)) else (none)) else (none)) else (none)))) else (none)) else (none))=some r:=H
         have A20:=yA A200
         clear A200
         by_cases c21:0≤t170
         ·rw [if_pos c21] at H
          have c21b0:decide (0≤t170)=true:=decide_eq_true c21
          clear c21
          by_cases c22:t170<(l1.length:Int)
          ·rw [if_pos c22] at H
           have c22b0:decide (t170<(l1.length:Int))=true:=decide_eq_true c22
           clear c22
           replace H:=Option.bind_eq_some_iff.mp H
           obtain ⟨t172,A230,H⟩:=H
           replace H:((Ak.f k1 x7_1 t172).bind fun t173=>(if 0≤t173 then (if t173<(x7_1.length:Int) then (if 0≤(rd l1 t170) then (if (rd l1 t170)<(l0_1.length:Int) then (Ac.l1 k1 l1 x5_1 x7_1 (rd l1 t170) t173 (rd x7_1 t173) (l1.length:Int) x24_1 ((AM l0_1 (rd l1 t170)).f3) (((AM l0_1 (rd l1 t170)).f3).length:Int) 0 x76_1 A8 l0_1) else (none)) else (none)) else (none)) else (none)))=some r:=H
           have A23:=yA A230
           clear A230
           replace H:=Option.bind_eq_some_iff.mp H
           obtain ⟨t173,A240,H⟩:=H
           replace H:(if 0≤t173 then (if t173<(x7_1.length:Int) then (if 0≤(rd l1 t170) then (if (rd l1 t170)<(l0_1.length:Int) then (Ac.l1 k1 l1 x5_1 x7_1 (rd l1 t170) t173 (rd x7_1 t173) (l1.length:Int) x24_1 ((AM l0_1 (rd l1 t170)).f3) (((AM l0_1 (rd l1 t170)).f3).length:Int) 0 x76_1 A8 l0_1) else (none)) else (none)) else (none)) else (none))=some r:=H
           have A24:=yA A240
           clear A240
           by_cases c25:0≤t173
           ·rw [if_pos c25] at H
            have c25b0:decide (0≤t173)=true:=decide_eq_true c25
            clear c25
            by_cases c26:t173<(x7_1.length:Int)
            ·rw [if_pos c26] at H
             have c26b0:decide (t173<(x7_1.length:Int))=true:=decide_eq_true c26
             clear c26
             by_cases c27:0≤(rd l1 t170)
             ·rw [if_pos c27] at H
              have c27b0:decide (0≤(rd l1 t170))=true:=decide_eq_true c27
              clear c27
              by_cases c28:(rd l1 t170)<(l0_1.length:Int)
              ·rw [if_pos c28] at H
               have c28b0:decide ((rd l1 t170)<(l0_1.length:Int))=true:=decide_eq_true c28
               clear c28
               have H':=yA H
               clear H
               have hnb29:=NB159_166.out
               have hnc29:=NB166_159.out
               have hcz30_0:wr.cell? ⟨gb159,0,none⟩=some (.int .i64 A8):=(AK BK159.out 0).trans rfl
               have hcz30_1:wr.cell? ⟨gb159,1,none⟩=some (.slice A0_1 l0_1.length c0_1):=(AK BK159.out 1).trans rfl
               have hfz30_0:=AJ BK159.out 0
               have hfz30_1:=AJ BK159.out 1
               obtain ⟨Ao31,co31,eo31⟩:=Kd.R_slice HO_76.out
               subst eo31
               go_wp2_with (first|((with_reducible refine Ae (f:=50) rfl ?_); refine B6 (some 29) rfl rfl Try.func50 zI rfl #[.slice A1 l1.length c1,.func (.func 51) #[] #[.pointer (some ⟨gb166,0,none⟩),.pointer (some ⟨gb159,0,none⟩)]] rfl zD ?_; (with_reducible refine (CF.calls _ _ l1 _ _ x76_1 A8 _ _ l0_1 t170 _ ?side1 ?side2 ?side3 ?side4 ?side5 ?side6 A20.out zC5 zA7).mono ?_); (case side1=>repeat (first|exact (Kd.C_below HR1.out HB.out)|(with_reducible refine Kd.C_alloc ?_ _)|(with_reducible refine Kd.C_drewN ?_ _)|(with_reducible refine Kd.C_drew ?_))); (case side2=>exact HC1.out); (case side3=>repeat (first|exact (Kd.R_reads' HO_76.out).2.2|(with_reducible refine Kd.C_alloc ?_ _)|(with_reducible refine Kd.C_drewN ?_ _)|(with_reducible refine Kd.C_drew ?_))); (case side4=>exact (Kd.R_reads' HO_76.out).2.1); (case side5=>repeat (first|exact (Kd.C_below HR0_1.out HB.out)|(with_reducible refine Kd.C_alloc ?_ _)|(with_reducible refine Kd.C_drewN ?_ _)|(with_reducible refine Kd.C_drew ?_))); (case side6=>exact HC0_1.out); rintro e w32 ⟨rfl,hb⟩; refine ⟨_,rfl,?_⟩; have n0_:=yA (Kd.R_below zB8 hb); have n1_:=yA (Kd.R_below zA8 hb); have n2_:=yA (Kd.R_below (by (with_reducible repeat (first|apply Kd.R_alloc|apply Kd.R_drewN|apply Kd.R_drew)); exact HO_76.out) hb); have n3_:=yA (AP (g:=gb159) (o:= .cells #[.int .i64 A8,.slice A0_1 l0_1.length c0_1] 34 (0,0)) zA7 hb); have n4_:=yA (AP (g:=gb166) (o:= .cells #[.slice Ao31 x76_1.length co31] 67 (0,0)) zC5 hb); have n5_:=yA (AO zC6 hb); clear HO_5; clear HO_7; clear HO_76; clear BK159; clear BK166; clear HB; have HO_5:=n0_; have HO_7:=n1_; have HO_76:=n2_; have BK159:=n3_; have BK166:=n4_; have HB:=n5_; clear n0_ n1_ n2_ n3_ n4_ n5_; (try clear hb); (try clear hb2); (try clear hk); (try clear hi); have p171:0≤(t170:Int):=yD; have q171:t170<(l1.length:Int):=yD; obtain ⟨ad171,e171,hx171_0⟩:=Kd.at_int HR1.out t170 p171 q171; cases e171; replace hx171_0:=yC HB.out hx171_0; replace p171:=eq_true p171; replace q171:=eq_true q171; obtain ⟨Ao33,co33,eo33⟩:=Kd.R_slice HO_7.out; subst eo33)|((with_reducible refine Ae (f:=54) rfl ?_); refine B6 (some 34) rfl rfl Try.func54 zI rfl #[.slice Ao33 x7_1.length co33] rfl zD ?_; (with_reducible refine (BN.calls _ _ x7_1 t172 _ ?side1 ?side2 A23.out).mono ?_); (case side1=>repeat (first|exact (Kd.R_reads' HO_7.out).2.2|(with_reducible refine Kd.C_alloc ?_ _)|(with_reducible refine Kd.C_drewN ?_ _)|(with_reducible refine Kd.C_drew ?_))); (case side2=>exact (Kd.R_reads' HO_7.out).2.1); rintro e w' ⟨rfl,⟨nd,rfl⟩⟩; refine ⟨_,rfl,?_⟩)|((with_reducible refine Ae (f:=53) rfl ?_); refine B6 (some 35) rfl rfl Try.func53 zI rfl #[.slice Ao33 x7_1.length co33,.int .i64 t172] rfl zD ?_; (with_reducible refine (Ak.calls k1 _ _ x7_1 t172 t173 _ ?side1 ?side2 A24.out).mono ?_); (case side1=>repeat (first|exact (Kd.R_reads' HO_7.out).2.2|(with_reducible refine Kd.C_alloc ?_ _)|(with_reducible refine Kd.C_drewN ?_ _)|(with_reducible refine Kd.C_drew ?_))); (case side2=>exact (Kd.R_reads' HO_7.out).2.1); rintro e w' ⟨rfl,⟨nd,rfl⟩⟩; refine ⟨_,rfl,?_⟩; have p174:0≤(t173:Int):=yD; have q174:t173<(x7_1.length:Int):=yD; obtain ⟨ad174,e174,hx174_0⟩:=Kd.at_int (Kd.R_reads' HO_7.out).2.2 t173 p174 q174; cases e174; replace p174:=eq_true p174; replace q174:=eq_true q174; have hcz34_0:w32.cell? ⟨gb159,0,none⟩=some (.int .i64 A8):=(AK BK159.out 0).trans rfl; have hcz34_1:w32.cell? ⟨gb159,1,none⟩=some (.slice A0_1 l0_1.length c0_1):=(AK BK159.out 1).trans rfl; have hfz34_0:=AJ BK159.out 0; have hfz34_1:=AJ BK159.out 1; have p175:0≤((rd l1 t170):Int):=yD; have q175:(rd l1 t170)<(l0_1.length:Int):=yD; obtain ⟨ad175,A175_3,c175_3,e175,hx175_0,hx175_1,hx175_2,hx175_3,hl175_3,hi175_3⟩:=C6 HR0_1.out (rd l1 t170) p175 q175; cases e175; replace hx175_0:=yC HB.out hx175_0; replace hx175_1:=yC HB.out hx175_1; replace hx175_2:=yC HB.out hx175_2; replace hx175_3:=yC HB.out hx175_3; have HR175_3:=yA hi175_3; have HC175_3:=yA hl175_3; clear hi175_3 hl175_3; replace p175:=eq_true p175; replace q175:=eq_true q175))
               go_loopg [10,47] k1 (fun kq v10 v47 w'=>∃(x10_2:Int) (x47_2:Int),v10= .int .i64 x10_2∧v47= .int .i64 x47_2∧Aside0 (Ac.l1 kq l1 x5_1 x7_1 (rd l1 t170) t173 x10_2 (l1.length:Int) x24_1 ((AM l0_1 (rd l1 t170)).f3) (((AM l0_1 (rd l1 t170)).f3).length:Int) x47_2 x76_1 A8 l0_1=some r)∧Aside0 (kq≤k1)∧Aside0 (Kd.R k47 47 w' w.heap.size (fun _=>True) v161 x5_1)∧Aside0 (Kd.R (Kd.int .i64) 3 w' w.heap.size (fun _=>True) (.slice (some ad174) x7_1.length co33) x7_1)∧Aside0 (Kd.R Kd.bool 4 w' w.heap.size (fun _=>True) (.slice Ao31 x76_1.length co31) x76_1)∧Aside0 (w'.heap[gb159]? =some (.cells #[.int .i64 A8,(.slice (some ad175) l0_1.length c0_1)] 34 (0,0)))∧Aside0 (w'.heap[gb166]? =some (.cells #[.slice Ao31 x76_1.length co31] 67 (0,0)))∧Aside0 (Below w.heap.size w w'))
               case atStart=>exact ⟨(rd x7_1 t173),(0),zH,zH,H',⟨Nat.le_refl _⟩,⟨by (with_reducible repeat (first|apply Kd.R_alloc|apply Kd.R_drewN|apply Kd.R_drew)); exact HO_5.out⟩,⟨by (with_reducible repeat (first|apply Kd.R_alloc|apply Kd.R_drewN|apply Kd.R_drew)); exact HO_7.out⟩,⟨by (with_reducible repeat (first|apply Kd.R_alloc|apply Kd.R_drewN|apply Kd.R_drew)); exact HO_76.out⟩,⟨by (with_reducible repeat (first|refine AF ?_ _|refine AH ?_|refine AG ?_ _)); exact BK159.out⟩,⟨by (with_reducible repeat (first|refine AF ?_ _|refine AH ?_|refine AG ?_ _)); exact BK166.out⟩,⟨by repeat (first|(with_reducible first|exact HB.out|apply AE|apply AC|apply AD|refine AI ?_ GE159.out|refine AI ?_ GE166.out)|exact HB.out)⟩⟩
               case round=>
                clear H'
                try clear c1
                try clear p1
                try clear q1
                try clear hx1
                try clear c2
                try clear p2
                try clear c3
                try clear c3b0
                try clear c3b1
                try clear c4
                try clear c4b0
                try clear c4b1
                try clear c5
                try clear c5b0
                try clear c5b1
                try clear c6
                try clear c6b0
                try clear c6b1
                try clear c7
                try clear c7b0
                try clear c7b1
                try clear c9
                try clear c14
                try clear c17
                try clear p17
                try clear q17
                try clear hx17
                try clear c19
                try clear c19b0
                try clear c21
                try clear c21b0
                try clear c22
                try clear c22b0
                try clear c25
                try clear c25b0
                try clear c26
                try clear c26b0
                try clear c27
                try clear c27b0
                try clear c28
                try clear c28b0
                try clear c29
                try clear c31
                try clear hcz15_0
                try clear hcz16_0
                try clear hcz16_1
                try clear hcz30_0
                try clear hcz30_1
                try clear hcz34_0
                try clear hcz34_1
                try clear hfz15_0
                try clear hfz16_0
                try clear hfz16_1
                try clear hfz30_0
                try clear hfz30_1
                try clear hfz34_0
                try clear hfz34_1
                try clear hx171_0
                try clear hx174_0
                try clear hx175_0
                try clear hx175_1
                try clear hx175_2
                try clear hx175_3
                try clear p171
                try clear p174
                try clear p175
                try clear p2
                try clear q171
                try clear q174
                try clear q175
                obtain ⟨x10_2,x47_2,rfl,rfl,HA,HK2,HO_5,HO_7,HO_76,BK159,BK166,HB⟩:=hrel
                cases gk with
                |zero=>exact absurd HA.out (by simp [Ac.l1])
                | succ k2 =>
                 have H:=HA.out
                 clear HA
                 simp only [Ac.l1] at H
                 by_cases c35:x47_2<(((AM l0_1 (rd l1 t170)).f3).length:Int)
                 ·rw [if_pos c35] at H
                  have c35b0:decide (x47_2<(((AM l0_1 (rd l1 t170)).f3).length:Int))=true:=decide_eq_true c35
                  clear c35
                  by_cases c36:0≤x47_2
                  ·rw [if_pos c36] at H
                   have c36b0:decide (0≤x47_2)=true:=decide_eq_true c36
                   clear c36
                   by_cases c37:x47_2<(((AM l0_1 (rd l1 t170)).f3).length:Int)
                   ·rw [if_pos c37] at H
                    have c37b0:decide (x47_2<(((AM l0_1 (rd l1 t170)).f3).length:Int))=true:=decide_eq_true c37
                    clear c37
                    replace H:=Option.bind_eq_some_iff.mp H
                    obtain ⟨t177,A380,H⟩:=H
                    replace H:(Ac.l1 k2 l1 x5_1 x7_1 (rd l1 t170) t173 (mx x10_2 t177) (l1.length:Int) x24_1 ((AM l0_1 (rd l1 t170)).f3) (((AM l0_1 (rd l1 t170)).f3).length:Int) (wrap64 (x47_2+1)) x76_1 A8 l0_1)=some r:=H
                    have A38:=yA A380
                    clear A380
                    obtain ⟨ji39,hji39⟩:∃j_:Int,(mx x10_2 t177)=j_:=⟨_,rfl⟩
                    replace H:(Ac.l1 k2 l1 x5_1 x7_1 (rd l1 t170) t173 ji39 (l1.length:Int) x24_1 ((AM l0_1 (rd l1 t170)).f3) (((AM l0_1 (rd l1 t170)).f3).length:Int) (wrap64 (x47_2+1)) x76_1 A8 l0_1)=some r:=by first|(rw [hji39] at H; exact H)|(simp only [hji39] at H ⊢; exact H)
                    (try rw [hji39] at A38)
                    have hji39_:(if x10_2<t177 then t177 else x10_2)=ji39:=hji39
                    have H':=yA H
                    clear H
                    have p176:0≤(x47_2:Int):=yD
                    have q176:x47_2<(((AM l0_1 (rd l1 t170)).f3).length:Int):=yD
                    obtain ⟨ad176,e176,hx176_0⟩:=Kd.at_int HR175_3.out x47_2 p176 q176
                    cases e176
                    replace hx176_0:=yC HB.out hx176_0
                    replace p176:=eq_true p176
                    replace q176:=eq_true q176
                    have hnb40:=NB159_166.out
                    have hnc40:=NB166_159.out
                    have hcz41_0:wr.cell? ⟨gb159,0,none⟩=some (.int .i64 A8):=(AK BK159.out 0).trans rfl
                    have hcz41_1:wr.cell? ⟨gb159,1,none⟩=some (.slice (some ad175) l0_1.length c0_1):=(AK BK159.out 1).trans rfl
                    have hfz41_0:=AJ BK159.out 0
                    have hfz41_1:=AJ BK159.out 1
                    obtain ⟨Ao42,co42,eo42⟩:=Kd.R_slice HO_5.out
                    subst eo42
                    go_wp2_with (first|((with_reducible refine Ae (f:=30) rfl ?_); refine B6 (some 55) rfl rfl Try.func30 zI rfl #[.agg #[.int .i64 A8,.slice (some ad175) l0_1.length c0_1],.slice Ao42 x5_1.length co42,.int .i64 (rd ((AM l0_1 (rd l1 t170)).f3) x47_2)] rfl zD ?_; (with_reducible refine (BB.calls A8 _ _ l0_1 _ _ x5_1 (rd ((AM l0_1 (rd l1 t170)).f3) x47_2) t177 _ ?side1 ?side2 ?side3 ?side4 A38.out).mono ?_); (case side1=>repeat (first|exact (Kd.C_below HR0_1.out HB.out)|(with_reducible refine Kd.C_alloc ?_ _)|(with_reducible refine Kd.C_drewN ?_ _)|(with_reducible refine Kd.C_drew ?_))); (case side2=>exact HC0_1.out); (case side3=>repeat (first|exact (Kd.R_reads' HO_5.out).2.2|(with_reducible refine Kd.C_alloc ?_ _)|(with_reducible refine Kd.C_drewN ?_ _)|(with_reducible refine Kd.C_drew ?_))); (case side4=>exact (Kd.R_reads' HO_5.out).2.1); rintro e w43 ⟨rfl,hb⟩; refine ⟨_,rfl,?_⟩; have n0_:=yA (Kd.R_below zB8 hb); have n1_:=yA (Kd.R_below zA8 hb); have n2_:=yA (Kd.R_below (by (with_reducible repeat (first|apply Kd.R_alloc|apply Kd.R_drewN|apply Kd.R_drew)); exact HO_76.out) hb); have n3_:=yA (AP (g:=gb159) (o:= .cells #[.int .i64 A8,.slice (some ad175) l0_1.length c0_1] 34 (0,0)) zA7 hb); have n4_:=yA (AP (g:=gb166) (o:= .cells #[.slice Ao31 x76_1.length co31] 67 (0,0)) zC5 hb); have n5_:=yA (AO zC6 hb); clear HO_5; clear HO_7; clear HO_76; clear BK159; clear BK166; clear HB; have HO_5:=n0_; have HO_7:=n1_; have HO_76:=n2_; have BK159:=n3_; have BK166:=n4_; have HB:=n5_; clear n0_ n1_ n2_ n3_ n4_ n5_; (try clear hb); (try clear hb2); (try clear hk); (try clear hi)))
                    go_roundg k2
                    case measure=>have:=HK1.out; have:=HK2.out; omega
                    case rel=>exact ⟨(ji39),(wrap64 (x47_2+1)),(by first|rfl|(simp; done)|(simp only [←hji39]<;>(first|rfl|simp))|(simp [*]; done)),zH,H',⟨by have:=HK1.out; have:=HK2.out; omega⟩,⟨by (with_reducible repeat (first|apply Kd.R_alloc|apply Kd.R_drewN|apply Kd.R_drew)); exact HO_5.out⟩,⟨by (with_reducible repeat (first|apply Kd.R_alloc|apply Kd.R_drewN|apply Kd.R_drew)); exact HO_7.out⟩,⟨by (with_reducible repeat (first|apply Kd.R_alloc|apply Kd.R_drewN|apply Kd.R_drew)); exact HO_76.out⟩,⟨by (with_reducible repeat (first|refine AF ?_ _|refine AH ?_|refine AG ?_ _)); exact BK159.out⟩,⟨by (with_reducible repeat (first|refine AF ?_ _|refine AH ?_|refine AG ?_ _)); exact BK166.out⟩,⟨by repeat (first|(with_reducible first|exact HB.out|apply AE|apply AC|apply AD|refine AI ?_ GE159.out|refine AI ?_ GE166.out)|exact HB.out)⟩⟩
                   ·rw [if_neg c37] at H
                    exact absurd H zA5
                  ·rw [if_neg c36] at H
                   exact absurd H zA5
                 ·rw [if_neg c35] at H
                  have c35b0:decide (x47_2<(((AM l0_1 (rd l1 t170)).f3).length:Int))=false:=decide_eq_false c35
                  clear c35
                  by_cases c44:0≤(rd l1 t170)
                  ·rw [if_pos c44] at H
                   have c44b0:decide (0≤(rd l1 t170))=true:=decide_eq_true c44
                   clear c44
                   by_cases c45:(rd l1 t170)<(x5_1.length:Int)
                   ·rw [if_pos c45] at H
                    have c45b0:decide ((rd l1 t170)<(x5_1.length:Int))=true:=decide_eq_true c45
                    clear c45
                    obtain ⟨y178,hy178⟩:∃y_:List (S47),y_=(x5_1.set ((rd l1 t170):Int).toNat (⟨t173,x10_2⟩:S47)):=⟨_,rfl⟩
                    replace H:(if (rd l1 t170)<(x76_1.length:Int) then ((BB.f A8 l0_1 y178 (rd l1 t170)).bind fun t180=>(if 0≤t173 then (if t173<(x7_1.length:Int) then (Ac.l0 k2 l1 y178 (x7_1.set (t173:Int).toNat t180) (l1.length:Int) (wrap64 (x24_1+1)) (x76_1.set ((rd l1 t170):Int).toNat true) A8 l0_1) else (none)) else (none))) else (none))=some r:=by first|(rw [hy178]; with_reducible exact H)|(have H2_:=(Option.bind_some _ _).symm.trans H; rw [hy178]; with_reducible exact H2_)|(have H2_:=(Option.bind_some _ _).symm.trans H; with_reducible exact H2_)|with_reducible exact H|(rw [hy178]; exact H)|exact H
                    have Ny178:=yA hy178
                    clear hy178
                    by_cases c47:(rd l1 t170)<(x76_1.length:Int)
                    ·rw [if_pos c47] at H
                     have c47b0:decide ((rd l1 t170)<(x76_1.length:Int))=true:=decide_eq_true c47
                     clear c47
                     obtain ⟨y179,hy179⟩:∃y_:List Bool,y_=(x76_1.set ((rd l1 t170):Int).toNat true):=⟨_,rfl⟩
                     replace H:((BB.f A8 l0_1 y178 (rd l1 t170)).bind fun t180=>(if 0≤t173 then (if t173<(x7_1.length:Int) then (Ac.l0 k2 l1 y178 (x7_1.set (t173:Int).toNat t180) (l1.length:Int) (wrap64 (x24_1+1)) y179 A8 l0_1) else (none)) else (none)))=some r:=by first|(rw [hy179]; with_reducible exact H)|(have H2_:=(Option.bind_some _ _).symm.trans H; rw [hy179]; with_reducible exact H2_)|(have H2_:=(Option.bind_some _ _).symm.trans H; with_reducible exact H2_)|with_reducible exact H|(rw [hy179]; exact H)|exact H
                     have Ny179:=yA hy179
                     clear hy179
                     replace H:=Option.bind_eq_some_iff.mp H
                     obtain ⟨t180,A490,H⟩:=H
                     replace H:(if 0≤t173 then (if t173<(x7_1.length:Int) then (Ac.l0 k2 l1 y178 (x7_1.set (t173:Int).toNat t180) (l1.length:Int) (wrap64 (x24_1+1)) y179 A8 l0_1) else (none)) else (none))=some r:=H
                     have A49:=yA A490
                     clear A490
                     by_cases c50:0≤t173
                     ·rw [if_pos c50] at H
                      have c50b0:decide (0≤t173)=true:=decide_eq_true c50
                      clear c50
                      by_cases c51:t173<(x7_1.length:Int)
                      ·rw [if_pos c51] at H
                       have c51b0:decide (t173<(x7_1.length:Int))=true:=decide_eq_true c51
                       clear c51
                       obtain ⟨y181,hy181⟩:∃y_:List Int,y_=(x7_1.set (t173:Int).toNat t180):=⟨_,rfl⟩
                       replace H:(Ac.l0 k2 l1 y178 y181 (l1.length:Int) (wrap64 (x24_1+1)) y179 A8 l0_1)=some r:=by first|(rw [hy181]; with_reducible exact H)|(have H2_:=(Option.bind_some _ _).symm.trans H; rw [hy181]; with_reducible exact H2_)|(have H2_:=(Option.bind_some _ _).symm.trans H; with_reducible exact H2_)|with_reducible exact H|(rw [hy181]; exact H)|exact H
                       have Ny181:=yA hy181
                       clear hy181
                       have H':=yA H
                       clear H
                       try go_wp2
                       have n0_:=yA (Kd.R_drew HO_5.out)
                       have n1_:=yA (Kd.R_drew HO_7.out)
                       have n2_:=yA (Kd.R_drew HO_76.out)
                       have n3_:=yA (AH BK159.out)
                       have n4_:=yA (AH BK166.out)
                       have n5_:=yA (AD HB.out)
                       clear HO_5 HO_7 HO_76 BK159 BK166 HB
                       have HO_5:=n0_
                       have HO_7:=n1_
                       have HO_76:=n2_
                       have BK159:=n3_
                       have BK166:=n4_
                       have HB:=n5_
                       clear n0_ n1_ n2_ n3_ n4_ n5_
                       have hS14:wr.drew.cell? ⟨gb166,0,none⟩=some (.slice Ao31 x76_1.length co31):=(AK BK166.out 0).trans rfl
                       refine C8 (n:=11) (S:=fun w'=>w'.cell? ⟨gb166,0,none⟩=some (.slice Ao31 x76_1.length co31)) (ds:=[]) #[false,false,false,false,false,false,false,false,false,false,false] zI rfl rfl hS14 (fun hHeld=> ?_); refine Bn Ac.tab14 Ac.bits14 (fun HT_ HW_=> ?_)
                       clear hS14
                       generalize wr.drew=wd at HO_5 HO_7 HO_76 BK159 BK166 HB hHeld ⊢
                       have p46:0≤((rd l1 t170):Int):=yD
                       have q46:((rd l1 t170):Int)<((x5_1.length:Int):Int):=yD
                       obtain ⟨go46,co46,eo46,gb46,gl46,cl46,HG46⟩:=Kd.R_form HO_5.out zE
                       (first|cases eo46|(injection eo46 with ea_ en_ ec_; (first|subst ea_|(injection ea_ with ea_; subst ea_)); subst ec_; clear en_))
                       have GB46:=yA gb46
                       have GG46:=yA HG46
                       clear gb46 gl46 HG46
                       obtain ⟨ce46,hcl46,hM46,hcc46,hfr46⟩:=Kd.R_elem HO_5.out z47 ((rd l1 t170):Int) p46 q46
                       obtain rfl:=EK hM46
                       have hx46_0:wd.cell? ⟨go46,((rd l1 t170):Int).toNat*2,none⟩=some (.int .i64 ((Au x5_1 (rd l1 t170)).f0)):=hcc46 0 _ rfl
                       have hx46_1:wd.cell? ⟨go46,((rd l1 t170):Int).toNat*2+1,none⟩=some (.int .i64 ((Au x5_1 (rd l1 t170)).f1)):=hcc46 1 _ rfl
                       have hf46_0:wd.frozen? ⟨go46,((rd l1 t170):Int).toNat*2,none⟩=false:=hfr46 0
                       have hf46_1:wd.frozen? ⟨go46,((rd l1 t170):Int).toNat*2+1,none⟩=false:=hfr46 1
                       clear hcl46 hcc46 hfr46 hM46
                       replace p46:=eq_true p46
                       replace q46:=eq_true q46
                       have HX53:=yA (show Kd.R k47 47 wd w.heap.size (fun _=>True) (.slice (some ⟨go46,0,none⟩) x5_1.length co46) x5_1 from zB8)
                       obtain ⟨ce53,hcl53,hM53,hcc53,hfr53⟩:=Kd.R_elem HX53.out z47 ((rd l1 t170):Int) (yD) (by have h_:((rd l1 t170):Int)<((x5_1.length:Int):Int):=yD; first|exact h_|(have e_:=(Kd.R_reads' HO_5.out).1; omega)|simpa using h_)
                       obtain rfl:=EK hM53
                       have HP53:=Kd.R_seg HX53.out ((rd l1 t170):Int) (yD) (by have h_:((rd l1 t170):Int)<((x5_1.length:Int):Int):=yD; first|exact h_|(have e_:=(Kd.R_reads' HO_5.out).1; omega)|simpa using h_) (seg:=[.int .i64 t173,.int .i64 x10_2]) (j:=0) hcl53 hcc53 (show 2≤2 from by decide) (x':=(⟨t173,x10_2⟩:S47)) (Fw _ _ _ (⟨t173,x10_2⟩:S47)) (fun _ hk=>hk)
                       have hx53_0:=hcc53 0 _ rfl
                       (try simp only [show (k47).sz=2 from rfl,Nat.mul_one,Nat.add_zero] at hx53_0)
                       have hf53_0:=hfr53 0
                       (try simp only [show (k47).sz=2 from rfl,Nat.mul_one,Nat.add_zero] at hf53_0)
                       have hx53_1:=hcc53 1 _ rfl
                       (try simp only [show (k47).sz=2 from rfl,Nat.mul_one,Nat.add_zero] at hx53_1)
                       have hf53_1:=hfr53 1
                       (try simp only [show (k47).sz=2 from rfl,Nat.mul_one,Nat.add_zero] at hf53_1)
                       clear hcl53 hcc53 hfr53 hM53
                       refine At (i:=0) (N:=some 58) (v:= ?_) (a':= ?_) #[true,false,false,false,false,false,false,false,false,false,false] rfl rfl (Ai HT_.out zI) (fun _ _ _ h=>h) (Or.inl ⟨by rfl,?_⟩) ?_ ?_; rotate_left; intro w'; go_simp; with_reducible rfl; rotate_left; exact yB
                       refine At (i:=1) (N:=some 59) (v:= ?_) (a':= ?_) #[true,true,false,false,false,false,false,false,false,false,false] rfl rfl (Ai HT_.out zI) (fun _ _ _ h=>h) (Or.inl ⟨by rfl,?_⟩) ?_ ?_; rotate_left; intro w'; go_simp; with_reducible rfl; rotate_left; exact yB
                       refine At (i:=4) (N:=some 62) (v:= ?_) (a':= ?_) #[true,true,false,false,true,false,false,false,false,false,false] rfl rfl (Ai HT_.out zI) (fun _ _ _ h=>h) (Or.inl ⟨by rfl,?_⟩) ?_ ?_; rotate_left; intro w'; go_simp; with_reducible rfl; rotate_left; exact yB
                       refine At (i:=5) (N:=some 63) (v:= ?_) (a':= ?_) #[true,true,false,false,true,true,false,false,false,false,false] rfl rfl (Ai HT_.out zI) (fun _ _ _ h=>h) (Or.inl ⟨by rfl,?_⟩) ?_ ?_; rotate_left; intro w'; go_simp; with_reducible rfl; rotate_left; exact yB
                       refine At (i:=6) (N:=some 64) (v:= ?_) (a':= ?_) #[true,true,false,false,true,true,true,false,false,false,false] rfl rfl (Ai HT_.out zI) (fun _ _ _ h=>h) (Or.inl ⟨by rfl,?_⟩) ?_ ?_; rotate_left; intro w'; go_simp; with_reducible rfl; rotate_left; exact yB
                       refine At (i:=3) (N:=some 61) (v:= ?_) (a':= ?_) #[true,true,false,true,true,true,true,false,false,false,false] rfl rfl (Ai HT_.out zI) (fun _ _ _ h=>h) (Or.inl ⟨by rfl,?_⟩) ?_ ?_; rotate_left; intro w'; go_simp; with_reducible rfl; rotate_left; exact yB
                       refine BV (i:=2) (N:=some 60) (v:= ?_) (a':= ?_) #[true,true,true,true,true,true,true,false,false,false,false] rfl rfl (BF HT_.out HW_.out zI) (fun _ _ _ h=>h) (Or.inl ⟨by rfl,?_⟩) hHeld ?_ ?_; rotate_left; rintro w' s0; go_simp; with_reducible rfl; rotate_left; exact yB
                       refine At (i:=7) (N:=some 65) (v:= ?_) (a':= ?_) #[true,true,true,true,true,true,true,true,false,false,false] rfl rfl (Ai HT_.out zI) (fun _ _ _ h=>h) (Or.inl ⟨by rfl,?_⟩) ?_ ?_; rotate_left; intro w'; go_simp; with_reducible rfl; rotate_left; exact yB
                       refine one_ (i:=8) (N:=none) #[true,true,true,true,true,true,true,true,true,false,false] rfl rfl (Bv HT_.out zI) zA0 (fun K hK=> ?_)
                       refine E8 (w1:=((wd.setCell ⟨go46,((rd l1 t170):Int).toNat*2,none⟩ (.int .i64 t173)).setCell ⟨go46,((rd l1 t170):Int).toNat*2+1,none⟩ (.int .i64 x10_2))) (by rfl) rfl ?_ ?_
                       ·first|(go_simp; done)|(go_simp; rfl)
                       obtain ⟨w54,hw⟩:∃w_,w_=((wd.setCell ⟨go46,((rd l1 t170):Int).toNat*2,none⟩ (.int .i64 t173)).setCell ⟨go46,((rd l1 t170):Int).toNat*2+1,none⟩ (.int .i64 x10_2)):=⟨_,rfl⟩
                       rw [←hw]
                       have hg:wd.grownBy w54 (some go46):=(by rw [hw]; exact HP53.2); have hp_:Kd.R k47 47 w54 w.heap.size (fun _=>True) (.slice (some ⟨go46,0,none⟩) x5_1.length co46) y178:=(by rw [hw,Ny178.out]; exact HP53.1); clear HP53; have n0_:=yA (hp_); have n1_:=yA (Kd.R_over' (v:=(.slice (some ⟨go46,0,none⟩) x5_1.length co46)) zA8 (Kd.R_typed HO_5.out) zA0 hg); have n2_:=yA (Kd.R_over' (v:=(.slice (some ⟨go46,0,none⟩) x5_1.length co46)) (by (with_reducible repeat (first|apply Kd.R_alloc|apply Kd.R_drewN|apply Kd.R_drew)); exact HO_76.out) (Kd.R_typed HO_5.out) zA0 hg); have n3_:=yA (BJ (g:=gb159) (o:= .cells #[.int .i64 A8,.slice (some ad175) l0_1.length c0_1] 34 (0,0)) zA7 hg (Kd.R_ne HO_5.out BK159.out zA0)); have n4_:=yA (BJ (g:=gb166) (o:= .cells #[.slice Ao31 x76_1.length co31] 67 (0,0)) zC5 hg (Kd.R_ne HO_5.out BK166.out zA0)); have n5_:=yA ((by rw [hw]; exact AI (AI (HB.out) GB46.out) GB46.out:Below w.heap.size w w54)); clear HO_5; clear HO_7; clear HO_76; clear BK159; clear BK166; clear HB; have HO_5:=n0_; have HO_7:=n1_; have HO_76:=n2_; have BK159:=n3_; have BK166:=n4_; have HB:=n5_; clear n0_ n1_ n2_ n3_ n4_ n5_; clear hg hp_; have p48:0≤((rd l1 t170):Int):=yD; have q48:((rd l1 t170):Int)<((x76_1.length:Int):Int):=yD; obtain ⟨go48,co48,eo48,gb48,gl48,cl48,HG48⟩:=Kd.R_form HO_76.out zE; (first|cases eo48|(injection eo48 with ea_ en_ ec_; (first|subst ea_|(injection ea_ with ea_; subst ea_)); subst ec_; clear en_)); have GB48:=yA gb48; have GG48:=yA HG48; clear gb48 gl48 HG48; obtain ⟨hx48_0,hf48_0⟩:=Kd.R_celln false HO_76.out ((rd l1 t170):Int) p48 q48; replace p48:=eq_true p48; replace q48:=eq_true q48; obtain ⟨hy55_,hz55_⟩:=Kd.R_celln false HO_76.out ((rd l1 t170):Int) (yD) (yD); have HP55:=Kd.R_putg HO_76.out ((rd l1 t170):Int) true
                       refine hK.out _ _ ((AK BK166.out 0).trans rfl) (fun hHeld=> ?_)
                       clear hK K
                       try clear hw
                       refine At (i:=9) (N:=some 66) (v:= ?_) (a':= ?_) #[true,true,true,true,true,true,true,true,true,true,false] rfl rfl (Ai HT_.out zI) (fun _ _ _ h=>h) (Or.inl ⟨by rfl,?_⟩) ?_ ?_; rotate_left; intro w'; go_simp; with_reducible rfl; rotate_left; exact yB
                       refine one_ (i:=10) (N:=none) #[true,true,true,true,true,true,true,true,true,true,true] rfl rfl (Bv HT_.out zI) zA0 (fun K hK=> ?_)
                       refine E8 (w1:=(w54.setCell ⟨go48,((rd l1 t170):Int).toNat,none⟩ (.bool true))) (by rfl) rfl ?_ ?_
                       ·first|(go_simp; done)|(go_simp; rfl)
                       obtain ⟨w56,hw⟩:∃w_,w_=(w54.setCell ⟨go48,((rd l1 t170):Int).toNat,none⟩ (.bool true)):=⟨_,rfl⟩
                       rw [←hw]
                       have hg:w54.grownBy w56 (some go48):=(by rw [hw]; exact HP55.2); have hp_:Kd.R Kd.bool 4 w56 w.heap.size (fun _=>True) (.slice (some ⟨go48,0,none⟩) x76_1.length co31) y179:=(by rw [hw,Ny179.out]; exact HP55.1); clear HP55; have n0_:=yA (Kd.R_over' (v:=(.slice (some ⟨go48,0,none⟩) x76_1.length co31)) zB8 (Kd.R_typed HO_76.out) zA0 hg); have n1_:=yA (Kd.R_over' (v:=(.slice (some ⟨go48,0,none⟩) x76_1.length co31)) zA8 (Kd.R_typed HO_76.out) zA0 hg); have n2_:=yA (hp_); have n3_:=yA (BJ (g:=gb159) (o:= .cells #[.int .i64 A8,.slice (some ad175) l0_1.length c0_1] 34 (0,0)) zA7 hg (Kd.R_ne HO_76.out BK159.out zA0)); have n4_:=yA (BJ (g:=gb166) (o:= .cells #[.slice (some ⟨go48,0,none⟩) x76_1.length co31] 67 (0,0)) zC5 hg (Kd.R_ne HO_76.out BK166.out zA0)); have n5_:=yA ((by rw [hw]; exact AI (HB.out) GB48.out:Below w.heap.size w w56)); clear HO_5; clear HO_7; clear HO_76; clear BK159; clear BK166; clear HB; have HO_5:=n0_; have HO_7:=n1_; have HO_76:=n2_; have BK159:=n3_; have BK166:=n4_; have HB:=n5_; clear n0_ n1_ n2_ n3_ n4_ n5_; clear hg hp_; have hnb57:=NB159_166.out; have hnc57:=NB166_159.out; have hcz58_0:w56.cell? ⟨gb159,0,none⟩=some (.int .i64 A8):=(AK BK159.out 0).trans rfl; have hcz58_1:w56.cell? ⟨gb159,1,none⟩=some (.slice (some ad175) l0_1.length c0_1):=(AK BK159.out 1).trans rfl; have hfz58_0:=AJ BK159.out 0; have hfz58_1:=AJ BK159.out 1
                       refine hK.out _ _ ((AK BK166.out 0).trans rfl) (fun hHeld=> ?_)
                       clear hK K
                       try clear hw
                       refine CS (CC HT_.out zI) ?_
                       go_wp2_with (first|((with_reducible refine Ae (f:=30) rfl ?_); refine B6 (some 72) rfl rfl Try.func30 zI rfl #[.agg #[.int .i64 A8,.slice (some ad175) l0_1.length c0_1],.slice (some ⟨go46,0,none⟩) y178.length co46,.int .i64 (rd l1 t170)] rfl (by (try simp only [List.map_toArray,List.map_cons,List.map_nil]); first|done|(rw [show y178.length=x5_1.length from (Kd.R_reads' HO_5.out).1.symm]<;>rfl)|rfl|(simp only [List.length_drop,List.length_take]; rfl)) ?_; (with_reducible refine (BB.calls A8 _ _ l0_1 _ _ y178 (rd l1 t170) t180 _ ?side1 ?side2 ?side3 ?side4 A49.out).mono ?_); (case side1=>repeat (first|exact (Kd.C_below HR0_1.out HB.out)|(with_reducible refine Kd.C_alloc ?_ _)|(with_reducible refine Kd.C_drewN ?_ _)|(with_reducible refine Kd.C_drew ?_))); (case side2=>exact HC0_1.out); (case side3=>repeat (first|exact (Kd.R_reads' HO_5.out).2.2|(with_reducible refine Kd.C_alloc ?_ _)|(with_reducible refine Kd.C_drewN ?_ _)|(with_reducible refine Kd.C_drew ?_))); (case side4=>rw [show y178.length=x5_1.length from (Kd.R_reads' HO_5.out).1.symm]; exact (Kd.R_reads' HO_5.out).2.1); rintro e w59 ⟨rfl,hb⟩; refine ⟨_,rfl,?_⟩; have n0_:=yA (Kd.R_below zB8 hb); have n1_:=yA (Kd.R_below zA8 hb); have n2_:=yA (Kd.R_below (by (with_reducible repeat (first|apply Kd.R_alloc|apply Kd.R_drewN|apply Kd.R_drew)); exact HO_76.out) hb); have n3_:=yA (AP (g:=gb159) (o:= .cells #[.int .i64 A8,.slice (some ad175) l0_1.length c0_1] 34 (0,0)) zA7 hb); have n4_:=yA (AP (g:=gb166) (o:= .cells #[.slice (some ⟨go48,0,none⟩) x76_1.length co31] 67 (0,0)) zC5 hb); have n5_:=yA (AO zC6 hb); clear HO_5; clear HO_7; clear HO_76; clear BK159; clear BK166; clear HB; have HO_5:=n0_; have HO_7:=n1_; have HO_76:=n2_; have BK159:=n3_; have BK166:=n4_; have HB:=n5_; clear n0_ n1_ n2_ n3_ n4_ n5_; (try clear hb); (try clear hb2); (try clear hk); (try clear hi); have p52:0≤(t173:Int):=yD; have q52:(t173:Int)<((x7_1.length:Int):Int):=yD; obtain ⟨go52,co52,eo52,gb52,gl52,cl52,HG52⟩:=Kd.R_form HO_7.out zE; (first|cases eo52|(injection eo52 with ea_ en_ ec_; (first|subst ea_|(injection ea_ with ea_; subst ea_)); subst ec_; clear en_)); have GB52:=yA gb52; have GG52:=yA HG52; clear gb52 gl52 HG52; (first|simp only [Bq] at hx174_0|skip); obtain ⟨hx52_0,hf52_0⟩:=Kd.R_celln 0 HO_7.out (t173:Int) p52 q52; replace p52:=eq_true p52; replace q52:=eq_true q52; obtain ⟨hy60_,hz60_⟩:=Kd.R_celln 0 HO_7.out (t173:Int) (yD) (yD); have HP60:=Kd.R_putg HO_7.out (t173:Int) t180)|((with_reducible refine BS (t:=3) (p:=73) rfl ?_); refine BP (t:=3) (p:=73) (v:= ?vo_w61) (w1:=(w59.setCell ⟨go52,(t173:Int).toNat,none⟩ (.int .i64 t180))) ?hg ?ho ?hn ?hr ?_; (case ho=>rfl); (case hg=>rfl); (case hn=>rfl); (case hr=>first|(go_simp; done)|(go_simp; rfl)); intro w61 hw; have hg:w59.grownBy w61 (some go52):=(by rw [hw]; exact HP60.2); have hp_:Kd.R (Kd.int .i64) 3 w61 w.heap.size (fun _=>True) (.slice (some ⟨go52,0,none⟩) x7_1.length co33) y181:=(by rw [hw,Ny181.out]; exact HP60.1); clear HP60; have n0_:=yA (Kd.R_over' (v:=(.slice (some ⟨go52,0,none⟩) x7_1.length co33)) zB8 (Kd.R_typed HO_7.out) zA0 hg); have n1_:=yA (hp_); have n2_:=yA (Kd.R_over' (v:=(.slice (some ⟨go52,0,none⟩) x7_1.length co33)) (by (with_reducible repeat (first|apply Kd.R_alloc|apply Kd.R_drewN|apply Kd.R_drew)); exact HO_76.out) (Kd.R_typed HO_7.out) zA0 hg); have n3_:=yA (BJ (g:=gb159) (o:= .cells #[.int .i64 A8,.slice (some ad175) l0_1.length c0_1] 34 (0,0)) zA7 hg (Kd.R_ne HO_7.out BK159.out zA0)); have n4_:=yA (BJ (g:=gb166) (o:= .cells #[.slice (some ⟨go48,0,none⟩) x76_1.length co31] 67 (0,0)) zC5 hg (Kd.R_ne HO_7.out BK166.out zA0)); have n5_:=yA ((by rw [hw]; exact AI (HB.out) GB52.out:Below w.heap.size w w61)); clear HO_5; clear HO_7; clear HO_76; clear BK159; clear BK166; clear HB; have HO_5:=n0_; have HO_7:=n1_; have HO_76:=n2_; have BK159:=n3_; have BK166:=n4_; have HB:=n5_; clear n0_ n1_ n2_ n3_ n4_ n5_; clear hg hw hp_))
                       go_roundg k2
                       case measure=>have:=HK1.out; have:=HK2.out; omega
                       case rel=>exact ⟨(y178),(y181),(wrap64 (x24_1+1)),(y179),zH,H',⟨by have:=HK1.out; have:=HK2.out; omega⟩,⟨by (with_reducible repeat (first|apply Kd.R_alloc|apply Kd.R_drewN|apply Kd.R_drew)); exact HO_5.out⟩,⟨by (with_reducible repeat (first|apply Kd.R_alloc|apply Kd.R_drewN|apply Kd.R_drew)); exact HO_7.out⟩,⟨by (with_reducible repeat (first|apply Kd.R_alloc|apply Kd.R_drewN|apply Kd.R_drew)); exact HO_76.out⟩,⟨by (with_reducible repeat (first|refine AF ?_ _|refine AH ?_|refine AG ?_ _)); exact BK159.out⟩,⟨by (with_reducible repeat (first|refine AF ?_ _|refine AH ?_|refine AG ?_ _)); exact BK166.out⟩,⟨by repeat (first|(with_reducible first|exact HB.out|apply AE|apply AC|apply AD|refine AI ?_ GE159.out|refine AI ?_ GE166.out)|exact HB.out)⟩⟩
                      ·rw [if_neg c51] at H
                       exact absurd H zA5
                     ·rw [if_neg c50] at H
                      exact absurd H zA5
                    ·rw [if_neg c47] at H
                     exact absurd H zA5
                   ·rw [if_neg c45] at H
                    exact absurd H zA5
                  ·rw [if_neg c44] at H
                   exact absurd H zA5
              ·rw [if_neg c28] at H
               exact absurd H zA5
             ·rw [if_neg c27] at H
              exact absurd H zA5
            ·rw [if_neg c26] at H
             exact absurd H zA5
           ·rw [if_neg c25] at H
            exact absurd H zA5
          ·rw [if_neg c22] at H
           exact absurd H zA5
         ·rw [if_neg c21] at H
          exact absurd H zA5
        ·rw [if_neg c19] at H
         have c19b0:decide (x24_1<(l1.length:Int))=false:=decide_eq_false c19
         clear c19
         obtain rfl:=Option.some.inj H
         go_wp2
         go_ret
         exact ⟨_,by first|rfl|(simp [AY,AX]<;>rfl)|(simp [*,AY,AX]<;>rfl),by (with_reducible repeat (first|apply Kd.R_alloc|apply Kd.R_drewN|apply Kd.R_drew)); exact HO_5.out,by repeat (first|(with_reducible first|exact HB.out|apply AE|apply AC|apply AD|refine AI ?_ GE159.out|refine AI ?_ GE166.out)|exact HB.out)⟩
     ·rw [if_neg c7] at H
      exact absurd H zA5
    ·rw [if_neg c6] at H
     exact absurd H zA5
   ·rw [if_neg c5] at H
    exact absurd H zA5
  ·rw [if_neg c4] at H
   exact absurd H zA5
 ·rw [if_neg c3] at H
  exact absurd H zA5
mutual
def Ag.j0:Nat→List Int→Bool→Int→List (S64)→Option ((List (S47))×Int)
 |0,_,_,_,_=>none
 |k+1,x1,x19,x183000,x183001=>if x19=true then (some (([]:List (S47)),1)) else (if 0≤(x1.length:Int) then (if ((x1.length:Int):Int).toNat≤281474976710656 then (Ag.l0 k x1 (List.replicate ((x1.length:Int):Int).toNat false) x1 (x1.length:Int) 0 x183000 x183001) else (none)) else (none))
def Ag.l0:Nat→List Int→List Bool→List Int→Int→Int→Int→List (S64)→Option ((List (S47))×Int)
 |0,_,_,_,_,_,_,_=>none
 |k+1,x1,x6,x23,x24,x25,x183000,x183001=>if x25<x24 then (if 0≤x25 then (if x25<(x23.length:Int) then (if (rd x23 x25)<0 then (some (([]:List (S47)),1)) else (if (rd x23 x25)≥(x1.length:Int) then (some (([]:List (S47)),1)) else (if 0≤(rd x23 x25) then (if (rd x23 x25)<(x6.length:Int) then (if rdOf false x6 (rd x23 x25)=true then (some (([]:List (S47)),1)) else (Ag.l0 k x1 (x6.set ((rd x23 x25):Int).toNat true) x23 x24 (wrap64 (x25+1)) x183000 x183001)) else (none)) else (none)))) else (none)) else (none)) else ((Ac.f k x183000 x183001 x1).bind fun t190=>(some (t190,0)))
end
def Ag.f (k:Nat) (A8:Int) (l0_1:List (S64)) (l1:List Int):Option ((List (S47))×Int):=(AN.f k A8 l0_1).bind fun t183=>(if t183=true then (Ag.j0 k l1 ((l1.length:Int) !=(l0_1.length:Int)) A8 l0_1) else (Ag.j0 k l1 true A8 l0_1))
theorem Ag.mono_l:∀k,(∀y0 y1 y2 y3,LeO (Ag.j0 k y0 y1 y2 y3) (Ag.j0 (k+1) y0 y1 y2 y3))∧(∀y0 y1 y2 y3 y4 y5 y6,LeO (Ag.l0 k y0 y1 y2 y3 y4 y5 y6) (Ag.l0 (k+1) y0 y1 y2 y3 y4 y5 y6))
 |0=>⟨fun _ _ _ _ r h=>by simp [Ag.j0] at h,fun _ _ _ _ _ _ _ r h=>by simp [Ag.l0] at h⟩
 | k +1=>by
  obtain ⟨ih0,ih1⟩:=Ag.mono_l k
  refine ⟨?_,?_⟩
  ·intro y0 y1 y2 y3
   unfold Ag.j0
   repeat' first
   |(with_reducible exact ih0 _ _ _ _)
   |(with_reducible exact ih1 _ _ _ _ _ _ _)
   |(with_reducible exact AN.mono _ _ _)
   |(with_reducible exact Ac.mono _ _ _ _)
   |(with_reducible exact LeO.refl _)
   |(with_reducible exact LeO.none _)
   |(with_reducible refine LeO.ite ?_ ?_)
   |(with_reducible refine LeO.bind ?_ (fun _=> ?_))
   |exact ih0 _ _ _ _
   |exact ih1 _ _ _ _ _ _ _
   |exact AN.mono _ _ _
   |exact Ac.mono _ _ _ _
   |exact LeO.none _
   |refine LeO.ite ?_ ?_
   |refine LeO.bind ?_ (fun _=> ?_)
  ·intro y0 y1 y2 y3 y4 y5 y6
   unfold Ag.l0
   repeat' first
   |(with_reducible exact ih0 _ _ _ _)
   |(with_reducible exact ih1 _ _ _ _ _ _ _)
   |(with_reducible exact AN.mono _ _ _)
   |(with_reducible exact Ac.mono _ _ _ _)
   |(with_reducible exact LeO.refl _)
   |(with_reducible exact LeO.none _)
   |(with_reducible refine LeO.ite ?_ ?_)
   |(with_reducible refine LeO.bind ?_ (fun _=> ?_))
   |exact ih0 _ _ _ _
   |exact ih1 _ _ _ _ _ _ _
   |exact AN.mono _ _ _
   |exact Ac.mono _ _ _ _
   |exact LeO.none _
   |refine LeO.ite ?_ ?_
   |refine LeO.bind ?_ (fun _=> ?_)
theorem Ag.mono:∀a0 a1 a2 k,LeO (Ag.f k a0 a1 a2) (Ag.f (k+1) a0 a1 a2):=by
 intro a0 a1 a2 k
 obtain ⟨ih0,ih1⟩:=Ag.mono_l k
 unfold Ag.f
 repeat' first
  |(with_reducible exact ih0 _ _ _ _)
  |(with_reducible exact ih1 _ _ _ _ _ _ _)
  |(with_reducible exact AN.mono _ _ _)
  |(with_reducible exact Ac.mono _ _ _ _)
  |(with_reducible exact LeO.refl _)
  |(with_reducible exact LeO.none _)
  |(with_reducible refine LeO.ite ?_ ?_)
  |(with_reducible refine LeO.bind ?_ (fun _=> ?_))
  |exact ih0 _ _ _ _
  |exact ih1 _ _ _ _ _ _ _
  |exact AN.mono _ _ _
  |exact Ac.mono _ _ _ _
  |exact LeO.none _
  |refine LeO.ite ?_ ?_
  |refine LeO.bind ?_ (fun _=> ?_)
set_option maxHeartbeats 8000000 in
theorem Ag.calls (k:Nat) (A8:Int) (A0_1:Option Addr) (c0_1:Nat) (l0_1:List (S64)) (A1:Option Addr) (c1:Nat) (l1:List Int) (r1:List (S47)) (r2:Int) (w:World) (hr0_1:Kd.C k64 w A0_1 l0_1.length l0_1) (hc0_1:l0_1.length≤c0_1) (hr1:Kd.C (Kd.int .i64) w A1 l1.length l1) (hc1:l1.length≤c1) (h:Ag.f k A8 l0_1 l1=some (r1,r2)):
  Calls Try.prog 15 #[.agg #[.int .i64 A8,.slice A0_1 l0_1.length c0_1],.slice A1 l1.length c1] w fun e w'=>∃v0_:Value,e= .returned (.tuple #[v0_,.int .i64 r2])∧Kd.R k47 47 w' w.heap.size (fun _=>True) v0_ r1∧Below w.heap.size w w':=by
 have hu34:=Try.underlying34
 have HR0_1:=yA hr0_1
 have HC0_1:=yA hc0_1
 clear hr0_1 hc0_1
 have HR1:=yA hr1
 have HC1:=yA hc1
 clear hr1 hc1
 have HB:=yA (Below.refl w.heap.size w)
 have H:((AN.f k A8 l0_1).bind fun t183=>(if t183=true then (Ag.j0 k l1 ((l1.length:Int) !=(l0_1.length:Int)) A8 l0_1) else (Ag.j0 k l1 true A8 l0_1)))=some (r1,r2):=h
 clear h
 have HC3:=yA H
 clear H
 go_enter Try.func15,Try.ntmps15
 go_upto_region 1 with (first|((with_reducible refine Aq (N:=2) rfl ?_); (try (refine BC (by rfl) ?_; dsimp only)); refine Av ?hg (N:=2) ?hd (cs:= #[.int .i64 A8,.slice A0_1 l0_1.length c0_1]) (t:=34) ?hr ?_; (case hd=>rfl); (case hg=>rfl); (case hr=>first|(go_simp; done)|(go_simp; rfl)); intro gb182 hg w4 hbox hb; have n0_:=yA (AO zB hb); have n1_:=yA (hbox); have n2_:=yA ((by rw [hg]; exact (AQ zB):w.heap.size≤gb182)); have n3_:=yA ((by rw [hg]; exact (AQ zB):w.heap.size≤gb182)); clear HB; have HB:=n0_; have BK182:=n1_; have GW182:=n2_; have GE182:=n3_; clear n0_ n1_ n2_ n3_; clear hb hbox hg))
 (try simp only [Act.put,List.setIfInBounds_toArray,List.set_cons_zero,List.set_cons_succ])
 go_cut [19] (fun v19 wc=>∃(kq:Nat) (x19_2:Bool),v19= .bool x19_2∧Aside0 (Ag.j0 kq l1 x19_2 A8 l0_1=some (r1,r2))∧Aside0 (kq≤k)∧Aside0 (wc.heap[gb182]? =some (.cells #[.int .i64 A8,(.slice A0_1 l0_1.length c0_1)] 34 (0,0)))∧Aside0 (Below w.heap.size w wc))
 case first=>
  have H:=HC3.out
  clear HC3
  replace H:=Option.bind_eq_some_iff.mp H
  obtain ⟨t183,A50,H⟩:=H
  replace H:(if t183=true then (Ag.j0 k l1 ((l1.length:Int) !=(l0_1.length:Int)) A8 l0_1) else (Ag.j0 k l1 true A8 l0_1))=some (r1,r2):=H
  have A5:=yA A50
  clear A50
  by_cases c6:t183=true
  ·subst c6
   have H1:(Ag.j0 k l1 ((l1.length:Int) !=(l0_1.length:Int)) A8 l0_1)=some (r1,r2):=by rw [if_pos rfl] at H; exact H
   clear H
   have H:=H1
   clear H1
   have H':=yA H
   clear H
   have hcz7_0:w4.cell? ⟨gb182,0,none⟩=some (.int .i64 A8):=(AK BK182.out 0).trans rfl
   have hcz7_1:w4.cell? ⟨gb182,1,none⟩=some (.slice A0_1 l0_1.length c0_1):=(AK BK182.out 1).trans rfl
   have hfz7_0:=AJ BK182.out 0
   have hfz7_1:=AJ BK182.out 1
   go_wp2_with (first|((with_reducible refine Ae (f:=29) rfl ?_); refine B6 (some 10) rfl rfl Try.func29 zI rfl #[.agg #[.int .i64 A8,.slice A0_1 l0_1.length c0_1]] rfl zD ?_; (with_reducible refine (AN.calls k A8 _ _ l0_1 true _ ?side1 ?side2 A5.out).mono ?_); (case side1=>repeat (first|exact (Kd.C_below HR0_1.out HB.out)|(with_reducible refine Kd.C_alloc ?_ _)|(with_reducible refine Kd.C_drewN ?_ _)|(with_reducible refine Kd.C_drew ?_))); (case side2=>exact HC0_1.out); rintro e w8 ⟨rfl,hb⟩; refine ⟨_,rfl,?_⟩; have n0_:=yA (AP (g:=gb182) (o:= .cells #[.int .i64 A8,.slice A0_1 l0_1.length c0_1] 34 (0,0)) (by (with_reducible repeat (first|refine AF ?_ _|refine AH ?_|refine AG ?_ _)); exact BK182.out) hb); have n1_:=yA (AO zC4 hb); clear BK182; clear HB; have BK182:=n0_; have HB:=n1_; clear n0_ n1_; (try clear hb); (try clear hb2); (try clear hk); (try clear hi); have hcz9_0:w8.cell? ⟨gb182,0,none⟩=some (.int .i64 A8):=(AK BK182.out 0).trans rfl; have hcz9_1:w8.cell? ⟨gb182,1,none⟩=some (.slice A0_1 l0_1.length c0_1):=(AK BK182.out 1).trans rfl; have hfz9_0:=AJ BK182.out 0; have hfz9_1:=AJ BK182.out 1))
   go_meet
   case rel=>exact ⟨_,(((l1.length:Int) !=(l0_1.length:Int))),zH,H',⟨by first|omega|exact Nat.le_refl _⟩,⟨by (with_reducible repeat (first|refine AF ?_ _|refine AH ?_|refine AG ?_ _)); exact BK182.out⟩,⟨by repeat (first|(with_reducible first|exact HB.out|apply AE|apply AC|apply AD|refine AI ?_ GE182.out)|exact HB.out)⟩⟩
  ·replace c6:=Bool.eq_false_iff.mpr c6
   subst c6
   have H1:(Ag.j0 k l1 true A8 l0_1)=some (r1,r2):=by rw [if_neg (show ¬(false=true) by decide)] at H; exact H
   clear H
   have H:=H1
   clear H1
   have H':=yA H
   clear H
   have hcz10_0:w4.cell? ⟨gb182,0,none⟩=some (.int .i64 A8):=(AK BK182.out 0).trans rfl
   have hcz10_1:w4.cell? ⟨gb182,1,none⟩=some (.slice A0_1 l0_1.length c0_1):=(AK BK182.out 1).trans rfl
   have hfz10_0:=AJ BK182.out 0
   have hfz10_1:=AJ BK182.out 1
   go_wp2_with (first|((with_reducible refine Ae (f:=29) rfl ?_); refine B6 (some 10) rfl rfl Try.func29 zI rfl #[.agg #[.int .i64 A8,.slice A0_1 l0_1.length c0_1]] rfl zD ?_; (with_reducible refine (AN.calls k A8 _ _ l0_1 false _ ?side1 ?side2 A5.out).mono ?_); (case side1=>repeat (first|exact (Kd.C_below HR0_1.out HB.out)|(with_reducible refine Kd.C_alloc ?_ _)|(with_reducible refine Kd.C_drewN ?_ _)|(with_reducible refine Kd.C_drew ?_))); (case side2=>exact HC0_1.out); rintro e w11 ⟨rfl,hb⟩; refine ⟨_,rfl,?_⟩; have n0_:=yA (AP (g:=gb182) (o:= .cells #[.int .i64 A8,.slice A0_1 l0_1.length c0_1] 34 (0,0)) (by (with_reducible repeat (first|refine AF ?_ _|refine AH ?_|refine AG ?_ _)); exact BK182.out) hb); have n1_:=yA (AO zC4 hb); clear BK182; clear HB; have BK182:=n0_; have HB:=n1_; clear n0_ n1_; (try clear hb); (try clear hb2); (try clear hk); (try clear hi)))
   go_meet
   case rel=>exact ⟨_,(true),zH,H',⟨by first|omega|exact Nat.le_refl _⟩,⟨by (with_reducible repeat (first|refine AF ?_ _|refine AH ?_|refine AG ?_ _)); exact BK182.out⟩,⟨by repeat (first|(with_reducible first|exact HB.out|apply AE|apply AC|apply AD|refine AI ?_ GE182.out)|exact HB.out)⟩⟩
 case rest =>
  clear HC3
  try clear c1
  try clear c2
  try clear p2
  try clear c6
  try clear hcz10_0
  try clear hcz10_1
  try clear hcz7_0
  try clear hcz7_1
  try clear hcz9_0
  try clear hcz9_1
  try clear hfz10_0
  try clear hfz10_1
  try clear hfz7_0
  try clear hfz7_1
  try clear hfz9_0
  try clear hfz9_1
  obtain ⟨kq,x19_2,rfl,HA,HJ2,BK182,HB⟩:=hcut
  cases kq with
  |zero=>exact absurd HA.out (by simp [Ag.j0])
  | succ kj2=>
   have H:=HA.out
   clear HA
   simp only [Ag.j0] at H
   by_cases c12:x19_2=true
   ·subst c12
    have H1:(some (([]:List (S47)),1))=some (r1,r2):=by rw [if_pos rfl] at H; exact H
    clear H
    have H:=H1
    clear H1
    simp only [Option.some.injEq,Prod.mk.injEq] at H
    obtain ⟨rfl,rfl⟩:=H
    go_wp2
    go_ret2
    exact ⟨_,by first|rfl|(simp [AY,AX]<;>rfl)|(simp [*,AY,AX]<;>rfl),by first|exact Kd.R_nil _ _ _ _ _|exact Kd.N_nil _ _ _ _ _|exact Kd.V_nil _ _ _ _ _|exact Kd.Q_nil _ _ _ _ _|exact Kd.S_nil _ _ _ _ _,by repeat (first|(with_reducible first|exact HB.out|apply AE|apply AC|apply AD|refine AI ?_ GE182.out)|exact HB.out)⟩
   ·replace c12 :=Bool.eq_false_iff.mpr c12
    subst c12
    have H1:(if 0≤(l1.length:Int) then (if ((l1.length:Int):Int).toNat≤281474976710656 then (Ag.l0 kj2 l1 (List.replicate ((l1.length:Int):Int).toNat false) l1 (l1.length:Int) 0 A8 l0_1) else (none)) else (none))=some (r1,r2):=by rw [if_neg (show ¬(false=true) by decide)] at H; exact H
    clear H
    have H:=H1
    clear H1
    by_cases c13:0≤(l1.length:Int)
    ·rw [if_pos c13] at H
     have c13b0:=eq_true c13
     have c13b1:decide (0≤(l1.length:Int))=true:=decide_eq_true c13
     clear c13
     by_cases c14:((l1.length:Int):Int).toNat≤281474976710656
     ·rw [if_pos c14] at H
      have c14b0:=eq_true c14
      have c14b1:decide (((l1.length:Int):Int).toNat≤281474976710656)=true:=decide_eq_true c14
      clear c14
      obtain ⟨y184,hy184⟩:∃y_:List Bool,y_=(List.replicate ((l1.length:Int):Int).toNat false):=⟨_,rfl⟩
      replace H:(Ag.l0 kj2 l1 y184 l1 (l1.length:Int) 0 A8 l0_1)=some (r1,r2):=by first|(rw [hy184]; with_reducible exact H)|(have H2_:=(Option.bind_some _ _).symm.trans H; rw [hy184]; with_reducible exact H2_)|(have H2_:=(Option.bind_some _ _).symm.trans H; with_reducible exact H2_)|with_reducible exact H|(rw [hy184]; exact H)|exact H
      have Ny184:=yA hy184
      clear hy184
      have H':=yA H
      clear H
      go_wp2_with (first|((with_reducible refine Aq (N:=22) rfl ?_); (try (refine BC (by rfl) ?_; dsimp only)); refine Kd.R_make Kd.bool _ 4 rfl (N:=22) rfl 67 _ _ rfl (l1.length:Int) rfl rfl Try.underlying67 (.bool false) 1 info4 rfl zA0 zE false (ok:=fun _=>True) (okp:=fun _=>True) rfl (fun _ hk=>hk) trivial (yD) (Nat.le_trans (Nat.mul_le_mul_right _ (yD:(l1.length:Int).toNat≤281474976710656)) zE) (Below.refl _ _) (Nat.le_refl _) ?_; intro v185 w15 ho16 hb hg_ hnew_; clear hg_ hnew_; (first|rw [←Ny184.out] at ho16|(simp only [Int.reduceToNat] at ho16; rw [←Ny184.out] at ho16)); have n0_:=yA (Kd.R_lower ho16 (AQ zC4)); have n1_:=yA (AP (g:=gb182) (o:= .cells #[.int .i64 A8,.slice A0_1 l0_1.length c0_1] 34 (0,0)) (by (with_reducible repeat (first|refine AF ?_ _|refine AH ?_|refine AG ?_ _)); exact BK182.out) hb); have n2_:=yA (AO zC4 hb); clear BK182; clear HB; have HO186:=n0_; have BK182:=n1_; have HB:=n2_; clear n0_ n1_ n2_; clear hb ho16))
      go_loopg [25] kj2 (fun kq v25 w'=>∃(x6_2:List Bool) (x25_2:Int),v25= .int .i64 x25_2∧Aside0 (Ag.l0 kq l1 x6_2 l1 (l1.length:Int) x25_2 A8 l0_1=some (r1,r2))∧Aside0 (kq≤kj2)∧Aside0 (Kd.R Kd.bool 4 w' w.heap.size (fun _=>True) v185 x6_2)∧Aside0 (w'.heap[gb182]? =some (.cells #[.int .i64 A8,(.slice A0_1 l0_1.length c0_1)] 34 (0,0)))∧Aside0 (Below w.heap.size w w'))
      case atStart=>exact ⟨(y184),(0),zH,H',⟨Nat.le_refl _⟩,⟨by (with_reducible repeat (first|apply Kd.R_alloc|apply Kd.R_drewN|apply Kd.R_drew)); exact HO186.out⟩,⟨by (with_reducible repeat (first|refine AF ?_ _|refine AH ?_|refine AG ?_ _)); exact BK182.out⟩,⟨by repeat (first|(with_reducible first|exact HB.out|apply AE|apply AC|apply AD|refine AI ?_ GE182.out)|exact HB.out)⟩⟩
      case round=>
       clear H'
       try clear c1
       try clear c2
       try clear p2
       try clear c6
       try clear c12
       try clear c13
       try clear c13b0
       try clear c13b1
       try clear c14
       try clear c14b0
       try clear c14b1
       try clear c15
       try clear hcz10_0
       try clear hcz10_1
       try clear hcz7_0
       try clear hcz7_1
       try clear hcz9_0
       try clear hcz9_1
       try clear hfz10_0
       try clear hfz10_1
       try clear hfz7_0
       try clear hfz7_1
       try clear hfz9_0
       try clear hfz9_1
       try clear p2
       obtain ⟨x6_2,x25_2,rfl,HA,HK2,HO_6,BK182,HB⟩:=hrel
       cases gk with
       |zero=>exact absurd HA.out (by simp [Ag.l0])
       | succ k2 =>
        have H:=HA.out
        clear HA
        simp only [Ag.l0] at H
        by_cases c17:x25_2<(l1.length:Int)
        ·rw [if_pos c17] at H
         have c17b0:decide (x25_2<(l1.length:Int))=true:=decide_eq_true c17
         clear c17
         by_cases c18:0≤x25_2
         ·rw [if_pos c18] at H
          have c18b0:decide (0≤x25_2)=true:=decide_eq_true c18
          clear c18
          by_cases c19:x25_2<(l1.length:Int)
          ·rw [if_pos c19] at H
           have c19b0:decide (x25_2<(l1.length:Int))=true:=decide_eq_true c19
           clear c19
           by_cases c20:(rd l1 x25_2)<0
           ·rw [if_pos c20] at H
            have c20b0:decide ((rd l1 x25_2)<0)=true:=decide_eq_true c20
            clear c20
            simp only [Option.some.injEq,Prod.mk.injEq] at H
            obtain ⟨rfl,rfl⟩:=H
            have p187:0≤(x25_2:Int):=yD
            have q187:x25_2<(l1.length:Int):=yD
            obtain ⟨ad187,e187,hx187_0⟩:=Kd.at_int HR1.out x25_2 p187 q187
            cases e187
            replace hx187_0:=yC HB.out hx187_0
            replace p187:=eq_true p187
            replace q187:=eq_true q187
            go_wp2
            go_ret2
            exact ⟨_,by first|rfl|(simp [AY,AX]<;>rfl)|(simp [*,AY,AX]<;>rfl),by first|exact Kd.R_nil _ _ _ _ _|exact Kd.N_nil _ _ _ _ _|exact Kd.V_nil _ _ _ _ _|exact Kd.Q_nil _ _ _ _ _|exact Kd.S_nil _ _ _ _ _,by repeat (first|(with_reducible first|exact HB.out|apply AE|apply AC|apply AD|refine AI ?_ GE182.out)|exact HB.out)⟩
           ·rw [if_neg c20] at H
            have c20b0:decide ((rd l1 x25_2)<0)=false:=decide_eq_false c20
            clear c20
            by_cases c21:(rd l1 x25_2)≥(l1.length:Int)
            ·rw [if_pos c21] at H
             have c21b0:decide ((l1.length:Int)≤(rd l1 x25_2))=true:=decide_eq_true c21
             clear c21
             simp only [Option.some.injEq,Prod.mk.injEq] at H
             obtain ⟨rfl,rfl⟩:=H
             have p187:0≤(x25_2:Int):=yD
             have q187:x25_2<(l1.length:Int):=yD
             obtain ⟨ad187,e187,hx187_0⟩:=Kd.at_int HR1.out x25_2 p187 q187
             cases e187
             replace hx187_0:=yC HB.out hx187_0
             replace p187:=eq_true p187
             replace q187:=eq_true q187
             go_wp2
             go_ret2
             exact ⟨_,by first|rfl|(simp [AY,AX]<;>rfl)|(simp [*,AY,AX]<;>rfl),by first|exact Kd.R_nil _ _ _ _ _|exact Kd.N_nil _ _ _ _ _|exact Kd.V_nil _ _ _ _ _|exact Kd.Q_nil _ _ _ _ _|exact Kd.S_nil _ _ _ _ _,by repeat (first|(with_reducible first|exact HB.out|apply AE|apply AC|apply AD|refine AI ?_ GE182.out)|exact HB.out)⟩
            ·rw [if_neg c21] at H
             have c21b0:decide ((l1.length:Int)≤(rd l1 x25_2))=false:=decide_eq_false c21
             clear c21
             by_cases c22:0≤(rd l1 x25_2)
             ·rw [if_pos c22] at H
              have c22b0:decide (0≤(rd l1 x25_2))=true:=decide_eq_true c22
              clear c22
              by_cases c23:(rd l1 x25_2)<(x6_2.length:Int)
              ·rw [if_pos c23] at H
               have c23b0:decide ((rd l1 x25_2)<(x6_2.length:Int))=true:=decide_eq_true c23
               clear c23
               obtain ⟨bq24,hbq24⟩:∃b_:Bool,b_=(rdOf false x6_2 (rd l1 x25_2)):=⟨_,rfl⟩
               replace H:(if bq24=true then (some (([]:List (S47)),1)) else (Ag.l0 k2 l1 (x6_2.set ((rd l1 x25_2):Int).toNat true) l1 (l1.length:Int) (wrap64 (x25_2+1)) A8 l0_1))=some (r1,r2):=by rw [←hbq24] at H; exact H
               have Nbq24:=yA hbq24
               clear hbq24
               by_cases c25:bq24=true
               ·subst c25
                have H1:(some (([]:List (S47)),1))=some (r1,r2):=by rw [if_pos rfl] at H; exact H
                clear H
                have H:=H1
                clear H1
                simp only [Option.some.injEq,Prod.mk.injEq] at H
                obtain ⟨rfl,rfl⟩:=H
                have p187:0≤(x25_2:Int):=yD
                have q187:x25_2<(l1.length:Int):=yD
                obtain ⟨ad187,e187,hx187_0⟩:=Kd.at_int HR1.out x25_2 p187 q187
                cases e187
                replace hx187_0:=yC HB.out hx187_0
                replace p187:=eq_true p187
                replace q187:=eq_true q187
                obtain ⟨Ao26,co26,eo26⟩:=Kd.R_slice HO_6.out
                subst eo26
                have p188:0≤((rd l1 x25_2):Int):=yD
                have q188:(rd l1 x25_2)<(x6_2.length:Int):=yD
                obtain ⟨ad188,e188,hx188_0⟩:=Kd.at_bool (Kd.R_reads' HO_6.out).2.2 (rd l1 x25_2) p188 q188
                (try rw [←Nbq24.out] at hx188_0)
                cases e188
                replace p188:=eq_true p188
                replace q188:=eq_true q188
                go_wp2
                go_ret2
                exact ⟨_,by first|rfl|(simp [AY,AX]<;>rfl)|(simp [*,AY,AX]<;>rfl),by first|exact Kd.R_nil _ _ _ _ _|exact Kd.N_nil _ _ _ _ _|exact Kd.V_nil _ _ _ _ _|exact Kd.Q_nil _ _ _ _ _|exact Kd.S_nil _ _ _ _ _,by repeat (first|(with_reducible first|exact HB.out|apply AE|apply AC|apply AD|refine AI ?_ GE182.out)|exact HB.out)⟩
               ·replace c25:=Bool.eq_false_iff.mpr c25
                subst c25
                have H1:(Ag.l0 k2 l1 (x6_2.set ((rd l1 x25_2):Int).toNat true) l1 (l1.length:Int) (wrap64 (x25_2+1)) A8 l0_1)=some (r1,r2):=by rw [if_neg (show ¬(false=true) by decide)] at H; exact H
                clear H
                have H:=H1
                clear H1
                obtain ⟨y189,hy189⟩:∃y_:List Bool,y_=(x6_2.set ((rd l1 x25_2):Int).toNat true):=⟨_,rfl⟩
                replace H:(Ag.l0 k2 l1 y189 l1 (l1.length:Int) (wrap64 (x25_2+1)) A8 l0_1)=some (r1,r2):=by first|(rw [hy189]; with_reducible exact H)|(have H2_:=(Option.bind_some _ _).symm.trans H; rw [hy189]; with_reducible exact H2_)|(have H2_:=(Option.bind_some _ _).symm.trans H; with_reducible exact H2_)|with_reducible exact H|(rw [hy189]; exact H)|exact H
                have Ny189:=yA hy189
                clear hy189
                have H':=yA H
                clear H
                have p187:0≤(x25_2:Int):=yD
                have q187:x25_2<(l1.length:Int):=yD
                obtain ⟨ad187,e187,hx187_0⟩:=Kd.at_int HR1.out x25_2 p187 q187
                cases e187
                replace hx187_0:=yC HB.out hx187_0
                replace p187:=eq_true p187
                replace q187:=eq_true q187
                obtain ⟨Ao28,co28,eo28⟩:=Kd.R_slice HO_6.out
                subst eo28
                have p188:0≤((rd l1 x25_2):Int):=yD
                have q188:(rd l1 x25_2)<(x6_2.length:Int):=yD
                obtain ⟨ad188,e188,hx188_0⟩:=Kd.at_bool (Kd.R_reads' HO_6.out).2.2 (rd l1 x25_2) p188 q188
                (try rw [←Nbq24.out] at hx188_0)
                cases e188
                replace p188:=eq_true p188
                replace q188:=eq_true q188
                have p27:0≤((rd l1 x25_2):Int):=yD
                have q27:((rd l1 x25_2):Int)<((x6_2.length:Int):Int):=yD
                obtain ⟨go27,co27,eo27,gb27,gl27,cl27,HG27⟩:=Kd.R_form HO_6.out zE
                (first|cases eo27|(injection eo27 with ea_ en_ ec_; (first|subst ea_|(injection ea_ with ea_; subst ea_)); subst ec_; clear en_))
                have GB27:=yA gb27
                have GG27:=yA HG27
                clear gb27 gl27 HG27
                (first|simp only [Bq] at hx188_0|skip)
                obtain ⟨hx27_0,hf27_0⟩:=Kd.R_celln false HO_6.out ((rd l1 x25_2):Int) p27 q27
                replace p27:=eq_true p27
                replace q27:=eq_true q27
                have HP29:=Kd.R_putg HO_6.out ((rd l1 x25_2):Int) true
                go_wp2_with (first|((with_reducible refine BS (t:=4) (p:=45) rfl ?_); refine BP (t:=4) (p:=45) (v:= ?vo_w30) (w1:=(wr.setCell ⟨go27,((rd l1 x25_2):Int).toNat,none⟩ (.bool true))) ?hg ?ho ?hn ?hr ?_; (case ho=>rfl); (case hg=>rfl); (case hn=>rfl); (case hr=>first|(go_simp; done)|(go_simp; rfl)); intro w30 hw; have hg:wr.grownBy w30 (some go27):=(by rw [hw]; exact HP29.2); have hp_:Kd.R Kd.bool 4 w30 w.heap.size (fun _=>True) (.slice (some ⟨go27,0,none⟩) x6_2.length co28) y189:=(by rw [hw,Ny189.out]; exact HP29.1); clear HP29; have n0_:=yA (hp_); have n1_:=yA (BJ (g:=gb182) (o:= .cells #[.int .i64 A8,.slice A0_1 l0_1.length c0_1] 34 (0,0)) (by (with_reducible repeat (first|refine AF ?_ _|refine AH ?_|refine AG ?_ _)); exact BK182.out) hg (Kd.R_ne HO_6.out BK182.out zA0)); have n2_:=yA ((by rw [hw]; exact AI (HB.out) GB27.out:Below w.heap.size w w30)); clear HO_6; clear BK182; clear HB; have HO_6:=n0_; have BK182:=n1_; have HB:=n2_; clear n0_ n1_ n2_; clear hg hw hp_))
                go_roundg k2
                case measure=>have:=HJ2.out; have:=HK2.out; omega
                case rel=>exact ⟨(y189),(wrap64 (x25_2+1)),zH,H',⟨by have:=HJ2.out; have:=HK2.out; omega⟩,⟨by (with_reducible repeat (first|apply Kd.R_alloc|apply Kd.R_drewN|apply Kd.R_drew)); exact HO_6.out⟩,⟨by (with_reducible repeat (first|refine AF ?_ _|refine AH ?_|refine AG ?_ _)); exact BK182.out⟩,⟨by repeat (first|(with_reducible first|exact HB.out|apply AE|apply AC|apply AD|refine AI ?_ GE182.out)|exact HB.out)⟩⟩
              ·rw [if_neg c23] at H
               exact absurd H zA5
             ·rw [if_neg c22] at H
              exact absurd H zA5
          ·rw [if_neg c19] at H
           exact absurd H zA5
         ·rw [if_neg c18] at H
          exact absurd H zA5
        ·rw [if_neg c17] at H
         have c17b0:decide (x25_2<(l1.length:Int))=false:=decide_eq_false c17
         clear c17
         replace H:=Option.bind_eq_some_iff.mp H
         obtain ⟨t190,A310,H⟩:=H
         replace H:(some (t190,0))=some (r1,r2):=H
         have A31:=yA A310
         clear A310
         simp only [Option.some.injEq,Prod.mk.injEq] at H
         obtain ⟨rfl,rfl⟩:=H
         have hcz32_0:wr.cell? ⟨gb182,0,none⟩=some (.int .i64 A8):=(AK BK182.out 0).trans rfl
         have hcz32_1:wr.cell? ⟨gb182,1,none⟩=some (.slice A0_1 l0_1.length c0_1):=(AK BK182.out 1).trans rfl
         have hfz32_0:=AJ BK182.out 0
         have hfz32_1:=AJ BK182.out 1
         go_wp2_with (first|((with_reducible refine Ae (f:=31) rfl ?_); refine B6 (some 49) rfl rfl Try.func31 zI rfl #[.agg #[.int .i64 A8,.slice A0_1 l0_1.length c0_1],.slice A1 l1.length c1] rfl zD ?_; (with_reducible refine (Ac.calls k2 A8 _ _ l0_1 _ _ l1 t190 _ ?side1 ?side2 ?side3 ?side4 A31.out).mono ?_); (case side1=>repeat (first|exact (Kd.C_below HR0_1.out HB.out)|(with_reducible refine Kd.C_alloc ?_ _)|(with_reducible refine Kd.C_drewN ?_ _)|(with_reducible refine Kd.C_drew ?_))); (case side2=>exact HC0_1.out); (case side3=>repeat (first|exact (Kd.C_below HR1.out HB.out)|(with_reducible refine Kd.C_alloc ?_ _)|(with_reducible refine Kd.C_drewN ?_ _)|(with_reducible refine Kd.C_drew ?_))); (case side4=>exact HC1.out); rintro e w33 ⟨v191,rfl,ho0,hb⟩; refine ⟨_,rfl,?_⟩; have n0_:=yA (Kd.R_below zA9 hb); have n1_:=yA (Kd.R_lower ho0 (AQ zC4)); have n2_:=yA (AP (g:=gb182) (o:= .cells #[.int .i64 A8,.slice A0_1 l0_1.length c0_1] 34 (0,0)) (by (with_reducible repeat (first|refine AF ?_ _|refine AH ?_|refine AG ?_ _)); exact BK182.out) hb); have n3_:=yA (AO zC4 hb); clear HO_6; clear BK182; clear HB; have HO_6:=n0_; have HO192:=n1_; have BK182:=n2_; have HB:=n3_; clear n0_ n1_ n2_ n3_; (try clear hb); (try clear hb2); (try clear hk); (try clear hi); (try clear ho0)))
         go_ret2
         exact ⟨_,by first|rfl|(simp [AY,AX]<;>rfl)|(simp [*,AY,AX]<;>rfl),by (with_reducible repeat (first|apply Kd.R_alloc|apply Kd.R_drewN|apply Kd.R_drew)); exact HO192.out,by repeat (first|(with_reducible first|exact HB.out|apply AE|apply AC|apply AD|refine AI ?_ GE182.out)|exact HB.out)⟩
     ·rw [if_neg c14] at H
      exact absurd H zA5
    ·rw [if_neg c13] at H
     exact absurd H zA5
end Go.Proofs.Ytdadecjefafflaa.PLst
end
section
namespace Go.Proofs.Ytdadecjefafflaa.PLst
set_option maxRecDepth 100000
open Go.RowKit Go.Proofs.YtdadecjefafflaaW.PrintWords Go.Proofs.YtdadecjefafflaaW.PrintLast Go.Proofs.YtdadecjefafflaaW.PrintMore
attribute [local go_sem] Bd Bb Bm Bk BU BT Bc Ba
def Aj.l0:Nat→List (S47)→Int→Int→Int→Int→List (S64)→Option (Int)
 |0,_,_,_,_,_,_=>none
 |k+1,x1,x5,x20,x21,x194000,x194001=>if x21<x20 then ((BB.f x194000 x194001 x1 x21).bind fun t196=>(if 0≤x21 then (if x21<(x194001.length:Int) then (Aj.l0 k x1 (mx x5 (wrap64 (t196-((AM x194001 x21).f2)))) x20 (wrap64 (x21+1)) x194000 x194001) else (none)) else (none))) else (some x5)
def Aj.f (k:Nat) (A8:Int) (l0_1:List (S64)) (l1:List (S47)):Option (Int):=if (l1.length:Int)=0 then (some 0) else ((BB.f A8 l0_1 l1 0).bind fun t194=>(if 0<(l0_1.length:Int) then (Aj.l0 k l1 (wrap64 (t194-((AM l0_1 0).f2))) (l1.length:Int) 0 A8 l0_1) else (none)))
theorem Aj.mono_l:∀k,(∀y0 y1 y2 y3 y4 y5,LeO (Aj.l0 k y0 y1 y2 y3 y4 y5) (Aj.l0 (k+1) y0 y1 y2 y3 y4 y5))
 |0=>fun _ _ _ _ _ _ r h=>by simp [Aj.l0] at h
 | k +1=>by
  have ih0:=Aj.mono_l k
  ·intro y0 y1 y2 y3 y4 y5
   unfold Aj.l0
   repeat' first
   |(with_reducible exact ih0 _ _ _ _ _ _)
   |(with_reducible exact LeO.refl _)
   |(with_reducible exact LeO.none _)
   |(with_reducible refine LeO.ite ?_ ?_)
   |(with_reducible refine LeO.bind ?_ (fun _=> ?_))
   |exact ih0 _ _ _ _ _ _
   |exact LeO.none _
   |refine LeO.ite ?_ ?_
   |refine LeO.bind ?_ (fun _=> ?_)
theorem Aj.mono:∀a0 a1 a2 k,LeO (Aj.f k a0 a1 a2) (Aj.f (k+1) a0 a1 a2):=by
 intro a0 a1 a2 k
 have ih0:=Aj.mono_l k
 unfold Aj.f
 repeat' first
  |(with_reducible exact ih0 _ _ _ _ _ _)
  |(with_reducible exact LeO.refl _)
  |(with_reducible exact LeO.none _)
  |(with_reducible refine LeO.ite ?_ ?_)
  |(with_reducible refine LeO.bind ?_ (fun _=> ?_))
  |exact ih0 _ _ _ _ _ _
  |exact LeO.none _
  |refine LeO.ite ?_ ?_
  |refine LeO.bind ?_ (fun _=> ?_)
def Aj.T3:Bool×List (List Nat×List Nat):=(true,[([],[]),([],[]),([0,1],[0,1]),([],[]),([3],[3]),([4],[4]),([5],[5]),([6],[6]),([2,7],[2,7]),([8,2,0,1,2,3,4,5,6,7,8],[8])])
def Aj.B3:List Nat:=[0,0,3,0,8,24,56,120,255,511]
theorem Aj.tab3:rtab .any (Cx Try.f33 3)=Aj.T3:=by kernel_rfl
theorem Aj.bits3:C2 Aj.T3.2 Aj.B3=true:=by kernel_rfl
def Aj.T7:Bool×List (List Nat×List Nat):=(true,[([],[]),([],[]),([],[]),([],[]),([1,2,3],[1,2,3]),([],[]),([5],[5]),([],[]),([6,7],[6,7]),([8],[8]),([9],[9]),([4,10],[4,10]),([0,11],[0,11]),([12,4,0,1,2,3,4,5,6,7,8,9,10,11,12],[0,12])])
def Aj.B7:List Nat:=[0,0,0,0,14,0,32,0,224,480,992,2046,4095,8191]
theorem Aj.tab7:rtab .any (Cx Try.f33 7)=Aj.T7:=by kernel_rfl
theorem Aj.bits7:C2 Aj.T7.2 Aj.B7=true:=by kernel_rfl
set_option maxHeartbeats 8000000 in
theorem Aj.calls (k:Nat) (A8:Int) (A0_1:Option Addr) (c0_1:Nat) (l0_1:List (S64)) (A1:Option Addr) (c1:Nat) (l1:List (S47)) (r:Int) (w:World) (hr0_1:Kd.C k64 w A0_1 l0_1.length l0_1) (hc0_1:l0_1.length≤c0_1) (hr1:Kd.C k47 w A1 l1.length l1) (hc1:l1.length≤c1) (h:Aj.f k A8 l0_1 l1=some r):
  Calls Try.prog 33 #[.agg #[.int .i64 A8,.slice A0_1 l0_1.length c0_1],.slice A1 l1.length c1] w fun e w'=>e= .returned (.int .i64 r)∧Below w.heap.size w w':=by
 have hu34:=Try.underlying34
 have HR0_1:=yA hr0_1
 have HC0_1:=yA hc0_1
 clear hr0_1 hc0_1
 have HR1:=yA hr1
 have HC1:=yA hc1
 clear hr1 hc1
 have HB:=yA (Below.refl w.heap.size w)
 have H:(if (l1.length:Int)=0 then (some 0) else ((BB.f A8 l0_1 l1 0).bind fun t194=>(if 0<(l0_1.length:Int) then (Aj.l0 k l1 (wrap64 (t194-((AM l0_1 0).f2))) (l1.length:Int) 0 A8 l0_1) else (none))))=some r:=h
 clear h
 by_cases c3:(l1.length:Int)=0
 ·rw [if_pos c3] at H
  have c3b0:((l1.length:Int)==0)=true:=beq_iff_eq.mpr c3
  have c3b1:((l1.length:Int) !=0)=false:=bne_eq_false_iff_eq.mpr c3
  clear c3
  obtain rfl:=Option.some.inj H
  go_enter Try.func33,Try.ntmps33
  go_wp2_with (first|((with_reducible refine Aq (N:=2) rfl ?_); refine Av ?hg (N:=2) ?hd (cs:= #[.int .i64 A8,.slice A0_1 l0_1.length c0_1]) (t:=34) ?hr ?_; (case hd=>rfl); (case hg=>rfl); (case hr=>first|(go_simp; done)|(go_simp; rfl)); intro gb193 hg w4 hbox hb; have n0_:=yA (AO zB hb); have n1_:=yA (hbox); have n2_:=yA ((by rw [hg]; exact (AQ zB):w.heap.size≤gb193)); have n3_:=yA ((by rw [hg]; exact (AQ zB):w.heap.size≤gb193)); clear HB; have HB:=n0_; have BK193:=n1_; have GW193:=n2_; have GE193:=n3_; clear n0_ n1_ n2_ n3_; clear hb hbox hg))
  go_ret
  exact ⟨by first|rfl|(simp [AY,AX]<;>rfl)|(simp [*,AY,AX]<;>rfl),by repeat (first|(with_reducible first|exact HB.out|apply AE|apply AC|apply AD|refine AI ?_ GE193.out)|exact HB.out)⟩
 ·rw [if_neg c3] at H
  have c3b0:((l1.length:Int)==0)=false:=beq_eq_false_iff_ne.mpr c3
  have c3b1:((l1.length:Int) !=0)=true:=bne_iff_ne.mpr c3
  have c3b2:¬(l1=[]):=fun h_=>c3 (by rw [h_]; rfl)
  replace H:=Option.bind_eq_some_iff.mp H
  obtain ⟨t194,A50,H⟩:=H
  replace H:(if 0<(l0_1.length:Int) then (Aj.l0 k l1 (wrap64 (t194-((AM l0_1 0).f2))) (l1.length:Int) 0 A8 l0_1) else (none))=some r:=H
  have A5:=yA A50
  clear A50
  by_cases c6:0<(l0_1.length:Int)
  ·rw [if_pos c6] at H
   have c6b0:decide (0<(l0_1.length:Int))=true:=decide_eq_true c6
   have c6b1:decide (0<l0_1.length)=true:=decide_eq_true zE
   clear c6
   have H':=yA H
   clear H
   go_enter Try.func33,Try.ntmps33
   try go_wp2_with (first|((with_reducible refine Aq (N:=2) rfl ?_); refine Av ?hg (N:=2) ?hd (cs:= #[.int .i64 A8,.slice A0_1 l0_1.length c0_1]) (t:=34) ?hr ?_; (case hd=>rfl); (case hg=>rfl); (case hr=>first|(go_simp; done)|(go_simp; rfl)); intro gb193 hg w7 hbox hb; have n0_:=yA (AO zB hb); have n1_:=yA (hbox); have n2_:=yA ((by rw [hg]; exact (AQ zB):w.heap.size≤gb193)); have n3_:=yA ((by rw [hg]; exact (AQ zB):w.heap.size≤gb193)); clear HB; have HB:=n0_; have BK193:=n1_; have GW193:=n2_; have GE193:=n3_; clear n0_ n1_ n2_ n3_; clear hb hbox hg))
   have n0_:=yA (AH BK193.out)
   have n1_:=yA (AD HB.out)
   clear BK193
   clear HB
   have BK193:=n0_
   have HB:=n1_
   clear n0_ n1_
   have p195:0≤(0:Int):=zE
   have q195:0<(l0_1.length:Int):=yD
   obtain ⟨ad195,A195_3,c195_3,e195,hx195_0,hx195_1,hx195_2,hx195_3,hl195_3,hi195_3⟩:=C6 HR0_1.out 0 p195 q195
   have hw195_3:=hx195_3
   (try rw [show ((0:Int)).toNat=0 from rfl] at hw195_3)
   (try rw [show 0*4=0 from rfl] at hw195_3)
   (try rw [Addr.add_zero'] at hw195_3)
   have hw195_2:=hx195_2
   (try rw [show ((0:Int)).toNat=0 from rfl] at hw195_2)
   (try rw [show 0*4=0 from rfl] at hw195_2)
   (try rw [Addr.add_zero'] at hw195_2)
   have hw195_1:=hx195_1
   (try rw [show ((0:Int)).toNat=0 from rfl] at hw195_1)
   (try rw [show 0*4=0 from rfl] at hw195_1)
   (try rw [Addr.add_zero'] at hw195_1)
   have hw195_0:=hx195_0
   (try rw [show ((0:Int)).toNat=0 from rfl] at hw195_0)
   (try rw [show 0*4=0 from rfl] at hw195_0)
   (try rw [Addr.add_zero'] at hw195_0)
   cases e195
   have qi195:(0<l0_1.length)=True:=eq_true zE
   (try rw [show ((0:Int)).toNat=0 from rfl] at hx195_0)
   (try rw [show 0*4=0 from rfl] at hx195_0)
   (try rw [Addr.add_zero'] at hx195_0)
   (try rw [show ((0:Int)).toNat=0 from rfl] at hx195_1)
   (try rw [show 0*4=0 from rfl] at hx195_1)
   (try rw [Addr.add_zero'] at hx195_1)
   (try rw [show ((0:Int)).toNat=0 from rfl] at hx195_2)
   (try rw [show 0*4=0 from rfl] at hx195_2)
   (try rw [Addr.add_zero'] at hx195_2)
   (try rw [show ((0:Int)).toNat=0 from rfl] at hx195_3)
   (try rw [show 0*4=0 from rfl] at hx195_3)
   (try rw [Addr.add_zero'] at hx195_3)
   replace hx195_0:=yC HB.out hx195_0
   replace hx195_1:=yC HB.out hx195_1
   replace hx195_2:=yC HB.out hx195_2
   replace hx195_3:=yC HB.out hx195_3
   have HR195_3:=yA hi195_3
   have HC195_3:=yA hl195_3
   clear hi195_3 hl195_3
   replace p195:=eq_true p195
   replace q195:=eq_true q195
   refine C8 (n:=10) (S:=fun w'=>w'.cell? ⟨gb193,0,none⟩=some (.int .i64 A8)∧w'.cell? ⟨gb193,1,none⟩=some (.slice (some ad195) l0_1.length c0_1)∧w'.cell? ad195=some (.string ((AM l0_1 0).f0))∧w'.cell? ⟨ad195.block,ad195.off+1,none⟩=some (.int .i64 ((AM l0_1 0).f1))∧w'.cell? ⟨ad195.block,ad195.off+2,none⟩=some (.int .i64 ((AM l0_1 0).f2))∧w'.cell? ⟨ad195.block,ad195.off+3,none⟩=some (.slice A195_3 ((AM l0_1 0).f3).length c195_3)) (ds:=[]) #[false,false,false,false,false,false,false,false,false,false] zI rfl rfl ⟨(AK BK193.out 0).trans rfl,(AK BK193.out 1).trans rfl,(yC HB.out hw195_0),(yC HB.out hw195_1),(yC HB.out hw195_2),(yC HB.out hw195_3)⟩ (fun hHeld=> ?_); refine Bn Aj.tab3 Aj.bits3 (fun HT_ HW_=> ?_)
   generalize w7.drew=w8 at BK193 HB HR195_3 hx195_0 hx195_1 hx195_2 hx195_3 hHeld ⊢
   refine At (i:=1) (N:=some 11) (v:= ?_) (a':= ?_) #[false,true,false,false,false,false,false,false,false,false] rfl rfl (Ai HT_.out zI) (fun _ _ _ h=>h) (Or.inl ⟨by rfl,?_⟩) ?_ ?_; rotate_left; intro w'; go_simp; with_reducible rfl; rotate_left; exact yB
   refine At (i:=3) (N:=some 13) (v:= ?_) (a':= ?_) #[false,true,false,true,false,false,false,false,false,false] rfl rfl (Ai HT_.out zI) (fun _ _ _ h=>h) (Or.inl ⟨by rfl,?_⟩) ?_ ?_; rotate_left; intro w'; go_simp; with_reducible rfl; rotate_left; exact yB
   refine BV (i:=0) (N:=some 10) (v:= ?_) (a':= ?_) #[true,true,false,true,false,false,false,false,false,false] rfl rfl (BF HT_.out HW_.out zI) (fun _ _ _ h=>h) (Or.inl ⟨by rfl,?_⟩) hHeld ?_ ?_; rotate_left; rintro w' ⟨s0,s1,s2,s3,s4,s5⟩; go_simp; with_reducible rfl; rotate_left; exact yB
   refine BV (i:=4) (N:=some 14) (v:= ?_) (a':= ?_) #[true,true,false,true,true,false,false,false,false,false] rfl rfl (BF HT_.out HW_.out zI) (fun _ _ _ h=>h) (Or.inl ⟨by rfl,?_⟩) hHeld ?_ ?_; rotate_left; rintro w' ⟨s0,s1,s2,s3,s4,s5⟩; go_simp; with_reducible rfl; rotate_left; exact yB
   refine At (i:=5) (N:=some 15) (v:= ?_) (a':= ?_) #[true,true,false,true,true,true,false,false,false,false] rfl rfl (Ai HT_.out zI) (fun _ _ _ h=>h) (Or.inl ⟨by rfl,?_⟩) ?_ ?_; rotate_left; intro w'; go_simp; with_reducible rfl; rotate_left; exact yB
   refine At (i:=6) (N:=some 16) (v:= ?_) (a':= ?_) #[true,true,false,true,true,true,true,false,false,false] rfl rfl (Ai HT_.out zI) (fun _ _ _ h=>h) (Or.inl ⟨by rfl,?_⟩) ?_ ?_; rotate_left; intro w'; go_simp; with_reducible rfl; rotate_left; exact yB
   refine BV (i:=7) (N:=some 17) (v:= ?_) (a':= ?_) #[true,true,false,true,true,true,true,true,false,false] rfl rfl (BF HT_.out HW_.out zI) (fun _ _ _ h=>h) (Or.inl ⟨by rfl,?_⟩) hHeld ?_ ?_; rotate_left; rintro w' ⟨s0,s1,s2,s3,s4,s5⟩; go_simp; with_reducible rfl; rotate_left; exact yB
   refine one_ (i:=2) (N:=some 12) #[true,true,true,true,true,true,true,true,false,false] rfl rfl (Bv HT_.out zI) zA0 (fun K hK=> ?_)
   refine Cy Try.func30 zI rfl #[.agg #[.int .i64 A8,.slice (some ad195) l0_1.length c0_1],.slice A1 l1.length c1,.int .i64 0] (by rfl) rfl rfl zD ?_
   with_reducible refine (BB.calls A8 _ _ l0_1 _ _ l1 0 t194 _ ?side1 ?side2 ?side3 ?side4 A5.out).mono ?_
   (case side1=>repeat (first|exact (Kd.C_below HR0_1.out HB.out)|(with_reducible refine Kd.C_alloc ?_ _)|(with_reducible refine Kd.C_drewN ?_ _)|(with_reducible refine Kd.C_drew ?_)))
   (case side2=>exact HC0_1.out)
   (case side3=>repeat (first|exact (Kd.C_below HR1.out HB.out)|(with_reducible refine Kd.C_alloc ?_ _)|(with_reducible refine Kd.C_drewN ?_ _)|(with_reducible refine Kd.C_drew ?_)))
   (case side4=>exact HC1.out)
   rintro e w9 ⟨rfl,hb⟩
   refine ⟨_,rfl,?_⟩
   have n0_:=yA (AP (g:=gb193) (o:= .cells #[.int .i64 A8,.slice (some ad195) l0_1.length c0_1] 34 (0,0)) (by (with_reducible repeat (first|refine AF ?_ _|refine AH ?_|refine AG ?_ _)); exact BK193.out) hb)
   have n1_:=yA (AO (by repeat (first|(with_reducible first|exact HB.out|apply AE|apply AC|apply AD|refine AI ?_ GE193.out)|exact HB.out)) hb)
   clear BK193
   clear HB
   have BK193:=n0_
   have HB:=n1_
   clear n0_ n1_
   (try clear hb)
   (try clear hb2)
   (try clear hk)
   (try clear hi)
   refine hK.out _ _ ⟨(AK BK193.out 0).trans rfl,(AK BK193.out 1).trans rfl,(yC HB.out hw195_0),(yC HB.out hw195_1),(yC HB.out hw195_2),(yC HB.out hw195_3)⟩ (fun hHeld=> ?_)
   clear hK K
   refine By (a':= ?_) ?_ ?_; rotate_left; show Act.put _ (some 12) _=_; exact yB
   refine At (i:=8) (N:=some 18) (v:= ?_) (a':= ?_) #[true,true,true,true,true,true,true,true,true,false] rfl rfl (Ai HT_.out zI) (fun _ _ _ h=>h) (Or.inl ⟨by rfl,?_⟩) ?_ ?_; rotate_left; intro w'; go_simp; with_reducible rfl; rotate_left; exact yB
   refine At (i:=9) (N:=some 5) (v:= ?_) (a':= ?_) #[true,true,true,true,true,true,true,true,true,true] rfl rfl (Ai HT_.out zI) (fun _ _ _ h=>h) (Or.inl ⟨by rfl,?_⟩) ?_ ?_; rotate_left; intro w'; go_simp; with_reducible rfl; rotate_left; exact yB
   refine CS (CC HT_.out zI) ?_
   try go_wp2
   go_loopg [5,21] k (fun kq v5 v21 w'=>∃(x5_1:Int) (x21_1:Int),v5= .int .i64 x5_1∧v21= .int .i64 x21_1∧Aside0 (Aj.l0 kq l1 x5_1 (l1.length:Int) x21_1 A8 l0_1=some r)∧Aside0 (kq≤k)∧Aside0 (w'.heap[gb193]? =some (.cells #[.int .i64 A8,(.slice (some ad195) l0_1.length c0_1)] 34 (0,0)))∧Aside0 (Below w.heap.size w w'))
   case atStart=>exact ⟨(wrap64 (t194-((AM l0_1 0).f2))),(0),zH,zH,H',⟨Nat.le_refl _⟩,⟨by (with_reducible repeat (first|refine AF ?_ _|refine AH ?_|refine AG ?_ _)); exact BK193.out⟩,⟨by repeat (first|(with_reducible first|exact HB.out|apply AE|apply AC|apply AD|refine AI ?_ GE193.out)|exact HB.out)⟩⟩
   case round=>
    clear H'
    try clear c1
    try clear p1
    try clear q1
    try clear hx1
    try clear qi1
    try clear p2
    try clear c3
    try clear c3b0
    try clear c3b1
    try clear c3b2
    try clear c6
    try clear c6b0
    try clear c6b1
    try clear p6
    try clear hx195_0
    try clear hx195_1
    try clear hx195_2
    try clear hx195_3
    try clear p195
    try clear q195
    obtain ⟨x5_1,x21_1,rfl,rfl,HA,HK1,BK193,HB⟩:=hrel
    cases gk with
    |zero=>exact absurd HA.out (by simp [Aj.l0])
    | succ k1 =>
     have H:=HA.out
     clear HA
     simp only [Aj.l0] at H
     by_cases c10:x21_1<(l1.length:Int)
     ·rw [if_pos c10] at H
      have c10b0:decide (x21_1<(l1.length:Int))=true:=decide_eq_true c10
      clear c10
      replace H:=Option.bind_eq_some_iff.mp H
      obtain ⟨t196,A110,H⟩:=H
      replace H:(if 0≤x21_1 then (if x21_1<(l0_1.length:Int) then (Aj.l0 k1 l1 (mx x5_1 (wrap64 (t196-((AM l0_1 x21_1).f2)))) (l1.length:Int) (wrap64 (x21_1+1)) A8 l0_1) else (none)) else (none))=some r:=H
      have A11:=yA A110
      clear A110
      by_cases c12:0≤x21_1
      ·rw [if_pos c12] at H
       have c12b0:decide (0≤x21_1)=true:=decide_eq_true c12
       clear c12
       by_cases c13:x21_1<(l0_1.length:Int)
       ·rw [if_pos c13] at H
        have c13b0:decide (x21_1<(l0_1.length:Int))=true:=decide_eq_true c13
        clear c13
        obtain ⟨ji14,hji14⟩:∃j_:Int,(mx x5_1 (wrap64 (t196-((AM l0_1 x21_1).f2))))=j_:=⟨_,rfl⟩
        replace H:(Aj.l0 k1 l1 ji14 (l1.length:Int) (wrap64 (x21_1+1)) A8 l0_1)=some r:=by first|(rw [hji14] at H; exact H)|(simp only [hji14] at H ⊢; exact H)
        (try rw [hji14] at A11)
        have hji14_:(if x5_1<(wrap64 (t196-((AM l0_1 x21_1).f2))) then (wrap64 (t196-((AM l0_1 x21_1).f2))) else x5_1)=ji14:=hji14
        have H':=yA H
        clear H
        try go_wp2
        have n0_:=yA (AH BK193.out)
        have n1_:=yA (AD HB.out)
        clear BK193
        clear HB
        have BK193:=n0_
        have HB:=n1_
        clear n0_ n1_
        have p197:0≤(x21_1:Int):=yD
        have q197:x21_1<(l0_1.length:Int):=yD
        obtain ⟨ad197,A197_3,c197_3,e197,hx197_0,hx197_1,hx197_2,hx197_3,hl197_3,hi197_3⟩:=C6 HR0_1.out x21_1 p197 q197
        have hw197_3:=hx197_3
        have hw197_2:=hx197_2
        have hw197_1:=hx197_1
        have hw197_0:=hx197_0
        obtain rfl:ad195=ad197:=(by injection e197)
        replace hx197_0:=yC HB.out hx197_0
        replace hx197_1:=yC HB.out hx197_1
        replace hx197_2:=yC HB.out hx197_2
        replace hx197_3:=yC HB.out hx197_3
        have HR197_3:=yA hi197_3
        have HC197_3:=yA hl197_3
        clear hi197_3 hl197_3
        replace p197:=eq_true p197
        replace q197:=eq_true q197
        refine C8 (n:=14) (S:=fun w'=>w'.cell? ⟨gb193,0,none⟩=some (.int .i64 A8)∧w'.cell? ⟨gb193,1,none⟩=some (.slice (some ad195) l0_1.length c0_1)∧w'.cell? (ad195.add ((x21_1).toNat*4))=some (.string ((AM l0_1 x21_1).f0))∧w'.cell? ⟨(ad195.add ((x21_1).toNat*4)).block,(ad195.add ((x21_1).toNat*4)).off+1,none⟩=some (.int .i64 ((AM l0_1 x21_1).f1))∧w'.cell? ⟨(ad195.add ((x21_1).toNat*4)).block,(ad195.add ((x21_1).toNat*4)).off+2,none⟩=some (.int .i64 ((AM l0_1 x21_1).f2))∧w'.cell? ⟨(ad195.add ((x21_1).toNat*4)).block,(ad195.add ((x21_1).toNat*4)).off+3,none⟩=some (.slice A197_3 ((AM l0_1 x21_1).f3).length c197_3)) (ds:=[]) #[false,false,false,false,false,false,false,false,false,false,false,false,false,false] zI rfl rfl ⟨(AK BK193.out 0).trans rfl,(AK BK193.out 1).trans rfl,(yC HB.out hw197_0),(yC HB.out hw197_1),(yC HB.out hw197_2),(yC HB.out hw197_3)⟩ (fun hHeld=> ?_); refine Bn Aj.tab7 Aj.bits7 (fun HT_ HW_=> ?_)
        generalize wr.drew=w15 at BK193 HB HR197_3 hx197_0 hx197_1 hx197_2 hx197_3 hHeld ⊢
        refine At (i:=0) (N:=some 24) (v:= ?_) (a':= ?_) #[true,false,false,false,false,false,false,false,false,false,false,false,false,false] rfl rfl (Ai HT_.out zI) (fun _ _ _ h=>h) (Or.inl ⟨by rfl,?_⟩) ?_ ?_; rotate_left; intro w'; go_simp; with_reducible rfl; rotate_left; exact yB
        refine At (i:=2) (N:=some 26) (v:= ?_) (a':= ?_) #[true,false,true,false,false,false,false,false,false,false,false,false,false,false] rfl rfl (Ai HT_.out zI) (fun _ _ _ h=>h) (Or.inl ⟨by rfl,?_⟩) ?_ ?_; rotate_left; intro w'; go_simp; with_reducible rfl; rotate_left; exact yB
        refine At (i:=3) (N:=some 27) (v:= ?_) (a':= ?_) #[true,false,true,true,false,false,false,false,false,false,false,false,false,false] rfl rfl (Ai HT_.out zI) (fun _ _ _ h=>h) (Or.inl ⟨by rfl,?_⟩) ?_ ?_; rotate_left; intro w'; go_simp; with_reducible rfl; rotate_left; exact yB
        refine At (i:=5) (N:=some 29) (v:= ?_) (a':= ?_) #[true,false,true,true,false,true,false,false,false,false,false,false,false,false] rfl rfl (Ai HT_.out zI) (fun _ _ _ h=>h) (Or.inl ⟨by rfl,?_⟩) ?_ ?_; rotate_left; intro w'; go_simp; with_reducible rfl; rotate_left; exact yB
        refine At (i:=7) (N:=some 31) (v:= ?_) (a':= ?_) #[true,false,true,true,false,true,false,true,false,false,false,false,false,false] rfl rfl (Ai HT_.out zI) (fun _ _ _ h=>h) (Or.inl ⟨by rfl,?_⟩) ?_ ?_; rotate_left; intro w'; go_simp; with_reducible rfl; rotate_left; exact yB
        refine BV (i:=1) (N:=some 25) (v:= ?_) (a':= ?_) #[true,true,true,true,false,true,false,true,false,false,false,false,false,false] rfl rfl (BF HT_.out HW_.out zI) (fun _ _ _ h=>h) (Or.inl ⟨by rfl,?_⟩) hHeld ?_ ?_; rotate_left; rintro w' ⟨s0,s1,s2,s3,s4,s5⟩; go_simp; with_reducible rfl; rotate_left; exact yB
        refine BV (i:=6) (N:=some 30) (v:= ?_) (a':= ?_) #[true,true,true,true,false,true,true,true,false,false,false,false,false,false] rfl rfl (BF HT_.out HW_.out zI) (fun _ _ _ h=>h) (Or.inl ⟨by rfl,?_⟩) hHeld ?_ ?_; rotate_left; rintro w' ⟨s0,s1,s2,s3,s4,s5⟩; go_simp; with_reducible rfl; rotate_left; exact yB
        refine At (i:=8) (N:=some 32) (v:= ?_) (a':= ?_) #[true,true,true,true,false,true,true,true,true,false,false,false,false,false] rfl rfl (Ai HT_.out zI) (fun _ _ _ h=>h) (Or.inl ⟨by rfl,?_⟩) ?_ ?_; rotate_left; intro w'; go_simp; with_reducible rfl; rotate_left; exact yB
        refine At (i:=9) (N:=some 33) (v:= ?_) (a':= ?_) #[true,true,true,true,false,true,true,true,true,true,false,false,false,false] rfl rfl (Ai HT_.out zI) (fun _ _ _ h=>h) (Or.inl ⟨by rfl,?_⟩) ?_ ?_; rotate_left; intro w'; go_simp; with_reducible rfl; rotate_left; exact yB
        refine BV (i:=10) (N:=some 34) (v:= ?_) (a':= ?_) #[true,true,true,true,false,true,true,true,true,true,true,false,false,false] rfl rfl (BF HT_.out HW_.out zI) (fun _ _ _ h=>h) (Or.inl ⟨by rfl,?_⟩) hHeld ?_ ?_; rotate_left; rintro w' ⟨s0,s1,s2,s3,s4,s5⟩; go_simp; with_reducible rfl; rotate_left; exact yB
        refine one_ (i:=4) (N:=some 28) #[true,true,true,true,true,true,true,true,true,true,true,false,false,false] rfl rfl (Bv HT_.out zI) zA0 (fun K hK=> ?_)
        refine Cy Try.func30 zI rfl #[.agg #[.int .i64 A8,.slice (some ad195) l0_1.length c0_1],.slice A1 l1.length c1,.int .i64 x21_1] (by rfl) rfl rfl zD ?_
        with_reducible refine (BB.calls A8 _ _ l0_1 _ _ l1 x21_1 t196 _ ?side1 ?side2 ?side3 ?side4 A11.out).mono ?_
        (case side1=>repeat (first|exact (Kd.C_below HR0_1.out HB.out)|(with_reducible refine Kd.C_alloc ?_ _)|(with_reducible refine Kd.C_drewN ?_ _)|(with_reducible refine Kd.C_drew ?_)))
        (case side2=>exact HC0_1.out)
        (case side3=>repeat (first|exact (Kd.C_below HR1.out HB.out)|(with_reducible refine Kd.C_alloc ?_ _)|(with_reducible refine Kd.C_drewN ?_ _)|(with_reducible refine Kd.C_drew ?_)))
        (case side4=>exact HC1.out)
        rintro e w16 ⟨rfl,hb⟩
        refine ⟨_,rfl,?_⟩
        have n0_:=yA (AP (g:=gb193) (o:= .cells #[.int .i64 A8,.slice (some ad195) l0_1.length c0_1] 34 (0,0)) (by (with_reducible repeat (first|refine AF ?_ _|refine AH ?_|refine AG ?_ _)); exact BK193.out) hb)
        have n1_:=yA (AO (by repeat (first|(with_reducible first|exact HB.out|apply AE|apply AC|apply AD|refine AI ?_ GE193.out)|exact HB.out)) hb)
        clear BK193
        clear HB
        have BK193:=n0_
        have HB:=n1_
        clear n0_ n1_
        (try clear hb)
        (try clear hb2)
        (try clear hk)
        (try clear hi)
        refine hK.out _ _ ⟨(AK BK193.out 0).trans rfl,(AK BK193.out 1).trans rfl,(yC HB.out hw197_0),(yC HB.out hw197_1),(yC HB.out hw197_2),(yC HB.out hw197_3)⟩ (fun hHeld=> ?_)
        clear hK K
        refine By (a':= ?_) ?_ ?_; rotate_left; show Act.put _ (some 28) _=_; exact yB
        refine At (i:=11) (N:=some 35) (v:= ?_) (a':= ?_) #[true,true,true,true,true,true,true,true,true,true,true,true,false,false] rfl rfl (Ai HT_.out zI) (fun _ _ _ h=>h) (Or.inl ⟨by rfl,?_⟩) ?_ ?_; rotate_left; intro w'; go_simp; with_reducible rfl; rotate_left; exact yB
        refine At (i:=12) (N:=some 36) (v:= ?_) (a':= ?_) #[true,true,true,true,true,true,true,true,true,true,true,true,true,false] rfl rfl (Ai HT_.out zI) (fun _ _ _ h=>h) (Or.inl ⟨by rfl,?_⟩) ?_ ?_; rotate_left; intro w'; go_simp; with_reducible rfl; rotate_left; exact yB
        refine At (i:=13) (N:=some 5) (v:= ?_) (a':= ?_) #[true,true,true,true,true,true,true,true,true,true,true,true,true,true] rfl rfl (Ai HT_.out zI) (fun _ _ _ h=>h) (Or.inl ⟨by rfl,?_⟩) ?_ ?_; rotate_left; intro w'; go_simp; with_reducible rfl; rotate_left; exact yB
        refine CS (CC HT_.out zI) ?_
        try go_wp2
        go_roundg k1
        case measure=>have:=HK1.out; omega
        case rel=>exact ⟨(ji14),(wrap64 (x21_1+1)),(by first|rfl|(simp; done)|(simp only [←hji14]<;>(first|rfl|simp))|(simp [*]; done)),zH,H',⟨by have:=HK1.out; omega⟩,⟨by (with_reducible repeat (first|refine AF ?_ _|refine AH ?_|refine AG ?_ _)); exact BK193.out⟩,⟨by repeat (first|(with_reducible first|exact HB.out|apply AE|apply AC|apply AD|refine AI ?_ GE193.out)|exact HB.out)⟩⟩
       ·rw [if_neg c13] at H
        exact absurd H zA5
      ·rw [if_neg c12] at H
       exact absurd H zA5
     ·rw [if_neg c10] at H
      have c10b0:decide (x21_1<(l1.length:Int))=false:=decide_eq_false c10
      clear c10
      obtain rfl:=Option.some.inj H
      go_wp2
      go_ret
      exact ⟨by first|rfl|(simp [AY,AX]<;>rfl)|(simp [*,AY,AX]<;>rfl),by repeat (first|(with_reducible first|exact HB.out|apply AE|apply AC|apply AD|refine AI ?_ GE193.out)|exact HB.out)⟩
  ·rw [if_neg c6] at H
   exact absurd H zA5
def BX.f (l0:List Int):Option (List Int):=if (l0.length:Int)=0 then (some ([]:List Int)) else ((some (([]:List Int):List Int)).bind fun y198=>(if y198.length+l0.length<17592186044416 then (some (y198++l0)) else (none)))
set_option maxHeartbeats 8000000 in
theorem BX.calls (A0:Option Addr) (c0:Nat) (l0:List Int) (r:List Int) (w:World) (hr0:Kd.C (Kd.int .i64) w A0 l0.length l0) (hc0:l0.length≤c0) (h:BX.f l0=some r) (hz:l0.length=0→A0=none):
  Calls Try.prog 34 #[.slice A0 l0.length c0] w fun e w'=>∃v0_:Value,e= .returned (v0_)∧Kd.R (Kd.int .i64) 3 w' w.heap.size (fun _=>True) v0_ r∧Below w.heap.size w w':=by
 have HR0:=yA hr0
 have HC0:=yA hc0
 clear hr0 hc0
 have HB:=yA (Below.refl w.heap.size w)
 have H:(if (l0.length:Int)=0 then (some ([]:List Int)) else ((some (([]:List Int):List Int)).bind fun y198=>(if y198.length+l0.length<17592186044416 then (some (y198++l0)) else (none))))=some r:=h
 clear h
 by_cases c2:(l0.length:Int)=0
 ·rw [if_pos c2] at H
  obtain rfl:=hz zE
  have hen:=fun w=>Lib.run_eql_slice_nil (P:=Try.prog) w 26 3 none l0.length c0 0 0 Try.underlying26
  simp only [Option.isNone_none] at hen
  have c2b0:((l0.length:Int)==0)=true:=beq_iff_eq.mpr c2
  have c2b1:((l0.length:Int) !=0)=false:=bne_eq_false_iff_eq.mpr c2
  clear c2
  obtain rfl:=Option.some.inj H
  go_enter Try.func34,Try.ntmps34
  go_wp2
  go_ret
  exact ⟨_,by first|rfl|(simp [AY,AX]<;>rfl)|(simp [*,AY,AX]<;>rfl),by first|exact Kd.R_nil _ _ _ _ _|exact Kd.N_nil _ _ _ _ _|exact Kd.V_nil _ _ _ _ _|exact Kd.Q_nil _ _ _ _ _|exact Kd.S_nil _ _ _ _ _,by repeat (first|(with_reducible first|exact HB.out|apply AE|apply AC|apply AD)|exact HB.out)⟩
 ·rw [if_neg c2] at H
  obtain ⟨ad_,rfl,_⟩:=HR0.out.2.2 zE
  clear hz
  have hen:=fun w=>Lib.run_eql_slice_nil (P:=Try.prog) w 26 3 (some ad_) l0.length c0 0 0 Try.underlying26
  simp only [Option.isNone_some] at hen
  have c2b0:((l0.length:Int)==0)=false:=beq_eq_false_iff_ne.mpr c2
  have c2b1:((l0.length:Int) !=0)=true:=bne_iff_ne.mpr c2
  have c2b2:¬(l0=[]):=fun h_=>c2 (by rw [h_]; rfl)
  obtain ⟨y198,hy198⟩:∃y_:List Int,y_=(([]:List Int)):=⟨_,rfl⟩
  replace H:(if y198.length+l0.length<17592186044416 then (some (y198++l0)) else (none))=some r:=by first|(rw [hy198]; with_reducible exact H)|(have H2_:=(Option.bind_some _ _).symm.trans H; rw [hy198]; with_reducible exact H2_)|(have H2_:=(Option.bind_some _ _).symm.trans H; with_reducible exact H2_)|with_reducible exact H|(rw [hy198]; exact H)|exact H
  have Ny198:=yA hy198
  clear hy198
  by_cases c3:y198.length+l0.length<17592186044416
  ·rw [if_pos c3] at H
   have LMc3:=yA c3
   clear c3
   obtain ⟨y201,hy201⟩:∃y_:List Int,y_=(y198++l0):=⟨_,rfl⟩
   replace H:(some y201)=some r:=by first|(rw [hy201]; with_reducible exact H)|(have H2_:=(Option.bind_some _ _).symm.trans H; rw [hy201]; with_reducible exact H2_)|(have H2_:=(Option.bind_some _ _).symm.trans H; with_reducible exact H2_)|with_reducible exact H|(rw [hy201]; exact H)|exact H
   have Ny201:=yA hy201
   clear hy201
   obtain rfl:=Option.some.inj H
   go_enter Try.func34,Try.ntmps34
   go_wp2_with (first|((with_reducible refine Aq (N:=5) rfl ?_); refine Kd.R_lit (Kd.int .i64) _ 3 ?hg (N:=5) ?hd (xs:=([]:List Int)) (inner:=[]) (ok:=fun _=>True) (okp:=fun _=>True) ?hr ?hp (fun _ hk=>hk) trivial (Below.refl _ _) (Nat.le_refl _) zA5 ?_; (case hd=>rfl); (case hg=>rfl); (case hr=>first|(go_simp; done)|(go_simp; rfl)); (case hp=>exact (Reps.none _ _)); intro v199 w4 ho5 hb hg_ hnew_; clear hg_ hnew_; (first|rw [←Ny198.out] at ho5|(simp only [Int.reduceToNat] at ho5; rw [←Ny198.out] at ho5)); have n0_:=yA (Kd.R_lower ho5 (AQ zB)); have n1_:=yA (AO zB hb); clear HB; have HO200:=n0_; have HB:=n1_; clear n0_ n1_; clear hb ho5)|((with_reducible refine CB (b:= .append) (xs:= #[.tmp 5,.tmp 6]) rfl ?_); at_builtin; refine Kd.R_append_rows (Kd.int .i64) (w0:=w) w.heap.size rfl (.tmp 5) (.tmp 6) 26 3 (.int .i64 0) 8 rfl Try.underlying26 info3 rfl zA0 zE v199 y198 l0 _ _ _ (fun _=>True) (fun _=>False) rfl rfl ?aO ?aR (fun _ _ h=>h) (fun _ h=>h.elim) ?aF ?aB ?aS ?aL ?_; (case aR=>repeat (first|exact (Kd.C_below HR0.out HB.out)|(with_reducible refine Kd.C_alloc ?_ _)|(with_reducible refine Kd.C_drewN ?_ _)|(with_reducible refine Kd.C_drew ?_))); (case aB=>exact zB); (case aF=>exact (fun _ _=>trivial)); (case aO=>exact (by (with_reducible repeat (first|apply Kd.R_alloc|apply Kd.R_drewN|apply Kd.R_drew)); exact HO200.out)); (case aS=>exact (AQ zB)); (case aL=>have:=LMc3.out; omega); intro v202 w6 ho hb hg hat; rw [←Ny201.out] at ho; have n0_:=yA (hb); have n1_:=yA (ho); clear HB; clear HO200; have HB:=n0_; have HO203:=n1_; clear n0_ n1_; clear ho hb hg hat))
   go_ret
   exact ⟨_,by first|rfl|(simp [AY,AX]<;>rfl)|(simp [*,AY,AX]<;>rfl),by (with_reducible repeat (first|apply Kd.R_alloc|apply Kd.R_drewN|apply Kd.R_drew)); exact HO203.out,by repeat (first|(with_reducible first|exact HB.out|apply AE|apply AC|apply AD)|exact HB.out)⟩
  ·rw [if_neg c3] at H
   exact absurd H zA5
def BE.f (k:Nat) (l0:List Int) (a1:Int):Option (Bool):=(Ak.f k l0 a1).bind fun t204=>(some (decide (t204≥0)))
theorem BE.mono:∀a0 a1 k,LeO (BE.f k a0 a1) (BE.f (k+1) a0 a1):=by
 intro a0 a1 k
 unfold BE.f
 repeat' first
  |(with_reducible exact Ak.mono _ _ _)
  |(with_reducible exact LeO.refl _)
  |(with_reducible exact LeO.none _)
  |(with_reducible refine LeO.ite ?_ ?_)
  |(with_reducible refine LeO.bind ?_ (fun _=> ?_))
  |exact Ak.mono _ _ _
  |exact LeO.none _
  |refine LeO.ite ?_ ?_
  |refine LeO.bind ?_ (fun _=> ?_)
set_option maxHeartbeats 8000000 in
theorem BE.calls (k:Nat) (A0:Option Addr) (c0:Nat) (l0:List Int) (a1:Int) (r:Bool) (w:World) (hr0:Kd.C (Kd.int .i64) w A0 l0.length l0) (hc0:l0.length≤c0) (h:BE.f k l0 a1=some r):
  Calls Try.prog 35 #[.slice A0 l0.length c0,.int .i64 a1] w fun e w'=>e= .returned (.bool r)∧Drawn0 w w':=by
 have HR0:=yA hr0
 have HC0:=yA hc0
 clear hr0 hc0
 have H:((Ak.f k l0 a1).bind fun t204=>(some (decide (t204≥0))))=some r:=h
 clear h
 replace H:=Option.bind_eq_some_iff.mp H
 obtain ⟨t204,A30,H⟩:=H
 replace H:(some (decide (t204≥0)))=some r:=H
 have A3:=yA A30
 clear A30
 obtain rfl:=Option.some.inj H
 go_enter Try.func35,Try.ntmps35
 go_wp2_with (first|((with_reducible refine Ae (f:=53) rfl ?_); refine B6 (some 7) rfl rfl Try.func53 zI rfl #[.slice A0 l0.length c0,.int .i64 a1] rfl zD ?_; (with_reducible refine (Ak.calls k _ _ l0 a1 t204 _ ?side1 ?side2 A3.out).mono ?_); (case side1=>repeat (first|exact HR0.out|(with_reducible refine Kd.C_alloc ?_ _)|(with_reducible refine Kd.C_drewN ?_ _)|(with_reducible refine Kd.C_drew ?_))); (case side2=>exact HC0.out); rintro e w' ⟨rfl,⟨nd,rfl⟩⟩; refine ⟨_,rfl,?_⟩))
 go_ret
 exact ⟨by first|rfl|(simp; done)|(simp [*]; done),by repeat (first|exact Drawn0.refl _|apply Drawn0.step)⟩
end Go.Proofs.Ytdadecjefafflaa.PLst
end
section
namespace Go.Proofs.Ytdadecjefafflaa.PLst
set_option maxRecDepth 100000
open Go.RowKit Go.Proofs.YtdadecjefafflaaW.PrintWords Go.Proofs.YtdadecjefafflaaW.PrintLast Go.Proofs.YtdadecjefafflaaW.PrintMore
attribute [local go_sem] Bd Bb Bm Bk BU BT Bc Ba
abbrev BSt:=List Int×Int×Bool
def Eb (k:Nat) (l:List Int) (ext:List Int→BSt→Option BSt):Nat→Nat→BSt→Option BSt
 |0,_,st=>some st
 |r+1,i,st=>(BE.f k l i).bind fun b=>if b=true then Eb k l ext r (i+1) st else (ext (l++[(i:Int)]) st).bind fun st'=>Eb k l ext r (i+1) st'
def bExt (k:Nat) (m:Int) (ts:List S64) (n:Int):Nat→List Int→BSt→Option BSt
 |0,_,_=>none
 | d+1,l,st=>if (l.length:Int)=n then (Ac.f k m ts l).bind fun s=>(Aj.f k m ts s).bind fun x=>if (!st.2.2||decide (x<st.2.1))=true then (BX.f l).bind fun y=>some (y,x,true) else some st
  else Eb k l (bExt k m ts n d) n.toNat 0 st
def Du (k:Nat) (m:Int) (ts:List S64) (n:Int) (d:Nat) (l:List Int) (i r:Nat) (st:BSt):Option BSt:=Eb k l (bExt k m ts n d) r i st
theorem D3 (k:Nat) (m:Int) (ts:List S64) (n:Int) (d:Nat) (l:List Int) (i:Nat) (st:BSt):Du k m ts n d l i 0 st=some st:=rfl
theorem D4 (k:Nat) (m:Int) (ts:List S64) (n:Int) (d:Nat) (l:List Int) (i r:Nat) (st:BSt):Du k m ts n d l i (r+1) st=(BE.f k l i).bind fun b=>if b=true then Du k m ts n d l (i+1) r st else (bExt k m ts n d (l++[(i:Int)]) st).bind fun st'=>Du k m ts n d l (i+1) r st':=rfl
structure BCtx where
 m:Int
 A:Option Addr
 c:Nat
 ts:List S64
 n:Int
 gn:Nat
 gp:Nat
 gf:Nat
 gl:Nat
 go:Nat
 ge:Nat
def BCtx.caps (X:BCtx):Array Value:= #[.pointer (some ⟨X.gn,0,none⟩),.pointer (some ⟨X.gp,0,none⟩),.pointer (some ⟨X.gf,0,none⟩),.pointer (some ⟨X.gl,0,none⟩),.pointer (some ⟨X.go,0,none⟩),.pointer (some ⟨X.ge,0,none⟩)]
structure BInv (X:BCtx) (w0 W:World) (st:BSt):Prop where
 n:W.heap[X.gn]? =some (.cells #[.int .i64 X.n] 3 (0,0))
 p:W.heap[X.gp]? =some (.cells #[.int .i64 X.m,.slice X.A X.ts.length X.c] 34 (0,0))
 f:W.heap[X.gf]? =some (.cells #[.bool st.2.2] 4 (0,0))
 l:W.heap[X.gl]? =some (.cells #[.int .i64 st.2.1] 3 (0,0))
 o:∃vo,W.heap[X.go]? =some (.cells #[vo] 26 (0,0))∧Kd.R (Kd.int .i64) 3 W w0.heap.size (fun k=>k≠X.gn∧k≠X.gl) vo st.1
 e:W.heap[X.ge]? =some (.cells #[.func (.func 32) #[] X.caps] 69 (0,0))
 b:Below w0.heap.size w0 W
 nl:X.gn≠X.gl
 bf:w0.heap.size≤X.gf
 bl:w0.heap.size≤X.gl
 bo:w0.heap.size≤X.go
 ts:Kd.C k64 w0 X.A X.ts.length X.ts
 tc:X.ts.length≤X.c
def BCtx.S (X:BCtx) (k:Nat):Prop:=k=X.gf∨k=X.gl∨k=X.go
theorem BInv.below {X:BCtx} {w0 W V:World} {st:BSt} (h:BInv X w0 W st) (hb:Below W.heap.size W V):BInv X w0 V st:=by
 obtain ⟨vo,ho1,ho2⟩:=h.o
 exact ⟨AP h.n hb,AP h.p hb,AP h.f hb,AP h.l hb,⟨vo,AP ho1 hb,Kd.R_below ho2 hb⟩,AP h.e hb,C5 h.b h.b.size hb,h.nl,h.bf,h.bl,h.bo,h.ts,h.tc⟩
structure BL (X:BCtx) (W:World) (A:Option Addr) (c:Nat) (l:List Int):Prop where
 r:Kd.C (Kd.int .i64) W A l.length l
 cc:l.length≤c
 z:l.length=0→A=none∧c=0
 k:∀ad,A=some ad→¬X.S ad.block
theorem BL.kept {X:BCtx} {W V:World} {A:Option Addr} {c:Nat} {l:List Int} (h:BL X W A c l) (hk:Kept W V X.S):BL X V A c l:=
 ⟨Kd.C_foot_neS (fun h=>h) h.r (fun ad he _=>h.k ad he) V hk,h.cc,h.z,h.k⟩
theorem Co {W:World} {a b:Nat} {ca cb:Array Value} {ta tb:TypeId} (h1:W.heap[a]? =some (.cells ca ta (0,0))) (h2:W.heap[b]? =some (.cells cb tb (0,0))) (ht:ta≠tb):a≠b:=fun e=>by
 subst e; rw [h1] at h2; injection h2 with h2; injection h2 with _ h3; exact ht h3
theorem BInv.ne {X:BCtx} {w0 W:World} {st:BSt} (h:BInv X w0 W st):X.gf≠X.go∧X.gf≠X.gl∧X.gl≠X.go:=by
 obtain ⟨vo,ho1,ho2⟩:=h.o
 exact ⟨Co h.f ho1 zA0,Co h.f h.l zA0,Co h.l ho1 zA0⟩
theorem BInv.put {X:BCtx} {w0 W:World} {st:BSt} (h:BInv X w0 W st) {vy:Value} {y:List Int} (x:Int) (hy:Kd.R (Kd.int .i64) 3 W w0.heap.size (fun k=>k≠X.gn∧k≠X.gl∧k≠X.gf∧k≠X.go) vy y):
  BInv X w0 (((W.setCell ⟨X.go,0,none⟩ vy).setCell ⟨X.gl,0,none⟩ (.int .i64 x)).setCell ⟨X.gf,0,none⟩ (.bool true)) (y,x,true)∧Kept W (((W.setCell ⟨X.go,0,none⟩ vy).setCell ⟨X.gl,0,none⟩ (.int .i64 x)).setCell ⟨X.gf,0,none⟩ (.bool true)) X.S:=by
 obtain ⟨vo,ho1,ho2⟩:=h.o
 have hne:∀ {a b:Nat} {ca cb:Array Value} {ta tb:TypeId},W.heap[a]? =some (.cells ca ta (0,0))→W.heap[b]? =some (.cells cb tb (0,0))→ta≠tb→a≠b:=fun h1 h2 ht e=>by
  subst e; rw [h1] at h2; injection h2 with h2; injection h2 with _ h3; exact ht h3
 have e1:=hne h.n h.f zA0; have e2:=hne h.n ho1 zA0; have e3:=h.nl
 have e4:=hne h.p h.f zA0; have e5:=hne h.p ho1 zA0; have e6:=hne h.p h.l zA0
 have e7:=hne h.e h.f zA0; have e8:=hne h.e ho1 zA0; have e9:=hne h.e h.l zA0
 have f1:=hne h.f ho1 zA0; have f2:=hne h.f h.l zA0; have f3:=hne h.l ho1 zA0
 refine ⟨⟨?_,?_,?_,?_,⟨vy,?_,?_⟩,?_,?_,h.nl,h.bf,h.bl,h.bo,h.ts,h.tc⟩,?_⟩
 ·exact AV (AV (AV h.n e2 _) e3 _) e1 _
 ·exact AV (AV (AV h.p e5 _) e6 _) e4 _
 ·exact An (cs:= #[.bool st.2.2]) (AV (AV h.f f1 _) f2 _) 0 _ rfl
 ·exact AV (An (cs:= #[.int .i64 st.2.1]) (AV h.l f3 _) 0 _ rfl) (fun e=>f2 e.symm) _
 ·exact AV (AV (An (cs:= #[vo]) ho1 0 _ rfl) (fun e=>f3 e.symm) _) (fun e=>f1 e.symm) _
 ·exact Kd.R_mono (Kd.R_far (p:=⟨X.gf,0,none⟩) (Kd.R_far (p:=⟨X.gl,0,none⟩) (Kd.R_far (p:=⟨X.go,0,none⟩) hy (fun k hk=>hk.2.2.2) vy) (fun k hk=>hk.2.1) _) (fun k hk=>hk.2.2.1) _) (fun k hk=>⟨hk.1,hk.2.1⟩)
 ·exact AV (AV (AV h.e e8 _) e9 _) e7 _
 ·exact AI (AI (AI h.b h.bo) h.bl) h.bf
 ·exact Kept.setCell (Kept.setCell (Kept.setCell (Kept.refl W _) (.inl (.inr (.inr rfl))) _) (.inl (.inr (.inl rfl))) _) (.inl (.inl rfl)) _
def bLeaf (k:Nat) (m:Int) (ts:List S64) (l:List Int) (st:BSt):Option BSt:=(Ac.f k m ts l).bind fun s=>(Aj.f k m ts s).bind fun x=>if (!st.2.2||decide (x<st.2.1))=true then (BX.f l).bind fun y=>some (y,x,true) else some st
theorem GR (X:BCtx) (w0 W:World) (k:Nat) (l:List Int) (A:Option Addr) (c:Nat) (st st':BSt) (hI:BInv X w0 W st) (hL:BL X W A c l) (hn:(l.length:Int)=X.n) (h:bLeaf k X.m X.ts l st=some st'):
  Calls Try.prog 32 (#[.slice A l.length c]++X.caps) W fun e w'=>e= .returned (.tuple #[])∧BInv X w0 w' st'∧Kept W w' X.S:=by
 show Calls Try.prog 32 #[.slice A l.length c,.pointer (some ⟨X.gn,0,none⟩),.pointer (some ⟨X.gp,0,none⟩),.pointer (some ⟨X.gf,0,none⟩),.pointer (some ⟨X.gl,0,none⟩),.pointer (some ⟨X.go,0,none⟩),.pointer (some ⟨X.ge,0,none⟩)] W _
 unfold bLeaf at h
 rw [Option.bind_eq_some_iff] at h
 obtain ⟨s,hs,h⟩:=h
 rw [Option.bind_eq_some_iff] at h
 obtain ⟨x,hx,h⟩:=h
 have HI:=yA hI
 have HL:=yA hL
 have HS:=yA hs
 have HX:=yA hx
 have HH:=yA h
 have n0:W.cell? ⟨X.gn,0,none⟩=some (.int .i64 X.n):=(AK hI.n 0).trans rfl
 have c1:((l.length:Int)==X.n)=true:=beq_iff_eq.mpr hn
 clear hI hL hs hx h hn
 go_enter Try.func32,Try.ntmps32
 go_wp2
 refine C8 (n:=6) (S:=fun w'=>w'.cell? ⟨X.gp,0,none⟩=some (.int .i64 X.m)∧w'.cell? ⟨X.gp,1,none⟩=some (.slice X.A X.ts.length X.c)) (ds:=[]) #[false,false,false,false,false,false] zI rfl rfl ⟨(AK HI.out.p 0).trans rfl,(AK HI.out.p 1).trans rfl⟩ (fun hHeld=> ?_)
 have HI1:=yA (HI.out.below (AD (Below.refl _ _)))
 have HK:=yA (Kept.drew (Kept.refl W X.S))
 clear n0
 generalize W.drew=W1 at hHeld HI1 HK ⊢
 refine At (i:=2) (N:=some 16) (v:= ?_) (a':= ?_) #[false,false,true,false,false,false] rfl rfl zI (fun _ _ _ h=>h) (Or.inl ⟨by rfl,?_⟩) ?_ ?_; rotate_left; intro w'; go_simp; with_reducible rfl; rotate_left; exact yB
 refine BV (i:=0) (N:=some 14) (v:= ?_) (a':= ?_) #[true,false,true,false,false,false] rfl rfl zI (fun _ _ _ h=>h) (Or.inl ⟨by rfl,?_⟩) hHeld ?_ ?_; rotate_left; rintro w' ⟨s0,s1⟩; go_simp; with_reducible rfl; rotate_left; exact yB
 refine BV (i:=1) (N:=some 15) (v:= ?_) (a':= ?_) #[true,true,true,false,false,false] rfl rfl zI (fun _ _ _ h=>h) (Or.inl ⟨by rfl,?_⟩) hHeld ?_ ?_; rotate_left; rintro w' ⟨s0,s1⟩; go_simp; with_reducible rfl; rotate_left; exact yB
 refine one_ (i:=3) (N:=some 17) #[true,true,true,true,false,false] rfl rfl zI zA0 (fun K hK=> ?_)
 refine Cy Try.func31 zI rfl #[.agg #[.int .i64 X.m,.slice X.A X.ts.length X.c],.slice A l.length c] (by rfl) rfl rfl (by (try simp only [List.map_toArray,List.map_cons,List.map_nil]); first|done|rfl) ?_
 refine (Ac.calls k X.m X.A X.c X.ts A c l s W1 (Kd.C_below HI.out.ts HI1.out.b) HI.out.tc (HL.out.kept HK.out).r HL.out.cc HS.out).mono ?_
 rintro e W2 ⟨v1,rfl,ho,hb⟩
 refine ⟨_,rfl,?_⟩
 have HI2:=yA (HI1.out.below hb)
 have HK2:=yA (HK.out.below hb)
 have HO:=yA ho
 clear hb ho
 refine hK.out _ _ ⟨(AK HI2.out.p 0).trans rfl,(AK HI2.out.p 1).trans rfl⟩ (fun hHeld=> ?_)
 clear hK K
 refine By (a':= ?_) ?_ ?_; rotate_left; show Act.put _ (some 17) _=_; exact yB
 obtain ⟨As,cs,es⟩:=Kd.R_slice HO.out
 subst es
 refine one_ (i:=4) (N:=some 18) #[true,true,true,true,true,false] rfl rfl zI zA0 (fun K hK=> ?_)
 refine Cy Try.func33 zI rfl #[.agg #[.int .i64 X.m,.slice X.A X.ts.length X.c],.slice As s.length cs] (by rfl) rfl rfl (by (try simp only [List.map_toArray,List.map_cons,List.map_nil]); first|done|rfl) ?_
 refine (Aj.calls k X.m X.A X.c X.ts As cs s x W2 (Kd.C_below HI.out.ts HI2.out.b) HI.out.tc (Kd.R_reads' HO.out).2.2 (Kd.R_reads' HO.out).2.1 HX.out).mono ?_
 rintro e W3 ⟨rfl,hb⟩
 refine ⟨_,rfl,?_⟩
 have HI3:=yA (HI2.out.below hb)
 have HK3:=yA (HK2.out.below hb)
 clear hb
 refine hK.out _ _ ⟨(AK HI3.out.p 0).trans rfl,(AK HI3.out.p 1).trans rfl⟩ (fun hHeld=> ?_)
 clear hK K
 refine By (a':= ?_) ?_ ?_; rotate_left; show Act.put _ (some 18) _=_; exact yB
 refine At (i:=5) (N:=some 8) (v:= ?_) (a':= ?_) #[true,true,true,true,true,true] rfl rfl zI (fun _ _ _ h=>h) (Or.inl ⟨by rfl,?_⟩) ?_ ?_; rotate_left; intro w'; go_simp; with_reducible rfl; rotate_left; exact yB
 refine CS zI ?_
 clear HI1 HI2 HK HK2 HO
 have f0:W3.cell? ⟨X.gf,0,none⟩=some (.bool st.2.2):=(AK HI3.out.f 0).trans rfl
 have l0:W3.cell? ⟨X.gl,0,none⟩=some (.int .i64 st.2.1):=(AK HI3.out.l 0).trans rfl
 have HI3':=HI3
 by_cases hf:(!st.2.2||decide (x<st.2.1))=true
 ·have hh:=HH.out
  rw [if_pos hf,Option.bind_eq_some_iff] at hh
  obtain ⟨y,hy,hst⟩:=hh
  cases hst
  have HY:=yA hy
  clear HH hy
  cases h1:st.2.2 with
  | false=>
   rw [h1] at f0
   clear hf
   go_wp2_with (first|(go_at_call 34; (refine (BX.calls A c l y _ (HL.out.kept HK3.out).r HL.out.cc HY.out (fun h=>(HL.out.z h).1)).mono ?_); rintro e W4 ⟨v2,rfl,ho,hb⟩; have HI4:=yA (HI3.out.below hb); have HK4:=yA (HK3.out.below hb); have HO:=yA ho; clear hb ho HI3 f0 l0; obtain ⟨Ay,cy,ey⟩:=Kd.R_slice HO.out; subst ey; obtain ⟨vo,ho1,ho2⟩:=HI4.out.o; have f1:W4.cell? ⟨X.gf,0,none⟩=some (.bool st.2.2):=(AK HI4.out.f 0).trans rfl; have l1:W4.cell? ⟨X.gl,0,none⟩=some (.int .i64 st.2.1):=(AK HI4.out.l 0).trans rfl; have o1:W4.cell? ⟨X.go,0,none⟩=some vo:=(AK ho1 0).trans rfl; have ff:=AJ HI4.out.f 0; have fl:=AJ HI4.out.l 0; have fo:=AJ ho1 0; obtain ⟨d1,d2,d3⟩:=HI4.out.ne; have d4:=d1.symm; have d5:=d2.symm; have d6:=d3.symm))
   refine bodyPost_ret (results_none rfl _ _ _) rfl ?_
   obtain ⟨vo3,ho3,_⟩:=HI3'.out.o
   have q1:=B8 HI3'.out.n; have q2:=B8 HI3'.out.l; have q3:=B8 HI3'.out.f; have q4:=B8 ho3
   obtain ⟨z1,z2⟩:=HI4.out.put (y:=y) x (Kd.R_lower (Kd.R_mono (Kd.R_bound HO.out) (fun k hk=>⟨by have:=hk.2.1; omega,by have:=hk.2.1; omega,by have:=hk.2.1; omega,by have:=hk.2.1; omega⟩)) HI3'.out.b.size)
   exact ⟨rfl,z1,HK4.out.then_ z2 (fun _ h=> .inl h)⟩
  | true=>
   rw [h1] at f0 hf
   have hf:decide (x<st.2.1)=true:=by simpa using hf
   go_wp2_with (first|(go_at_call 34; (refine (BX.calls A c l y _ (HL.out.kept HK3.out).r HL.out.cc HY.out (fun h=>(HL.out.z h).1)).mono ?_); rintro e W4 ⟨v2,rfl,ho,hb⟩; have HI4:=yA (HI3.out.below hb); have HK4:=yA (HK3.out.below hb); have HO:=yA ho; clear hb ho HI3 f0 l0; obtain ⟨Ay,cy,ey⟩:=Kd.R_slice HO.out; subst ey; obtain ⟨vo,ho1,ho2⟩:=HI4.out.o; have f1:W4.cell? ⟨X.gf,0,none⟩=some (.bool st.2.2):=(AK HI4.out.f 0).trans rfl; have l1:W4.cell? ⟨X.gl,0,none⟩=some (.int .i64 st.2.1):=(AK HI4.out.l 0).trans rfl; have o1:W4.cell? ⟨X.go,0,none⟩=some vo:=(AK ho1 0).trans rfl; have ff:=AJ HI4.out.f 0; have fl:=AJ HI4.out.l 0; have fo:=AJ ho1 0; obtain ⟨d1,d2,d3⟩:=HI4.out.ne; have d4:=d1.symm; have d5:=d2.symm; have d6:=d3.symm))
   refine bodyPost_ret (results_none rfl _ _ _) rfl ?_
   obtain ⟨vo3,ho3,_⟩:=HI3'.out.o
   have q1:=B8 HI3'.out.n; have q2:=B8 HI3'.out.l; have q3:=B8 HI3'.out.f; have q4:=B8 ho3
   obtain ⟨z1,z2⟩:=HI4.out.put (y:=y) x (Kd.R_lower (Kd.R_mono (Kd.R_bound HO.out) (fun k hk=>⟨by have:=hk.2.1; omega,by have:=hk.2.1; omega,by have:=hk.2.1; omega,by have:=hk.2.1; omega⟩)) HI3'.out.b.size)
   exact ⟨rfl,z1,HK4.out.then_ z2 (fun _ h=> .inl h)⟩
 ·have hh:=HH.out
  rw [if_neg hf] at hh
  cases hh
  clear HH
  have h1:st.2.2=true:=by
   cases h:st.2.2 with
   |true=>rfl
   |false=>exact absurd (by rw [h]; rfl) hf
  have h2:decide (x<st.2.1)=false:=by
   cases h:decide (x<st.2.1) with
   |false=>rfl
   |true=>exact absurd (by rw [h,Bool.or_true]) hf
  rw [h1] at f0
  clear hf
  go_wp2
  refine bodyPost_ret (results_none rfl _ _ _) rfl ?_
  exact ⟨rfl,HI3'.out,HK3.out⟩
section
variable {P:Program} {ops:Array Oper} {o:Oper} {a:Act} {Q:Exit→Act→World→Prop} {Kc:Act→World→Prop}
theorem H4 (l:List Int) (A:Option Addr) (W:World) (g:Nat) (i:Int) (hr:Kd.C (Kd.int .i64) W A l.length l) (hz:l.length=0→A=none) (s x:Operand)
  (hw:Region.wanted o (yielded ops a.tmps)=true) (ho:o.op= .call {callee:= .builtin .append,args:= #[s,x],argTypes:= #[26,26]})
  (hs:a.eval s= .slice A l.length l.length) (hx:a.eval x= .slice (some ⟨g,0,none⟩) 1 1) (hc:W.cell? ⟨g,0,none⟩=some (.int .i64 i)) (hm:l.length≤1000000)
  (h:∀v w',Kd.R (Kd.int .i64) 3 w' W.heap.size (fun _=>True) v (l++[i])→W.grownBy w' none→Kc (a.put o.dst v) w'):
  if Region.wanted o (yielded ops a.tmps)=true then Oper.wp Try.prog o a W Kc Q else Kc (a.put o.dst undef) W:=by
 obtain ⟨i0,hi0,hz0,hs0,hb0⟩:=info_parts info3
 have hnews:∀j u,([Value.int .i64 i]:List Value)[j]? =some u→W.cell? ((⟨g,0,none⟩:Addr).add j)=some u:=fun j u hj=>by
  cases j with
  |zero=>simp only [List.getElem?_cons_zero,Option.some.injEq] at hj; subst hj; rw [Bq]; exact hc
  |succ j=>simp at hj
 have hfin:∀v w',w'.ownsRow W.heap.size 3 1 v (l.length+1) (nums .i64 l++[Value.int .i64 i])→Kd.R (Kd.int .i64) 3 w' W.heap.size (fun _=>True) v (l++[i]):=fun v w' hh=>
  Kd.R_of_own (by simpa [encs,nums] using hh) (fun _ _=>trivial)
 rcases Nat.eq_zero_or_pos l.length with h0|h0
 ·obtain rfl:=hz h0
  obtain rfl:l=[]:=List.eq_nil_of_length_eq_zero h0
  obtain ⟨v',w',hrun,r1,r2,_⟩:=run_append_own (P:=Try.prog) W W.heap.size 26 o.type 3 i0 (.int .i64 0) 1 8 Try.underlying26 hi0 hz0 hs0 hb0 rfl zA0 (.slice none 0 0) 0 [] (World.ownsRow_nil W _ 3 1) ⟨g,0,none⟩ 1 1 [.int .i64 i] rfl hnews (by intro u hu; simp only [List.mem_singleton] at hu; subst hu; rfl) zA0 zA0 (Nat.le_refl _)
  refine D2 hw (w1:=w') (v:=v') ?_ (h v' w' (hfin v' w' (by simpa [nums] using r1)) (by simpa [Value.ownBlock] using r2))
  have hs2:a.eval s= .slice none 0 0:=hs
  simp [execOp,ho,resolve,invoke,builtin,hs2,hx,hrun,Result.andThen]
 ·obtain ⟨ad,rfl,hcell⟩:=(Kd.reads_of_C (enc:=Value.int .i64) (d:=(0:Int)) (h1:=fun _=>rfl) hr).2.2 h0
  obtain ⟨v',w',hrun,r1,r2⟩:=run_append_arg_grows (P:=Try.prog) (w:=W) 26 o.type 3 i0 (.int .i64 0) 1 8 Try.underlying26 hi0 hz0 hs0 hb0 rfl zA0 ad l.length l.length (nums .i64 l) (by rw [DN,Nat.mul_one]) (fun j u hj=>by
   have hl:j<l.length:=by have:=(List.getElem?_eq_some_iff.1 hj).1; rwa [DN] at this
   rw [hcell j hl]; simpa [nums,List.getD_eq_getElem?_getD,hl] using hj) ⟨g,0,none⟩ 1 1 [.int .i64 i] rfl hnews zE (by simp only [maxLen]; omega) zE
  refine D2 hw (w1:=w') (v:=v') ?_ (h v' w' (hfin v' w' r1) r2)
  simp [execOp,ho,resolve,invoke,builtin,hs,hx,hrun,Result.andThen]
end
theorem BL.new {X:BCtx} {w0 W V:World} {st:BSt} {l:List Int} {x:Int} {A:Option Addr} {c:Nat} (h:BInv X w0 W st) (ho:Kd.R (Kd.int .i64) 3 V W.heap.size (fun _=>True) (.slice A (l++[x]).length c) (l++[x])):BL X V A c (l++[x]):=by
 have h1:=Kd.R_reads' ho
 refine ⟨h1.2.2,h1.2.1,fun h=>by simp at h,fun ad he=> ?_⟩
 subst he
 obtain ⟨g,cg,eg,gb,_⟩:=Kd.R_form ho zA5
 obtain ⟨vo,ho1,_⟩:=h.o
 have q1:=B8 h.f; have q2:=B8 h.l; have q3:=B8 ho1
 injection eg with e1 e2 e3
 injection e1 with e1
 subst e1
 rintro (h|h|h)<;>(simp only at h; omega)
set_option maxHeartbeats 8000000 in
theorem FG (X:BCtx) (w0:World) (k:Nat) (hn0:0≤X.n) (hn1:X.n≤1000):∀(d:Nat) (l:List Int) (A:Option Addr) (c:Nat) (st st':BSt) (W:World),BInv X w0 W st→BL X W A c l→l.length+d≤100000→bExt k X.m X.ts X.n d l st=some st'→
  Calls Try.prog 32 (#[.slice A l.length c]++X.caps) W fun e w'=>e= .returned (.tuple #[])∧BInv X w0 w' st'∧Kept W w' X.S
 |0,l,A,c,st,st',W,hI,hL,hm,h=>by simp [bExt] at h
 | d + 1, l, A,c,st,st',W,hI,hL,hm,h=>by
  have ih:=FG X w0 k hn0 hn1 d
  rw [bExt] at h
  by_cases hn:(l.length:Int)=X.n
  ·rw [if_pos hn] at h
   exact GR X w0 W k l A c st st' hI hL hn h
  ·rw [if_neg hn] at h
   show Calls Try.prog 32 #[.slice A l.length c,.pointer (some ⟨X.gn,0,none⟩),.pointer (some ⟨X.gp,0,none⟩),.pointer (some ⟨X.gf,0,none⟩),.pointer (some ⟨X.gl,0,none⟩),.pointer (some ⟨X.go,0,none⟩),.pointer (some ⟨X.ge,0,none⟩)] W _
   have HI:=yA hI
   have HL:=yA hL
   have HM:=yA (show l.length≤1000000 by omega)
   have HM2:=yA (show (l.length+1)+d≤100000 by omega)
   have HH:=yA h
   have HN:=yA hn1
   have HN0:=yA hn0
   have n0:W.cell? ⟨X.gn,0,none⟩=some (.int .i64 X.n):=(AK hI.n 0).trans rfl
   have c1:((l.length:Int)==X.n)=false:=beq_eq_false_iff_ne.mpr hn
   clear hI hL hm h hn hn0 hn1
   go_enter Try.func32,Try.ntmps32
   go_wp2
   go_loopg [9,30] X.n.toNat (fun gg v9 v30 w'=>∃(i:Nat) (st1:BSt),v30= .int .i64 (i:Int)∧Aside0 (Du k X.m X.ts X.n d l i (X.n.toNat-i) st1=some st')∧Aside0 (i≤X.n.toNat)∧Aside0 (X.n.toNat-i≤gg)∧Aside0 (BInv X w0 w' st1)∧Aside0 (Kept W w' X.S))
   case atStart=>exact ⟨0,st,rfl,⟨HH.out⟩,⟨Nat.zero_le _⟩,⟨by omega⟩,⟨HI.out⟩,⟨Kept.refl _ _⟩⟩
   case round=>
    clear HI HH n0
    obtain ⟨i,st1,rfl,HA,H1,H2,HI,HK⟩:=hrel
    by_cases c2:(i:Int)<X.n
    ·have c2b:decide ((i:Int)<X.n)=true:=decide_eq_true c2
     have ha:=HA.out
     have hlt:i<X.n.toNat:=by omega
     rw [show X.n.toNat-i=(X.n.toNat-(i+1))+1 by omega,D4,Option.bind_eq_some_iff] at ha
     obtain ⟨b,hb1,hb2⟩:=ha
     have HC:=yA hb1
     clear HA c2
     cases b with
     | true=>
      rw [if_pos rfl] at hb2
      have HA:=yA hb2
      clear hb1 hb2
      go_wp2_with (first|(go_at_call 35; (with_reducible refine (BE.calls k A c l i true _ (HL.out.kept HK.out).r HL.out.cc HC.out).mono ?_); rintro e w' ⟨rfl,hd⟩; have HI1:=yA (HI.out.below hd.below); have HK1:=yA (HK.out.below hd.below); clear hd))
      go_roundg (X.n.toNat-(i+1))
      case measure=>have:=H2.out; omega
      case rel=>exact ⟨i+1,st1,by have:=HN.out; rw [show wrap64 ((i:Int)+1)=((i+1:Nat):Int) from by unfold wrap64; omega],HA,⟨by omega⟩,⟨by omega⟩,HI1,HK1⟩
     | false=>
      rw [if_neg zA5,Option.bind_eq_some_iff] at hb2
      obtain ⟨st2,hr1,hr2⟩:=hb2
      have HR2:=yA hr1
      have HA:=yA hr2
      clear hb1 hr1 hr2
      go_wp2_with (first|(go_at_call 35; (with_reducible refine (BE.calls k A c l i false _ (HL.out.kept HK.out).r HL.out.cc HC.out).mono ?_); rintro e Wc ⟨rfl,hd⟩; have HI1:=yA (HI.out.below hd.below); have HK1:=yA (HK.out.below hd.below); clear hd HI HK))
      refine C8 (n:=11) (S:=fun w'=>w'.cell? ⟨X.ge,0,none⟩=some (.func (.func 32) #[] X.caps)) (ds:=[]) #[false,false,false,false,false,false,false,false,false,false,false] zI rfl rfl ((AK HI1.out.e 0).trans rfl) (fun hHeld=> ?_)
      have HI2:=yA (HI1.out.below (AD (Below.refl _ _)))
      have HK2:=yA (Kept.drew HK1.out)
      clear HI1 HK1
      generalize Wc.drew=W2 at hHeld HI2 HK2 ⊢
      refine At (i:=1) (N:=some 38) (v:= ?_) (a':= ?_) #[false,true,false,false,false,false,false,false,false,false,false] rfl rfl zI (fun _ _ _ h=>h) (Or.inl ⟨by rfl,?_⟩) ?_ ?_; rotate_left; intro w'; go_simp; with_reducible rfl; rotate_left; exact yB
      refine At (i:=2) (N:=some 39) (v:= ?_) (a':= ?_) #[false,true,true,false,false,false,false,false,false,false,false] rfl rfl zI (fun _ _ _ h=>h) (Or.inl ⟨by rfl,?_⟩) ?_ ?_; rotate_left; intro w'; go_simp; with_reducible rfl; rotate_left; exact yB
      refine At (i:=4) (N:=some 41) (v:= ?_) (a':= ?_) #[false,true,true,false,true,false,false,false,false,false,false] rfl rfl zI (fun _ _ _ h=>h) (Or.inl ⟨by rfl,?_⟩) ?_ ?_; rotate_left; intro w'; go_simp; with_reducible rfl; rotate_left; exact yB
      refine At (i:=7) (N:=some 44) (v:= ?_) (a':= ?_) #[false,true,true,false,true,false,false,true,false,false,false] rfl rfl zI (fun _ _ _ h=>h) (Or.inl ⟨by rfl,?_⟩) ?_ ?_; rotate_left; intro w'; go_simp; with_reducible rfl; rotate_left; exact yB
      refine At (i:=3) (N:=some 40) (v:= ?_) (a':= ?_) #[false,true,true,true,true,false,false,true,false,false,false] rfl rfl zI (fun _ _ _ h=>h) (Or.inl ⟨by rfl,?_⟩) ?_ ?_; rotate_left; intro w'; go_simp; with_reducible rfl; rotate_left; exact yB
      refine At (i:=5) (N:=some 42) (v:= ?_) (a':= ?_) #[false,true,true,true,true,true,false,true,false,false,false] rfl rfl zI (fun _ _ _ h=>h) (Or.inl ⟨by rfl,?_⟩) ?_ ?_; rotate_left; intro w'; go_simp; with_reducible rfl; rotate_left; exact yB
      refine BV (i:=0) (N:=some 37) (v:= ?_) (a':= ?_) #[true,true,true,true,true,true,false,true,false,false,false] rfl rfl zI (fun _ _ _ h=>h) (Or.inl ⟨by rfl,?_⟩) hHeld ?_ ?_; rotate_left; rintro w' s0; go_simp; with_reducible rfl; rotate_left; exact yB
      have hcc:=eq_true HL.out.cc
      have hA:Option.map (fun x:Addr=>x.add 0) A=A:=by cases A<;>simp [Addr.add]
      refine At (i:=6) (N:=some 43) (v:= .slice A l.length l.length) (a':= ?_) #[true,true,true,true,true,true,true,true,false,false,false] rfl rfl zI (fun _ _ _ h=>h) (Or.inl ⟨by rfl,?_⟩) ?_ ?_
      ·intro w'
       go_simp
      rotate_left
      ·exact yB
      refine one_ (i:=8) (N:=some 45) #[true,true,true,true,true,true,true,true,true,false,false] rfl rfl zI zA0 (fun K hK=> ?_)
      refine ER (v:= .slice (some ⟨W2.heap.size,0,none⟩) 1 1) (w1:=W2.alloc (.cells #[.int .i64 (i:Int)] 3)) (by rfl) rfl ?_ ?_
      ·first|(go_simp; done)|(go_simp; rfl)
      have HI3:=yA (HI2.out.below (AE (Below.refl _ _) (.cells #[.int .i64 (i:Int)] 3)))
      have HK3:=yA (HK2.out.alloc (.cells #[.int .i64 (i:Int)] 3))
      have hcell:(W2.alloc (.cells #[.int .i64 (i:Int)] 3)).cell? ⟨W2.heap.size,0,none⟩=some (.int .i64 (i:Int)):=by simp
      refine hK.out _ _ ((AK HI3.out.e 0).trans rfl) (fun hHeld=> ?_)
      clear hK K HI2 HK2
      refine By (a':= ?_) ?_ ?_; rotate_left; show Act.put _ (some 45) _=_; exact yB
      generalize W2.alloc (.cells #[.int .i64 (i:Int)] 3)=W3 at hHeld HI3 HK3 hcell ⊢
      refine one_ (i:=9) (N:=some 46) #[true,true,true,true,true,true,true,true,true,true,false] rfl rfl zI zA0 (fun K hK=> ?_)
      refine H4 l A W3 _ i (HL.out.kept HK3.out).r (fun h=>(HL.out.z h).1) (.tmp 43) (.tmp 45) (by rfl) rfl rfl rfl hcell HM.out (fun v4 W4 ho hg=> ?_)
      have hb:Below W3.heap.size W3 W4:=⟨hg.os,hg.tape,hg.output,hg.size,fun j hj=>hg.block j hj zA5⟩
      have HI4:=yA (HI3.out.below hb)
      have HK4:=yA (HK3.out.below hb)
      have HO:=yA ho
      have HB4:=yA hb
      clear hb ho hg
      refine hK.out _ _ ((AK HI4.out.e 0).trans rfl) (fun hHeld=> ?_)
      clear hK K
      refine By (a':= ?_) ?_ ?_; rotate_left; show Act.put _ (some 46) _=_; exact yB
      obtain ⟨A4,c4,e4⟩:=Kd.R_slice HO.out
      subst e4
      refine one_ (i:=10) (N:=some 47) #[true,true,true,true,true,true,true,true,true,true,true] rfl rfl zI zA0 (fun K hK=> ?_)
      have hq:=ih (l++[(i:Int)]) A4 c4 st1 st2 W4 HI4.out (BL.new HI3.out HO.out) (by have:=HM2.out; simp only [List.length_append,List.length_cons,List.length_nil]; omega) HR2.out
      have he:=DW Try.func32 zI rfl (#[.slice A4 (l++[(i:Int)]).length c4]++X.caps) W4
      refine call_ 32 (#[.slice A4 (l++[(i:Int)]).length c4]++X.caps) (by rfl) rfl (by unfold execOp; simp [resolve,Deferred.ofValue,invoke,Act.eval,he]) ?_
      refine hq.mono ?_
      rintro e W5 ⟨rfl,hI5,hK5⟩
      refine ⟨_,rfl,?_⟩
      have HI5:=yA hI5
      have HK5:=yA (HK4.out.then_ hK5 (fun _ h=> .inl h))
      clear hI5 hK5 hq he
      refine hK.out _ _ ((AK HI5.out.e 0).trans rfl) (fun hHeld=> ?_)
      clear hK K
      refine By (a':= ?_) ?_ ?_; rotate_left; show Act.put _ (some 47) _=_; exact yB
      refine CS zI ?_
      go_wp2
      go_roundg (X.n.toNat-(i+1))
      case measure=>have:=H2.out; omega
      case rel=>exact ⟨i+1,st2,by have:=HN.out; rw [show wrap64 ((i:Int)+1)=((i+1:Nat):Int) from by unfold wrap64; omega],HA,⟨by omega⟩,⟨by omega⟩,HI5,HK5⟩
    ·have c2b:decide ((i:Int)<X.n)=false:=decide_eq_false c2
     have ha:=HA.out
     rw [show X.n.toNat-i=0 by omega,D3] at ha
     cases ha
     go_wp2
     exact bodyPost_end (results_none rfl _ _ _) rfl ⟨rfl,HI.out,HK.out⟩
theorem Df {P:Program} {w:World} {a:Addr} {m:Mode} (f:Fn) (x y:Array Value):(store a (.func f x y) m).run P w=stored P w a (.func f x y) m:=run_store P w a _ m rfl
attribute [local go_sem] Df
def BG.f (k:Nat) (A8:Int) (l0_1:List (S64)):Option (List Int×Int×Int):=(AN.f k A8 l0_1).bind fun v=>if v=true then (if (6:Int)<(l0_1.length:Int) then some ([],0,3) else (bExt k A8 l0_1 (l0_1.length:Int) 8 [] ([],0,false)).bind fun st=>some (st.1,st.2.1,0)) else some ([],0,1)
theorem EP (k:Nat) (m:Int) (ts:List S64) (n:Int):∀(d:Nat) (l:List Int) (st:BSt),LeO (bExt k m ts n d l st) (bExt (k+1) m ts n d l st)
 |0,l,st=>by rw [bExt]; exact LeO.none _
 | d + 1,l,st=>by
  have hl:∀(r i:Nat) (st:BSt),LeO (Du k m ts n d l i r st) (Du (k+1) m ts n d l i r st):=fun r=>by
   induction r with
   |zero=>intro i st; rw [D3,D3]; exact LeO.refl _
   | succ r ih=>
    intro i st
    rw [D4,D4]
    exact LeO.bind (BE.mono _ _ _) fun b=>LeO.ite (ih _ _) (LeO.bind (EP k m ts n d _ _) fun st'=>ih _ _)
  rw [bExt,bExt]
  exact LeO.ite (LeO.bind (Ac.mono _ _ _ _) fun s=>LeO.bind (Aj.mono _ _ _ _) fun x=>LeO.refl _) (hl _ _ _)
theorem BG.mono:∀a0 a1 k,LeO (BG.f k a0 a1) (BG.f (k+1) a0 a1):=by
 intro a0 a1 k
 unfold BG.f
 exact LeO.bind (AN.mono _ _ _) fun v=>LeO.ite (LeO.ite (LeO.refl _) (LeO.bind (EP _ _ _ _ _ _ _) fun st=>LeO.refl _)) (LeO.refl _)
set_option maxHeartbeats 8000000 in
theorem BG.calls (k:Nat) (A8:Int) (A0_1:Option Addr) (c0_1:Nat) (l0_1:List (S64)) (r1:List Int) (r2:Int) (r3:Int) (w:World) (hr0_1:Kd.C k64 w A0_1 l0_1.length l0_1) (hc0_1:l0_1.length≤c0_1) (h:BG.f k A8 l0_1=some (r1,r2,r3)):
  Calls Try.prog 17 #[.agg #[.int .i64 A8,.slice A0_1 l0_1.length c0_1]] w fun e w'=>∃v0_:Value,e= .returned (.tuple #[v0_,.int .i64 r2,.int .i64 r3])∧Kd.R (Kd.int .i64) 3 w' w.heap.size (fun _=>True) v0_ r1∧Below w.heap.size w w':=by
 unfold BG.f at h
 rw [Option.bind_eq_some_iff] at h
 obtain ⟨v,hv,h⟩:=h
 have HR:=yA hr0_1
 have HC:=yA hc0_1
 have HV:=yA hv
 have HB:=yA (Below.refl w.heap.size w)
 have hu34:=Try.underlying34
 clear hr0_1 hc0_1 hv
 cases v with
 | false=>
  rw [if_neg zA5] at h
  cases h
  go_enter Try.func17,Try.ntmps17
  go_wp2_with (first|((with_reducible refine Aq (N:=1) rfl ?_); refine Av ?hg (N:=1) ?hd (cs:= #[.int .i64 A8,.slice A0_1 l0_1.length c0_1]) (t:=34) ?hr ?_; (case hd=>rfl); (case hg=>rfl); (case hr=>first|(go_simp; done)|(go_simp; rfl)); intro g1 hg g1_w hbox hb; have nHB_:=yA (AO HB.out hb); have Gg1:=yA (show w.heap.size≤g1 by rw [hg]; exact HB.out.size); have Bg1:=yA hbox; clear HB; have HB:=nHB_; clear hb hbox hg nHB_)|((with_reducible refine Aq (N:=2) rfl ?_); refine Av ?hg (N:=2) ?hd (cs:= #[.slice none 0 0]) (t:=26) ?hr ?_; (case hd=>rfl); (case hg=>rfl); (case hr=>first|(go_simp; done)|(go_simp; rfl)); intro g2 hg g2_w hbox hb; have ng1_:=yA (AP Bg1.out hb); have nHB_:=yA (AO HB.out hb); have Gg2:=yA (show w.heap.size≤g2 by rw [hg]; exact HB.out.size); have Bg2:=yA hbox; clear Bg1 HB; have Bg1:=ng1_; have HB:=nHB_; clear hb hbox hg ng1_ nHB_)|((with_reducible refine Aq (N:=3) rfl ?_); refine Av ?hg (N:=3) ?hd (cs:= #[.int .i64 0]) (t:=3) ?hr ?_; (case hd=>rfl); (case hg=>rfl); (case hr=>first|(go_simp; done)|(go_simp; rfl)); intro g3 hg g3_w hbox hb; have ng1_:=yA (AP Bg1.out hb); have ng2_:=yA (AP Bg2.out hb); have nHB_:=yA (AO HB.out hb); have Gg3:=yA (show w.heap.size≤g3 by rw [hg]; exact HB.out.size); have Bg3:=yA hbox; clear Bg1 Bg2 HB; have Bg1:=ng1_; have Bg2:=ng2_; have HB:=nHB_; clear hb hbox hg ng1_ ng2_ nHB_; have y1:g3_w.cell? ⟨g1,0,none⟩=some (.int .i64 A8):=(AK Bg1.out 0).trans rfl; have y2:g3_w.cell? ⟨g1,1,none⟩=some (.slice A0_1 l0_1.length c0_1):=(AK Bg1.out 1).trans rfl)|((with_reducible refine Ae (f:=29) rfl ?_); refine B6 (some 10) rfl rfl Try.func29 zI rfl #[.agg #[.int .i64 A8,.slice A0_1 l0_1.length c0_1]] rfl (by (try simp only [List.map_toArray,List.map_cons,List.map_nil]); first|done|rfl) ?_; (refine (AN.calls k A8 _ _ l0_1 false _ (Kd.C_below HR.out HB.out) HC.out HV.out).mono ?_); rintro e w5 ⟨rfl,hb⟩; refine ⟨_,rfl,?_⟩; have nHB_:=yA (AO HB.out hb); have n1_:=yA (AP Bg1.out hb); have n2_:=yA (AP Bg2.out hb); have n3_:=yA (AP Bg3.out hb); clear Bg1 Bg2 Bg3 HB hb y1 y2; have Bg1:=n1_; have Bg2:=n2_; have Bg3:=n3_; have HB:=nHB_; clear n1_ n2_ n3_ nHB_; have d1:g2≠g3:=Co Bg2.out Bg3.out zA0; have d2:=d1.symm; have y3:w5.cell? ⟨g1,1,none⟩=some (.slice A0_1 l0_1.length c0_1):=(AK Bg1.out 1).trans rfl; have z2:w5.cell? ⟨g2,0,none⟩=some (.slice none 0 0):=(AK Bg2.out 0).trans rfl; have z3:w5.cell? ⟨g3,0,none⟩=some (.int .i64 0):=(AK Bg3.out 0).trans rfl; have f2:=AJ Bg2.out 0; have f3:=AJ Bg3.out 0))
  refine bodyPost_ret (v:= .tuple #[.slice none 0 0,.int .i64 0,.int .i64 1]) ?_ rfl ?_
  ·show (results Try.f17 _).run Try.prog _=_
   rw [results,show Try.f17.results= #[.cell 2 26,.cell 3 3,.tmp 4] from rfl]
   go_simp
  ·exact ⟨_,rfl,Kd.R_nil _ _ _ _ _,AI (AI HB.out Gg2.out) Gg3.out⟩
 | true=>
  rw [if_pos rfl] at h
  by_cases c6:(6:Int)<(l0_1.length:Int)
  ·rw [if_pos c6] at h
   cases h
   have c6b:decide ((6:Int)<(l0_1.length:Int))=true:=decide_eq_true c6
   clear c6
   go_enter Try.func17,Try.ntmps17
   go_wp2_with (first|((with_reducible refine Aq (N:=1) rfl ?_); refine Av ?hg (N:=1) ?hd (cs:= #[.int .i64 A8,.slice A0_1 l0_1.length c0_1]) (t:=34) ?hr ?_; (case hd=>rfl); (case hg=>rfl); (case hr=>first|(go_simp; done)|(go_simp; rfl)); intro g1 hg g1_w hbox hb; have nHB_:=yA (AO HB.out hb); have Gg1:=yA (show w.heap.size≤g1 by rw [hg]; exact HB.out.size); have Bg1:=yA hbox; clear HB; have HB:=nHB_; clear hb hbox hg nHB_)|((with_reducible refine Aq (N:=2) rfl ?_); refine Av ?hg (N:=2) ?hd (cs:= #[.slice none 0 0]) (t:=26) ?hr ?_; (case hd=>rfl); (case hg=>rfl); (case hr=>first|(go_simp; done)|(go_simp; rfl)); intro g2 hg g2_w hbox hb; have ng1_:=yA (AP Bg1.out hb); have nHB_:=yA (AO HB.out hb); have Gg2:=yA (show w.heap.size≤g2 by rw [hg]; exact HB.out.size); have Bg2:=yA hbox; clear Bg1 HB; have Bg1:=ng1_; have HB:=nHB_; clear hb hbox hg ng1_ nHB_)|((with_reducible refine Aq (N:=3) rfl ?_); refine Av ?hg (N:=3) ?hd (cs:= #[.int .i64 0]) (t:=3) ?hr ?_; (case hd=>rfl); (case hg=>rfl); (case hr=>first|(go_simp; done)|(go_simp; rfl)); intro g3 hg g3_w hbox hb; have ng1_:=yA (AP Bg1.out hb); have ng2_:=yA (AP Bg2.out hb); have nHB_:=yA (AO HB.out hb); have Gg3:=yA (show w.heap.size≤g3 by rw [hg]; exact HB.out.size); have Bg3:=yA hbox; clear Bg1 Bg2 HB; have Bg1:=ng1_; have Bg2:=ng2_; have HB:=nHB_; clear hb hbox hg ng1_ ng2_ nHB_; have y1:g3_w.cell? ⟨g1,0,none⟩=some (.int .i64 A8):=(AK Bg1.out 0).trans rfl; have y2:g3_w.cell? ⟨g1,1,none⟩=some (.slice A0_1 l0_1.length c0_1):=(AK Bg1.out 1).trans rfl)|((with_reducible refine Ae (f:=29) rfl ?_); refine B6 (some 10) rfl rfl Try.func29 zI rfl #[.agg #[.int .i64 A8,.slice A0_1 l0_1.length c0_1]] rfl (by (try simp only [List.map_toArray,List.map_cons,List.map_nil]); first|done|rfl) ?_; (refine (AN.calls k A8 _ _ l0_1 true _ (Kd.C_below HR.out HB.out) HC.out HV.out).mono ?_); rintro e w5 ⟨rfl,hb⟩; refine ⟨_,rfl,?_⟩; have nHB_:=yA (AO HB.out hb); have n1_:=yA (AP Bg1.out hb); have n2_:=yA (AP Bg2.out hb); have n3_:=yA (AP Bg3.out hb); clear Bg1 Bg2 Bg3 HB hb y1 y2; have Bg1:=n1_; have Bg2:=n2_; have Bg3:=n3_; have HB:=nHB_; clear n1_ n2_ n3_ nHB_; have d1:g2≠g3:=Co Bg2.out Bg3.out zA0; have d2:=d1.symm; have y3:w5.cell? ⟨g1,1,none⟩=some (.slice A0_1 l0_1.length c0_1):=(AK Bg1.out 1).trans rfl; have z2:w5.cell? ⟨g2,0,none⟩=some (.slice none 0 0):=(AK Bg2.out 0).trans rfl; have z3:w5.cell? ⟨g3,0,none⟩=some (.int .i64 0):=(AK Bg3.out 0).trans rfl; have f2:=AJ Bg2.out 0; have f3:=AJ Bg3.out 0))
   refine bodyPost_ret (v:= .tuple #[.slice none 0 0,.int .i64 0,.int .i64 3]) ?_ rfl ?_
   ·show (results Try.f17 _).run Try.prog _=_
    rw [results,show Try.f17.results= #[.cell 2 26,.cell 3 3,.tmp 4] from rfl]
    go_simp
   ·exact ⟨_,rfl,Kd.R_nil _ _ _ _ _,AI (AI HB.out Gg2.out) Gg3.out⟩
  ·rw [if_neg c6] at h
   rw [Option.bind_eq_some_iff] at h
   obtain ⟨st,hst,h⟩:=h
   have HS:=yA (Option.some.inj h)
   have eg:∀args w,(callFunc 32 args).run Try.prog w= .ok (.enter 32 args) w:=fun args w=>DW Try.func32 zI rfl args w
   have c6b:decide ((6:Int)<(l0_1.length:Int))=false:=decide_eq_false c6
   have hl6:(l0_1.length:Int)≤6:=by omega
   have hext:∀ {g5 g1 g6 g3 g2 g7:Nat} (W:World) (hI:BInv ⟨A8,A0_1,c0_1,l0_1,(l0_1.length:Int),g5,g1,g6,g3,g2,g7⟩ w W ([],0,false)),Calls Try.prog 32 (#[.slice none 0 0]++ #[.pointer (some ⟨g5,0,none⟩),.pointer (some ⟨g1,0,none⟩),.pointer (some ⟨g6,0,none⟩),.pointer (some ⟨g3,0,none⟩),.pointer (some ⟨g2,0,none⟩),.pointer (some ⟨g7,0,none⟩)]) W fun e w'=>e= .returned (.tuple #[])∧BInv ⟨A8,A0_1,c0_1,l0_1,(l0_1.length:Int),g5,g1,g6,g3,g2,g7⟩ w w' st∧Kept W w' (BCtx.S ⟨A8,A0_1,c0_1,l0_1,(l0_1.length:Int),g5,g1,g6,g3,g2,g7⟩):=fun {g5 g1 g6 g3 g2 g7} W hI=>
    FG ⟨A8,A0_1,c0_1,l0_1,(l0_1.length:Int),g5,g1,g6,g3,g2,g7⟩ w k (by show (0:Int)≤(l0_1.length:Int); omega) (by show (l0_1.length:Int)≤1000; omega) 8 [] none 0 ([],0,false) st W hI ⟨Kd.C_nil _ _,by simp,fun _=>⟨rfl,rfl⟩,fun ad he=>by cases he⟩ zA5 hst
   clear h hst c6 hl6
   go_enter Try.func17,Try.ntmps17
   go_wp2_with (first|((with_reducible refine Aq (N:=1) rfl ?_); refine Av ?hg (N:=1) ?hd (cs:= #[.int .i64 A8,.slice A0_1 l0_1.length c0_1]) (t:=34) ?hr ?_; (case hd=>rfl); (case hg=>rfl); (case hr=>first|(go_simp; done)|(go_simp; rfl)); intro g1 hg g1_w hbox hb; have nHB_:=yA (AO HB.out hb); have Gg1:=yA (show w.heap.size≤g1 by rw [hg]; exact HB.out.size); have Bg1:=yA hbox; clear HB; have HB:=nHB_; clear hb hbox hg nHB_)|((with_reducible refine Aq (N:=2) rfl ?_); refine Av ?hg (N:=2) ?hd (cs:= #[.slice none 0 0]) (t:=26) ?hr ?_; (case hd=>rfl); (case hg=>rfl); (case hr=>first|(go_simp; done)|(go_simp; rfl)); intro g2 hg g2_w hbox hb; have ng1_:=yA (AP Bg1.out hb); have nHB_:=yA (AO HB.out hb); have Gg2:=yA (show w.heap.size≤g2 by rw [hg]; exact HB.out.size); have Bg2:=yA hbox; clear Bg1 HB; have Bg1:=ng1_; have HB:=nHB_; clear hb hbox hg ng1_ nHB_)|((with_reducible refine Aq (N:=3) rfl ?_); refine Av ?hg (N:=3) ?hd (cs:= #[.int .i64 0]) (t:=3) ?hr ?_; (case hd=>rfl); (case hg=>rfl); (case hr=>first|(go_simp; done)|(go_simp; rfl)); intro g3 hg g3_w hbox hb; have ng1_:=yA (AP Bg1.out hb); have ng2_:=yA (AP Bg2.out hb); have nHB_:=yA (AO HB.out hb); have Gg3:=yA (show w.heap.size≤g3 by rw [hg]; exact HB.out.size); have Bg3:=yA hbox; clear Bg1 Bg2 HB; have Bg1:=ng1_; have Bg2:=ng2_; have HB:=nHB_; clear hb hbox hg ng1_ ng2_ nHB_; have y1:g3_w.cell? ⟨g1,0,none⟩=some (.int .i64 A8):=(AK Bg1.out 0).trans rfl; have y2:g3_w.cell? ⟨g1,1,none⟩=some (.slice A0_1 l0_1.length c0_1):=(AK Bg1.out 1).trans rfl)|((with_reducible refine Ae (f:=29) rfl ?_); refine B6 (some 10) rfl rfl Try.func29 zI rfl #[.agg #[.int .i64 A8,.slice A0_1 l0_1.length c0_1]] rfl (by (try simp only [List.map_toArray,List.map_cons,List.map_nil]); first|done|rfl) ?_; (refine (AN.calls k A8 _ _ l0_1 true _ (Kd.C_below HR.out HB.out) HC.out HV.out).mono ?_); rintro e w5 ⟨rfl,hb⟩; refine ⟨_,rfl,?_⟩; have nHB_:=yA (AO HB.out hb); have n1_:=yA (AP Bg1.out hb); have n2_:=yA (AP Bg2.out hb); have n3_:=yA (AP Bg3.out hb); clear Bg1 Bg2 Bg3 HB hb y1 y2; have Bg1:=n1_; have Bg2:=n2_; have Bg3:=n3_; have HB:=nHB_; clear n1_ n2_ n3_ nHB_; have d1:g2≠g3:=Co Bg2.out Bg3.out zA0; have d2:=d1.symm; have y3:w5.cell? ⟨g1,1,none⟩=some (.slice A0_1 l0_1.length c0_1):=(AK Bg1.out 1).trans rfl; have z2:w5.cell? ⟨g2,0,none⟩=some (.slice none 0 0):=(AK Bg2.out 0).trans rfl; have z3:w5.cell? ⟨g3,0,none⟩=some (.int .i64 0):=(AK Bg3.out 0).trans rfl; have f2:=AJ Bg2.out 0; have f3:=AJ Bg3.out 0)|((with_reducible refine Aq (N:=5) rfl ?_); refine Av ?hg (N:=5) ?hd (cs:= #[.int .i64 0]) (t:=3) ?hr ?_; (case hd=>rfl); (case hg=>rfl); (case hr=>first|(go_simp; done)|(go_simp; rfl)); intro g5 hg g5_w hbox hb; have Eg1g5:g1≠g5:=(by rw [hg]; exact Nat.ne_of_lt (B8 Bg1.out)); have Eg5g1:=Eg1g5.symm; have Eg2g5:g2≠g5:=(by rw [hg]; exact Nat.ne_of_lt (B8 Bg2.out)); have Eg5g2:=Eg2g5.symm; have Eg3g5:g3≠g5:=(by rw [hg]; exact Nat.ne_of_lt (B8 Bg3.out)); have Eg5g3:=Eg3g5.symm; have ng1_:=yA (AP Bg1.out hb); have ng2_:=yA (AP Bg2.out hb); have ng3_:=yA (AP Bg3.out hb); have nHB_:=yA (AO HB.out hb); have Gg5:=yA (show w.heap.size≤g5 by rw [hg]; exact HB.out.size); have Bg5:=yA hbox; clear Bg1 Bg2 Bg3 HB; have Bg1:=ng1_; have Bg2:=ng2_; have Bg3:=ng3_; have HB:=nHB_; clear hb hbox hg ng1_ ng2_ ng3_ nHB_; have kg5:=AJ Bg5.out 0; have qg5:g5_w.cell? ⟨g5,0,none⟩=some (.int .i64 0):=(AK Bg5.out 0).trans rfl)|((with_reducible refine BS (t:=3) (p:=5) rfl ?_); refine BP (t:=3) (p:=5) (v:= ?vo_g5) (w1:=(g5_w.setCell ⟨g5,0,none⟩ (.int .i64 (l0_1.length:Int)))) ?hg ?ho ?hn ?hr ?_; (case ho=>rfl); (case hg=>rfl); (case hn=>rfl); (case hr=>first|(go_simp; done)|(go_simp; rfl)); intro sg5_w hw; have ng1_:Aside0 (sg5_w.heap[g1]? =some (.cells #[.int .i64 A8,.slice A0_1 l0_1.length c0_1] 34 (0,0))):=⟨(by rw [hw]; exact AV Bg1.out Eg1g5 _)⟩; have ng2_:Aside0 (sg5_w.heap[g2]? =some (.cells #[.slice none 0 0] 26 (0,0))):=⟨(by rw [hw]; exact AV Bg2.out Eg2g5 _)⟩; have ng3_:Aside0 (sg5_w.heap[g3]? =some (.cells #[.int .i64 0] 3 (0,0))):=⟨(by rw [hw]; exact AV Bg3.out Eg3g5 _)⟩; have ng5_:Aside0 (sg5_w.heap[g5]? =some (.cells #[.int .i64 (l0_1.length:Int)] 3 (0,0))):=⟨(by rw [hw]; exact An (cs:= #[.int .i64 0]) Bg5.out 0 _ rfl)⟩; have nHB_:Aside0 (Below w.heap.size w sg5_w):=⟨(by rw [hw]; exact AI HB.out Gg5.out)⟩; clear Bg1 Bg2 Bg3 Bg5 HB kg5 qg5; have Bg1:=ng1_; have Bg2:=ng2_; have Bg3:=ng3_; have Bg5:=ng5_; have HB:=nHB_; clear hw ng1_ ng2_ ng3_ ng5_ nHB_)|((with_reducible refine Aq (N:=6) rfl ?_); refine Av ?hg (N:=6) ?hd (cs:= #[.bool false]) (t:=4) ?hr ?_; (case hd=>rfl); (case hg=>rfl); (case hr=>first|(go_simp; done)|(go_simp; rfl)); intro g6 hg g6_w hbox hb; have Eg1g6:g1≠g6:=(by rw [hg]; exact Nat.ne_of_lt (B8 Bg1.out)); have Eg6g1:=Eg1g6.symm; have Eg2g6:g2≠g6:=(by rw [hg]; exact Nat.ne_of_lt (B8 Bg2.out)); have Eg6g2:=Eg2g6.symm; have Eg3g6:g3≠g6:=(by rw [hg]; exact Nat.ne_of_lt (B8 Bg3.out)); have Eg6g3:=Eg3g6.symm; have Eg5g6:g5≠g6:=(by rw [hg]; exact Nat.ne_of_lt (B8 Bg5.out)); have Eg6g5:=Eg5g6.symm; have ng1_:=yA (AP Bg1.out hb); have ng2_:=yA (AP Bg2.out hb); have ng3_:=yA (AP Bg3.out hb); have ng5_:=yA (AP Bg5.out hb); have nHB_:=yA (AO HB.out hb); have Gg6:=yA (show w.heap.size≤g6 by rw [hg]; exact HB.out.size); have Bg6:=yA hbox; clear Bg1 Bg2 Bg3 Bg5 HB; have Bg1:=ng1_; have Bg2:=ng2_; have Bg3:=ng3_; have Bg5:=ng5_; have HB:=nHB_; clear hb hbox hg ng1_ ng2_ ng3_ ng5_ nHB_; have kg6:=AJ Bg6.out 0; have qg6:g6_w.cell? ⟨g6,0,none⟩=some (.bool false):=(AK Bg6.out 0).trans rfl)|((with_reducible refine BS (t:=4) (p:=6) rfl ?_); refine BP (t:=4) (p:=6) (v:= ?vo_g6) (w1:=(g6_w.setCell ⟨g6,0,none⟩ (.bool false))) ?hg ?ho ?hn ?hr ?_; (case ho=>rfl); (case hg=>rfl); (case hn=>rfl); (case hr=>first|(go_simp; done)|(go_simp; rfl)); intro sg6_w hw; have ng1_:Aside0 (sg6_w.heap[g1]? =some (.cells #[.int .i64 A8,.slice A0_1 l0_1.length c0_1] 34 (0,0))):=⟨(by rw [hw]; exact AV Bg1.out Eg1g6 _)⟩; have ng2_:Aside0 (sg6_w.heap[g2]? =some (.cells #[.slice none 0 0] 26 (0,0))):=⟨(by rw [hw]; exact AV Bg2.out Eg2g6 _)⟩; have ng3_:Aside0 (sg6_w.heap[g3]? =some (.cells #[.int .i64 0] 3 (0,0))):=⟨(by rw [hw]; exact AV Bg3.out Eg3g6 _)⟩; have ng5_:Aside0 (sg6_w.heap[g5]? =some (.cells #[.int .i64 (l0_1.length:Int)] 3 (0,0))):=⟨(by rw [hw]; exact AV Bg5.out Eg5g6 _)⟩; have ng6_:Aside0 (sg6_w.heap[g6]? =some (.cells #[.bool false] 4 (0,0))):=⟨(by rw [hw]; exact An (cs:= #[.bool false]) Bg6.out 0 _ rfl)⟩; have nHB_:Aside0 (Below w.heap.size w sg6_w):=⟨(by rw [hw]; exact AI HB.out Gg6.out)⟩; clear Bg1 Bg2 Bg3 Bg5 Bg6 HB kg6 qg6; have Bg1:=ng1_; have Bg2:=ng2_; have Bg3:=ng3_; have Bg5:=ng5_; have Bg6:=ng6_; have HB:=nHB_; clear hw ng1_ ng2_ ng3_ ng5_ ng6_ nHB_)|((with_reducible refine Aq (N:=7) rfl ?_); refine Av ?hg (N:=7) ?hd (cs:= #[.nilFunc]) (t:=69) ?hr ?_; (case hd=>rfl); (case hg=>rfl); (case hr=>first|(go_simp; done)|(go_simp; rfl)); intro g7 hg g7_w hbox hb; have Eg1g7:g1≠g7:=(by rw [hg]; exact Nat.ne_of_lt (B8 Bg1.out)); have Eg7g1:=Eg1g7.symm; have Eg2g7:g2≠g7:=(by rw [hg]; exact Nat.ne_of_lt (B8 Bg2.out)); have Eg7g2:=Eg2g7.symm; have Eg3g7:g3≠g7:=(by rw [hg]; exact Nat.ne_of_lt (B8 Bg3.out)); have Eg7g3:=Eg3g7.symm; have Eg5g7:g5≠g7:=(by rw [hg]; exact Nat.ne_of_lt (B8 Bg5.out)); have Eg7g5:=Eg5g7.symm; have Eg6g7:g6≠g7:=(by rw [hg]; exact Nat.ne_of_lt (B8 Bg6.out)); have Eg7g6:=Eg6g7.symm; have ng1_:=yA (AP Bg1.out hb); have ng2_:=yA (AP Bg2.out hb); have ng3_:=yA (AP Bg3.out hb); have ng5_:=yA (AP Bg5.out hb); have ng6_:=yA (AP Bg6.out hb); have nHB_:=yA (AO HB.out hb); have Gg7:=yA (show w.heap.size≤g7 by rw [hg]; exact HB.out.size); have Bg7:=yA hbox; clear Bg1 Bg2 Bg3 Bg5 Bg6 HB; have Bg1:=ng1_; have Bg2:=ng2_; have Bg3:=ng3_; have Bg5:=ng5_; have Bg6:=ng6_; have HB:=nHB_; clear hb hbox hg ng1_ ng2_ ng3_ ng5_ ng6_ nHB_; have kg7:=AJ Bg7.out 0; have qg7:g7_w.cell? ⟨g7,0,none⟩=some (.nilFunc):=(AK Bg7.out 0).trans rfl)|((with_reducible refine BS (t:=69) (p:=7) rfl ?_); refine BP (t:=69) (p:=7) (v:= ?vo_g7) (w1:=(g7_w.setCell ⟨g7,0,none⟩ (.func (.func 32) #[] #[.pointer (some ⟨g5,0,none⟩),.pointer (some ⟨g1,0,none⟩),.pointer (some ⟨g6,0,none⟩),.pointer (some ⟨g3,0,none⟩),.pointer (some ⟨g2,0,none⟩),.pointer (some ⟨g7,0,none⟩)]))) ?hg ?ho ?hn ?hr ?_; (case ho=>rfl); (case hg=>rfl); (case hn=>rfl); (case hr=>first|(go_simp; done)|(go_simp; rfl)); intro sg7_w hw; have ng1_:Aside0 (sg7_w.heap[g1]? =some (.cells #[.int .i64 A8,.slice A0_1 l0_1.length c0_1] 34 (0,0))):=⟨(by rw [hw]; exact AV Bg1.out Eg1g7 _)⟩; have ng2_:Aside0 (sg7_w.heap[g2]? =some (.cells #[.slice none 0 0] 26 (0,0))):=⟨(by rw [hw]; exact AV Bg2.out Eg2g7 _)⟩; have ng3_:Aside0 (sg7_w.heap[g3]? =some (.cells #[.int .i64 0] 3 (0,0))):=⟨(by rw [hw]; exact AV Bg3.out Eg3g7 _)⟩; have ng5_:Aside0 (sg7_w.heap[g5]? =some (.cells #[.int .i64 (l0_1.length:Int)] 3 (0,0))):=⟨(by rw [hw]; exact AV Bg5.out Eg5g7 _)⟩; have ng6_:Aside0 (sg7_w.heap[g6]? =some (.cells #[.bool false] 4 (0,0))):=⟨(by rw [hw]; exact AV Bg6.out Eg6g7 _)⟩; have ng7_:Aside0 (sg7_w.heap[g7]? =some (.cells #[.func (.func 32) #[] #[.pointer (some ⟨g5,0,none⟩),.pointer (some ⟨g1,0,none⟩),.pointer (some ⟨g6,0,none⟩),.pointer (some ⟨g3,0,none⟩),.pointer (some ⟨g2,0,none⟩),.pointer (some ⟨g7,0,none⟩)]] 69 (0,0))):=⟨(by rw [hw]; exact An (cs:= #[.nilFunc]) Bg7.out 0 _ rfl)⟩; have nHB_:Aside0 (Below w.heap.size w sg7_w):=⟨(by rw [hw]; exact AI HB.out Gg7.out)⟩; clear Bg1 Bg2 Bg3 Bg5 Bg6 Bg7 HB kg7 qg7; have Bg1:=ng1_; have Bg2:=ng2_; have Bg3:=ng3_; have Bg5:=ng5_; have Bg6:=ng6_; have Bg7:=ng7_; have HB:=nHB_; clear hw ng1_ ng2_ ng3_ ng5_ ng6_ ng7_ nHB_; have qe:sg7_w.cell? ⟨g7,0,none⟩=some (.func (.func 32) #[] #[.pointer (some ⟨g5,0,none⟩),.pointer (some ⟨g1,0,none⟩),.pointer (some ⟨g6,0,none⟩),.pointer (some ⟨g3,0,none⟩),.pointer (some ⟨g2,0,none⟩),.pointer (some ⟨g7,0,none⟩)]):=(AK Bg7.out 0).trans rfl; have HI:=yA (show BInv ⟨A8,A0_1,c0_1,l0_1,(l0_1.length:Int),g5,g1,g6,g3,g2,g7⟩ w sg7_w ([],0,false) from ⟨Bg5.out,Bg1.out,Bg6.out,Bg3.out,⟨_,Bg2.out,Kd.R_nil _ _ _ _ _⟩,Bg7.out,HB.out,Eg5g3,Gg6.out,Gg3.out,Gg2.out,HR.out,HC.out⟩))|(go_at_fn 32; refine (hext sg7_w HI.out).mono ?_; rintro e w9 ⟨rfl,hI9,hK9⟩; have HI9:=yA hI9; clear hI9 hK9 HI qe))
   obtain ⟨vo,ho1,ho2⟩:=HI9.out.o
   obtain ⟨Ao,co,eo⟩:=Kd.R_slice ho2
   subst eo
   have Bo:=yA (show w9.drew.heap[g2]? =some (.cells #[.slice Ao st.1.length co] 26 (0,0)) from ho1)
   have Bl:=yA (show w9.drew.heap[g3]? =some (.cells #[.int .i64 st.2.1] 3 (0,0)) from HI9.out.l)
   have HO:=yA (Kd.R_drew ho2)
   have HB9:=yA (AD HI9.out.b)
   refine C8 (n:=5) (S:=fun w'=>w'.cell? ⟨g2,0,none⟩=some (.slice Ao st.1.length co)∧w'.cell? ⟨g3,0,none⟩=some (.int .i64 st.2.1)) (ds:=[]) #[false,false,false,false,false] zI rfl rfl ⟨(AK Bo.out 0).trans rfl,(AK Bl.out 0).trans rfl⟩ (fun hHeld=> ?_)
   clear HI9 ho1 ho2 HB Bg1 Bg2 Bg3 Bg5 Bg6 Bg7
   have hne:g2≠g3:=Co Bo.out Bl.out zA0
   have hne':=hne.symm
   generalize w9.drew=wd at hHeld Bo Bl HO HB9 ⊢
   have fo:=AJ Bo.out 0
   have fl:=AJ Bl.out 0
   refine BV (i:=0) (N:=some 23) (v:= ?_) (a':= ?_) #[true,false,false,false,false] rfl rfl zI (fun _ _ _ h=>h) (Or.inl ⟨by rfl,?_⟩) hHeld ?_ ?_; rotate_left; rintro w' ⟨s0,s1⟩; go_simp; with_reducible rfl; rotate_left; exact yB
   refine BV (i:=1) (N:=some 24) (v:= ?_) (a':= ?_) #[true,true,false,false,false] rfl rfl zI (fun _ _ _ h=>h) (Or.inl ⟨by rfl,?_⟩) hHeld ?_ ?_; rotate_left; rintro w' ⟨s0,s1⟩; go_simp; with_reducible rfl; rotate_left; exact yB
   refine one_ (i:=2) (N:=none) #[true,true,true,false,false] rfl rfl zI zA0 (fun K hK=> ?_)
   have hc0:=hHeld.1
   refine E8 (w1:=wd.setCell ⟨g2,0,none⟩ (.slice Ao st.1.length co)) (by rfl) rfl ?_ ?_
   ·first|(go_simp; done)|(go_simp; rfl)
   have Bo2:=yA (show (wd.setCell ⟨g2,0,none⟩ (.slice Ao st.1.length co)).heap[g2]? =some (.cells #[.slice Ao st.1.length co] 26 (0,0)) from An (cs:= #[.slice Ao st.1.length co]) Bo.out 0 _ rfl)
   have Bl2:=yA (AV Bl.out hne' (.slice Ao st.1.length co):(wd.setCell ⟨g2,0,none⟩ (.slice Ao st.1.length co)).heap[g3]? =_)
   have HO2:=yA (Kd.R_set HO.out Bo.out zA0 0 (.slice Ao st.1.length co))
   have HB10:=yA (AI (j:=0) (v:= .slice Ao st.1.length co) HB9.out Gg2.out)
   refine hK.out _ _ ⟨(AK Bo2.out 0).trans rfl,(AK Bl2.out 0).trans rfl⟩ (fun hHeld=> ?_)
   clear hK K hc0 Bo Bl HO HB9 fo fl
   generalize wd.setCell ⟨g2,0,none⟩ (.slice Ao st.1.length co)=we at hHeld Bo2 Bl2 HO2 HB10 ⊢
   have fo:=AJ Bo2.out 0
   have fl:=AJ Bl2.out 0
   refine one_ (i:=3) (N:=none) #[true,true,true,true,false] rfl rfl zI zA0 (fun K hK=> ?_)
   have hc0:=hHeld.2
   refine E8 (w1:=we.setCell ⟨g3,0,none⟩ (.int .i64 st.2.1)) (by rfl) rfl ?_ ?_
   ·first|(go_simp; done)|(go_simp; rfl)
   have Bl3:=yA (show (we.setCell ⟨g3,0,none⟩ (.int .i64 st.2.1)).heap[g3]? =some (.cells #[.int .i64 st.2.1] 3 (0,0)) from An (cs:= #[.int .i64 st.2.1]) Bl2.out 0 _ rfl)
   have Bo3:=yA (AV Bo2.out hne (.int .i64 st.2.1):(we.setCell ⟨g3,0,none⟩ (.int .i64 st.2.1)).heap[g2]? =_)
   have HO3:=yA (Kd.R_mono (Kd.R_far (p:=⟨g3,0,none⟩) HO2.out (fun k hk=>hk.2) (.int .i64 st.2.1)) (fun _ _=>trivial):Kd.R (Kd.int .i64) 3 _ w.heap.size (fun _=>True) _ _)
   have HB11:=yA (AI (j:=0) (v:= .int .i64 st.2.1) HB10.out Gg3.out)
   refine hK.out _ _ ⟨(AK Bo3.out 0).trans rfl,(AK Bl3.out 0).trans rfl⟩ (fun hHeld=> ?_)
   clear hK K hc0 Bo2 Bl2 HO2 HB10 fo fl
   generalize we.setCell ⟨g3,0,none⟩ (.int .i64 st.2.1)=wf at hHeld Bo3 Bl3 HO3 HB11 ⊢
   refine At (i:=4) (N:=some 4) (v:= ?_) (a':= ?_) #[true,true,true,true,true] rfl rfl zI (fun _ _ _ h=>h) (Or.inl ⟨by rfl,?_⟩) ?_ ?_; rotate_left; intro w'; go_simp; with_reducible rfl; rotate_left; exact yB
   refine CS zI ?_
   go_wp2
   have z2:=hHeld.1
   have z3:=hHeld.2
   have hs:=HS.out
   cases hs
   refine bodyPost_ret (v:= .tuple #[.slice Ao st.1.length co,.int .i64 st.2.1,.int .i64 0]) ?_ rfl ?_
   ·show (results Try.f17 _).run Try.prog _=_
    rw [results,show Try.f17.results= #[.cell 2 26,.cell 3 3,.tmp 4] from rfl]
    go_simp
   ·exact ⟨_,rfl,HO3.out,HB11.out⟩
def B4.f (k:Nat):Option (Bool):=(some (([(⟨(⟨#[97]⟩:ByteArray),2,5,([]:List Int)⟩:S64),(⟨(⟨#[98]⟩:ByteArray),2,5,([]:List Int)⟩:S64),(⟨(⟨#[99]⟩:ByteArray),3,4,([]:List Int)⟩:S64)]:List (S64)):List (S64))).bind fun y205=>((Ag.f k 2 y205 (([0,1,2]:List Int))).bind fun bt212=>((Ax.f k 2 y205 bt212.1).bind fun bt216=>((Ap.f k 2 y205).bind fun bt218=>((BG.f k 2 y205).bind fun bt220=>(if bt212.2=0 then (if bt216.2=0 then (if bt218.2=0 then (if bt220.2.2=0 then (if (bt212.1.length:Int)=3 then (if 2<(bt212.1.length:Int) then (if ((Au bt212.1 2).f1)=2 then (if bt216.1=5 then (if bt218.1=4 then (if bt220.2.1=(-1) then ((AN.f k 2 y205).bind fun t226=>(some t226)) else (some false)) else (some false)) else (some false)) else (some false)) else (none)) else (some false)) else (some false)) else (some false)) else (some false)) else (some false))))))
theorem B4.mono:∀k,LeO (B4.f k) (B4.f (k+1)):=by
 intro k
 unfold B4.f
 repeat' first
  |(with_reducible exact BG.mono _ _ _)
  |(with_reducible exact Ap.mono _ _ _)
  |(with_reducible exact Ax.mono _ _ _ _)
  |(with_reducible exact Ag.mono _ _ _ _)
  |(with_reducible exact AN.mono _ _ _)
  |(with_reducible exact LeO.refl _)
  |(with_reducible exact LeO.none _)
  |(with_reducible refine LeO.ite ?_ ?_)
  |(with_reducible refine LeO.bind ?_ (fun _=> ?_))
  |exact BG.mono _ _ _
  |exact Ap.mono _ _ _
  |exact Ax.mono _ _ _ _
  |exact Ag.mono _ _ _ _
  |exact AN.mono _ _ _
  |exact LeO.none _
  |refine LeO.ite ?_ ?_
  |refine LeO.bind ?_ (fun _=> ?_)
section
set_option maxRecDepth 100000
def exT:List S64:=[(⟨(⟨#[97]⟩:ByteArray),2,5,([]:List Int)⟩:S64),(⟨(⟨#[98]⟩:ByteArray),2,5,([]:List Int)⟩:S64),(⟨(⟨#[99]⟩:ByteArray),3,4,([]:List Int)⟩:S64)]
theorem nm (c:UInt8) (h:Bw (c.toNat:Int)=true):BK.f ⟨#[c]⟩=some true:=by
 have hb:bt ⟨#[c]⟩ 0=(c.toNat:Int):=rfl
 have hg:C7 ⟨#[c]⟩ (ByteArray.size ⟨#[c]⟩) 0=1:=by
  show C7 ⟨#[c]⟩ 1 0=1
  rw [C7,if_pos,C7]
  show Cg (bt ⟨#[c]⟩ 0)=true
  rw [hb]; unfold Cg; rw [h]; rfl
 have hl:ByteArray.toList ⟨#[c]⟩=[c]:=ByteArray.toList_eq _
 have hr:BO.f ⟨#[c]⟩=some false:=by
  unfold BO.f
  rw [hl]
  simp
 have hs:ByteArray.size ⟨#[c]⟩=1:=rfl
 unfold BK.f
 rw [hl,if_neg zA5,if_pos (by rw [hs]; decide),Bi.f,if_pos (by rw [hs]; decide),hb,if_pos h,hg,Option.bind_some,if_pos (by rw [hs]),hr]
 rfl
theorem tl (c:UInt8):ByteArray.toList ⟨#[c]⟩=[c]:=ByteArray.toList_eq _
theorem exV:AN.f 60 2 exT=some true:=by
 have na:=nm 97 zA0; have nb:=nm 98 zA0; have nc:=nm 99 zA0
 simp [exT,AN.f,AN.j0,AN.l0,AN.j2,AN.l1,AM,na,nb,nc,Br.f,wrap64,tl]
theorem awake60:B4.f 60=some true:=by
 unfold B4.f
 simp only [Option.bind_some,Ag.f,Ax.f,Ah.f,Ap.f,Ad.f,BG.f,show ([(⟨(⟨#[97]⟩:ByteArray),2,5,([]:List Int)⟩:S64),(⟨(⟨#[98]⟩:ByteArray),2,5,([]:List Int)⟩:S64),(⟨(⟨#[99]⟩:ByteArray),3,4,([]:List Int)⟩:S64)]:List S64)=exT from rfl,exV]
 decide+kernel
theorem Fa {k:Nat} {r:Bool} (h:B4.f k=some r):r=true:=by
 have h1:=DJ (fun k=>B4.mono k) (Nat.le_max_left k 60) h
 have h2:=DJ (fun k=>B4.mono k) (Nat.le_max_right k 60) awake60
 rw [h1] at h2
 exact Option.some.inj h2
end
set_option maxHeartbeats 8000000 in
theorem B4.calls0 (k:Nat) (r:Bool) (w:World) (h:B4.f k=some r) (HRT:Aside0 (r=true)):
  Calls Try.prog 9 #[] w fun e w'=>e= .returned (.bool r)∧Below w.heap.size w w':=by
 have hu64:=Try.underlying64
 have hu34:=Try.underlying34
 have HB:=yA (Below.refl w.heap.size w)
 have H:((some (([(⟨(⟨#[97]⟩:ByteArray),2,5,([]:List Int)⟩:S64),(⟨(⟨#[98]⟩:ByteArray),2,5,([]:List Int)⟩:S64),(⟨(⟨#[99]⟩:ByteArray),3,4,([]:List Int)⟩:S64)]:List (S64)):List (S64))).bind fun y205=>((Ag.f k 2 y205 (([0,1,2]:List Int))).bind fun bt212=>((Ax.f k 2 y205 bt212.1).bind fun bt216=>((Ap.f k 2 y205).bind fun bt218=>((BG.f k 2 y205).bind fun bt220=>(if bt212.2=0 then (if bt216.2=0 then (if bt218.2=0 then (if bt220.2.2=0 then (if (bt212.1.length:Int)=3 then (if 2<(bt212.1.length:Int) then (if ((Au bt212.1 2).f1)=2 then (if bt216.1=5 then (if bt218.1=4 then (if bt220.2.1=(-1) then ((AN.f k 2 y205).bind fun t226=>(some t226)) else (some false)) else (some false)) else (some false)) else (some false)) else (none)) else (some false)) else (some false)) else (some false)) else (some false)) else (some false)))))))=some r:=h
 clear h
 obtain ⟨y205,hy205⟩:∃y_:List (S64),y_=(([(⟨(⟨#[97]⟩:ByteArray),2,5,([]:List Int)⟩:S64),(⟨(⟨#[98]⟩:ByteArray),2,5,([]:List Int)⟩:S64),(⟨(⟨#[99]⟩:ByteArray),3,4,([]:List Int)⟩:S64)]:List (S64))):=⟨_,rfl⟩
 replace H:((Ag.f k 2 y205 (([0,1,2]:List Int))).bind fun bt212=>((Ax.f k 2 y205 bt212.1).bind fun bt216=>((Ap.f k 2 y205).bind fun bt218=>((BG.f k 2 y205).bind fun bt220=>(if bt212.2=0 then (if bt216.2=0 then (if bt218.2=0 then (if bt220.2.2=0 then (if (bt212.1.length:Int)=3 then (if 2<(bt212.1.length:Int) then (if ((Au bt212.1 2).f1)=2 then (if bt216.1=5 then (if bt218.1=4 then (if bt220.2.1=(-1) then ((AN.f k 2 y205).bind fun t226=>(some t226)) else (some false)) else (some false)) else (some false)) else (some false)) else (none)) else (some false)) else (some false)) else (some false)) else (some false)) else (some false))))))=some r:=by first|(rw [hy205]; with_reducible exact H)|(have H2_:=(Option.bind_some _ _).symm.trans H; rw [hy205]; with_reducible exact H2_)|(have H2_:=(Option.bind_some _ _).symm.trans H; with_reducible exact H2_)|with_reducible exact H|(rw [hy205]; exact H)|exact H
 have Ny205:=yA hy205
 clear hy205
 obtain ⟨y209,hy209⟩:∃y_:List Int,y_=(([0,1,2]:List Int)):=⟨_,rfl⟩
 replace H:((Ag.f k 2 y205 y209).bind fun bt212=>((Ax.f k 2 y205 bt212.1).bind fun bt216=>((Ap.f k 2 y205).bind fun bt218=>((BG.f k 2 y205).bind fun bt220=>(if bt212.2=0 then (if bt216.2=0 then (if bt218.2=0 then (if bt220.2.2=0 then (if (bt212.1.length:Int)=3 then (if 2<(bt212.1.length:Int) then (if ((Au bt212.1 2).f1)=2 then (if bt216.1=5 then (if bt218.1=4 then (if bt220.2.1=(-1) then ((AN.f k 2 y205).bind fun t226=>(some t226)) else (some false)) else (some false)) else (some false)) else (some false)) else (none)) else (some false)) else (some false)) else (some false)) else (some false)) else (some false))))))=some r:=by first|(rw [hy209]; with_reducible exact H)|(have H2_:=(Option.bind_some _ _).symm.trans H; rw [hy209]; with_reducible exact H2_)|(have H2_:=(Option.bind_some _ _).symm.trans H; with_reducible exact H2_)|with_reducible exact H|(rw [hy209]; exact H)|exact H
 have Ny209:=yA hy209
 clear hy209
 replace H:=Option.bind_eq_some_iff.mp H
 obtain ⟨⟨t212,t215⟩,A10,H⟩:=H
 replace H:((Ax.f k 2 y205 t212).bind fun bt216=>((Ap.f k 2 y205).bind fun bt218=>((BG.f k 2 y205).bind fun bt220=>(if t215=0 then (if bt216.2=0 then (if bt218.2=0 then (if bt220.2.2=0 then (if (t212.length:Int)=3 then (if 2<(t212.length:Int) then (if ((Au t212 2).f1)=2 then (if bt216.1=5 then (if bt218.1=4 then (if bt220.2.1=(-1) then ((AN.f k 2 y205).bind fun t226=>(some t226)) else (some false)) else (some false)) else (some false)) else (some false)) else (none)) else (some false)) else (some false)) else (some false)) else (some false)) else (some false)))))=some r:=H
 have A1:=yA A10
 clear A10
 replace H:=Option.bind_eq_some_iff.mp H
 obtain ⟨⟨t216,t217⟩,A20,H⟩:=H
 replace H:((Ap.f k 2 y205).bind fun bt218=>((BG.f k 2 y205).bind fun bt220=>(if t215=0 then (if t217=0 then (if bt218.2=0 then (if bt220.2.2=0 then (if (t212.length:Int)=3 then (if 2<(t212.length:Int) then (if ((Au t212 2).f1)=2 then (if t216=5 then (if bt218.1=4 then (if bt220.2.1=(-1) then ((AN.f k 2 y205).bind fun t226=>(some t226)) else (some false)) else (some false)) else (some false)) else (some false)) else (none)) else (some false)) else (some false)) else (some false)) else (some false)) else (some false))))=some r:=H
 have A2:=yA A20
 clear A20
 replace H:=Option.bind_eq_some_iff.mp H
 obtain ⟨⟨t218,t219⟩,A30,H⟩:=H
 replace H:((BG.f k 2 y205).bind fun bt220=>(if t215=0 then (if t217=0 then (if t219=0 then (if bt220.2.2=0 then (if (t212.length:Int)=3 then (if 2<(t212.length:Int) then (if ((Au t212 2).f1)=2 then (if t216=5 then (if t218=4 then (if bt220.2.1=(-1) then ((AN.f k 2 y205).bind fun t226=>(some t226)) else (some false)) else (some false)) else (some false)) else (some false)) else (none)) else (some false)) else (some false)) else (some false)) else (some false)) else (some false)))=some r:=H
 have A3:=yA A30
 clear A30
 replace H:=Option.bind_eq_some_iff.mp H
 obtain ⟨⟨t220,t223,t224⟩,A40,H⟩:=H
 replace H:(if t215=0 then (if t217=0 then (if t219=0 then (if t224=0 then (if (t212.length:Int)=3 then (if 2<(t212.length:Int) then (if ((Au t212 2).f1)=2 then (if t216=5 then (if t218=4 then (if t223=(-1) then ((AN.f k 2 y205).bind fun t226=>(some t226)) else (some false)) else (some false)) else (some false)) else (some false)) else (none)) else (some false)) else (some false)) else (some false)) else (some false)) else (some false))=some r:=H
 have A4:=yA A40
 clear A40
 by_cases c5:t215=0
 ·rw [if_pos c5] at H
  have c5b0:(t215==0)=true:=beq_iff_eq.mpr c5
  have c5b1:(t215 !=0)=false:=bne_eq_false_iff_eq.mpr c5
  clear c5
  by_cases c6:t217=0
  ·rw [if_pos c6] at H
   have c6b0:(t217==0)=true:=beq_iff_eq.mpr c6
   have c6b1:(t217 !=0)=false:=bne_eq_false_iff_eq.mpr c6
   clear c6
   by_cases c7:t219=0
   ·rw [if_pos c7] at H
    have c7b0:(t219==0)=true:=beq_iff_eq.mpr c7
    have c7b1:(t219 !=0)=false:=bne_eq_false_iff_eq.mpr c7
    clear c7
    by_cases c8:t224=0
    ·rw [if_pos c8] at H
     have c8b0:(t224==0)=true:=beq_iff_eq.mpr c8
     have c8b1:(t224 !=0)=false:=bne_eq_false_iff_eq.mpr c8
     clear c8
     by_cases c9:(t212.length:Int)=3
     ·rw [if_pos c9] at H
      have c9b0:((t212.length:Int)==3)=true:=beq_iff_eq.mpr c9
      have c9b1:((t212.length:Int) !=3)=false:=bne_eq_false_iff_eq.mpr c9
      clear c9
      by_cases c10:2<(t212.length:Int)
      ·rw [if_pos c10] at H
       have c10b0:decide (2<(t212.length:Int))=true:=decide_eq_true c10
       have c10b1:decide (2<t212.length)=true:=decide_eq_true zE
       clear c10
       by_cases c11:((Au t212 2).f1)=2
       ·rw [if_pos c11] at H
        have c11b0:(((Au t212 2).f1)==2)=true:=beq_iff_eq.mpr c11
        have c11b1:(((Au t212 2).f1) !=2)=false:=bne_eq_false_iff_eq.mpr c11
        clear c11
        by_cases c12:t216=5
        ·rw [if_pos c12] at H
         have c12b0:(t216==5)=true:=beq_iff_eq.mpr c12
         have c12b1:(t216 !=5)=false:=bne_eq_false_iff_eq.mpr c12
         clear c12
         by_cases c13:t218=4
         ·rw [if_pos c13] at H
          have c13b0:(t218==4)=true:=beq_iff_eq.mpr c13
          have c13b1:(t218 !=4)=false:=bne_eq_false_iff_eq.mpr c13
          clear c13
          by_cases c14:t223=(-1)
          ·rw [if_pos c14] at H
           have c14b0:(t223==(-1))=true:=beq_iff_eq.mpr c14
           have c14b1:(t223 !=(-1))=false:=bne_eq_false_iff_eq.mpr c14
           clear c14
           replace H:=Option.bind_eq_some_iff.mp H
           obtain ⟨t226,A150,H⟩:=H
           replace H:(some t226)=some r:=H
           have A15:=yA A150
           clear A150
           obtain rfl:=Option.some.inj H
           go_enter Try.func9,Try.ntmps9
           go_wp2_with (first|((with_reducible refine Aq (N:=14) rfl ?_); (try (refine BC (by rfl) ?_; dsimp only)); refine Kd.S_lit k64 _ 64 ?hg (N:=14) ?hd (xs:=([(⟨(⟨#[97]⟩:ByteArray),2,5,([]:List Int)⟩:S64),(⟨(⟨#[98]⟩:ByteArray),2,5,([]:List Int)⟩:S64),(⟨(⟨#[99]⟩:ByteArray),3,4,([]:List Int)⟩:S64)]:List (S64))) (inner:=[.string (⟨#[97]⟩:ByteArray),.int .i64 2,.int .i64 5,.slice none 0 0,.string (⟨#[98]⟩:ByteArray),.int .i64 2,.int .i64 5,.slice none 0 0,.string (⟨#[99]⟩:ByteArray),.int .i64 3,.int .i64 4,.slice none 0 0]) (ok:=fun _=>True) (okp:=fun _=>True) ?hr ?hp (fun _ hk=>hk) trivial (Below.refl _ _) (Nat.le_refl _) zA5 ?_; (case hd=>rfl); (case hg=>rfl); (case hr=>first|(go_simp; done)|(go_simp; rfl)); (case hp=>exact (Reps.c4 (show Kd.M k64 _ _ _ (⟨(⟨#[97]⟩:ByteArray),2,5,([]:List Int)⟩:S64) [.string (⟨#[97]⟩:ByteArray),.int .i64 2,.int .i64 5,.slice none 0 0] from (EZ _ _ _ (⟨(⟨#[97]⟩:ByteArray),2,5,([]:List Int)⟩:S64) (Kd.R_nil _ _ _ _ _))) (Reps.c4 (show Kd.M k64 _ _ _ (⟨(⟨#[98]⟩:ByteArray),2,5,([]:List Int)⟩:S64) [.string (⟨#[98]⟩:ByteArray),.int .i64 2,.int .i64 5,.slice none 0 0] from (EZ _ _ _ (⟨(⟨#[98]⟩:ByteArray),2,5,([]:List Int)⟩:S64) (Kd.R_nil _ _ _ _ _))) (Reps.c4 (show Kd.M k64 _ _ _ (⟨(⟨#[99]⟩:ByteArray),3,4,([]:List Int)⟩:S64) [.string (⟨#[99]⟩:ByteArray),.int .i64 3,.int .i64 4,.slice none 0 0] from (EZ _ _ _ (⟨(⟨#[99]⟩:ByteArray),3,4,([]:List Int)⟩:S64) (Kd.R_nil _ _ _ _ _))) (Reps.none _ _))))); intro v206 w16 ho17 hb hg_ hnew_; clear hg_ hnew_; (first|rw [←Ny205.out] at ho17|(simp only [Int.reduceToNat] at ho17; rw [←Ny205.out] at ho17)); have n0_:=yA (Kd.S_lower ho17 (AQ zB)); have n1_:=yA (AO zB hb); clear HB; have HO207:=n0_; have HB:=n1_; clear n0_ n1_; clear hb ho17; obtain ⟨Ao18,co18,eo18⟩:=Kd.S_slice HO207.out; subst eo18)|((with_reducible refine Aq (N:=1) rfl ?_); (try (refine BC (by rfl) ?_; dsimp only)); refine Av ?hg (N:=1) ?hd (cs:= #[.int .i64 0,.slice none 0 0]) (t:=34) ?hr ?_; (case hd=>rfl); (case hg=>rfl); (case hr=>first|(go_simp; done)|(go_simp; rfl)); intro gb208 hg w19 hbox hb; have n0_:=yA (Kd.S_below zC8 hb); have n1_:=yA (AO zB hb); have n2_:=yA (hbox); have n3_:=yA ((by rw [hg]; exact (AQ zB):w.heap.size≤gb208)); have n4_:=yA ((by rw [hg]; exact (AQ zB):w.heap.size≤gb208)); clear HO207; clear HB; have HO207:=n0_; have HB:=n1_; have BK208:=n2_; have GW208:=n3_; have GE208:=n4_; clear n0_ n1_ n2_ n3_ n4_; clear hb hbox hg; have hcz20_0:w19.cell? ⟨gb208,0,none⟩=some (.int .i64 0):=(AK BK208.out 0).trans rfl; have hcz20_1:w19.cell? ⟨gb208,1,none⟩=some (.slice none 0 0):=(AK BK208.out 1).trans rfl; have hfz20_0:=AJ BK208.out 0; have hfz20_1:=AJ BK208.out 1)|((with_reducible refine Aq (N:=18) rfl ?_); (try (refine BC (by rfl) ?_; dsimp only)); refine Kd.R_lit (Kd.int .i64) _ 3 ?hg (N:=18) ?hd (xs:=([0,1,2]:List Int)) (inner:=[.int .i64 0,.int .i64 1,.int .i64 2]) (ok:=fun _=>True) (okp:=fun _=>True) ?hr ?hp (fun _ hk=>hk) trivial (Below.refl _ _) (Nat.le_refl _) zA5 ?_; (case hd=>rfl); (case hg=>rfl); (case hr=>first|(go_simp; done)|(go_simp; rfl)); (case hp=>exact (Reps.one (show Kd.M (Kd.int .i64) _ _ _ 0 [.int .i64 0] from rfl) (Reps.one (show Kd.M (Kd.int .i64) _ _ _ 1 [.int .i64 1] from rfl) (Reps.one (show Kd.M (Kd.int .i64) _ _ _ 2 [.int .i64 2] from rfl) (Reps.none _ _))))); intro v210 w21 ho22 hb hg_ hnew_; clear hg_ hnew_; (first|rw [←Ny209.out] at ho22|(simp only [Int.reduceToNat] at ho22; rw [←Ny209.out] at ho22)); have n0_:=yA (Kd.S_elder' (by (with_reducible repeat (first|apply Kd.S_alloc|apply Kd.S_drewN|apply Kd.S_drew)); exact (Kd.S_mono (Kd.S_far (p:=⟨gb208,1,none⟩) (Kd.S_far (p:=⟨gb208,0,none⟩) (Kd.S_types HO207.out BK208.out zA0) (fun _ hk=>hk.2) (.int .i64 2)) (fun _ hk=>hk.2) (.slice Ao18 y205.length co18)) (fun _ h_=>h_.1))) (Kd.R_base ho22) hb); have n1_:=yA (Kd.R_lower ho22 (AQ zB2)); have n2_:=yA (AP (g:=gb208) (o:= .cells #[.int .i64 2,.slice Ao18 y205.length co18] 34 (0,0)) (by (with_reducible repeat (first|refine AF ?_ _|refine AH ?_|refine AG ?_ _)); refine An (cs:= #[.int .i64 2,.slice none 0 0]) ?_ 1 _ rfl; (with_reducible repeat (first|refine AF ?_ _|refine AH ?_|refine AG ?_ _)); refine An (cs:= #[.int .i64 0,.slice none 0 0]) ?_ 0 _ rfl; (with_reducible repeat (first|refine AF ?_ _|refine AH ?_|refine AG ?_ _)); exact BK208.out) hb); have n3_:=yA (AO zB2 hb); clear HO207; clear BK208; clear HB; have HO207:=n0_; have HO211:=n1_; have BK208:=n2_; have HB:=n3_; clear n0_ n1_ n2_ n3_; clear hb ho22; obtain ⟨Ao23,co23,eo23⟩:=Kd.R_slice HO211.out; subst eo23)|((with_reducible refine Ae (f:=15) rfl ?_); refine B6 (some 19) rfl rfl Try.func15 zI rfl #[.agg #[.int .i64 2,.slice Ao18 y205.length co18],.slice Ao23 y209.length co23] rfl zD ?_; (with_reducible refine (Ag.calls k 2 _ _ y205 _ _ y209 t212 t215 _ ?side1 ?side2 ?side3 ?side4 A1.out).mono ?_); (case side1=>repeat (first|exact (Kd.S_reads' HO207.out).2.2|(with_reducible refine Kd.C_alloc ?_ _)|(with_reducible refine Kd.C_drewN ?_ _)|(with_reducible refine Kd.C_drew ?_))); (case side2=>exact (Kd.S_reads' HO207.out).2.1); (case side3=>repeat (first|exact (Kd.R_reads' HO211.out).2.2|(with_reducible refine Kd.C_alloc ?_ _)|(with_reducible refine Kd.C_drewN ?_ _)|(with_reducible refine Kd.C_drew ?_))); (case side4=>exact (Kd.R_reads' HO211.out).2.1); rintro e w24 ⟨v213,rfl,ho0,hb⟩; refine ⟨_,rfl,?_⟩; have n0_:=yA (Kd.S_below zC8 hb); have n1_:=yA (Kd.R_below zC9 hb); have n2_:=yA (Kd.R_lower ho0 (AQ zB2)); have n3_:=yA (AP (g:=gb208) (o:= .cells #[.int .i64 2,.slice Ao18 y205.length co18] 34 (0,0)) (by (with_reducible repeat (first|refine AF ?_ _|refine AH ?_|refine AG ?_ _)); exact BK208.out) hb); have n4_:=yA (AO zB2 hb); clear HO207; clear HO211; clear BK208; clear HB; have HO207:=n0_; have HO211:=n1_; have HO214:=n2_; have BK208:=n3_; have HB:=n4_; clear n0_ n1_ n2_ n3_ n4_; (try clear hb); (try clear hb2); (try clear hk); (try clear hi); (try clear ho0); have hcz25_0:w24.cell? ⟨gb208,0,none⟩=some (.int .i64 2):=(AK BK208.out 0).trans rfl; have hcz25_1:w24.cell? ⟨gb208,1,none⟩=some (.slice Ao18 y205.length co18):=(AK BK208.out 1).trans rfl; have hfz25_0:=AJ BK208.out 0; have hfz25_1:=AJ BK208.out 1; obtain ⟨Ao26,co26,eo26⟩:=Kd.R_slice HO214.out; subst eo26)|((with_reducible refine Ae (f:=13) rfl ?_); refine B6 (some 25) rfl rfl Try.func13 zI rfl #[.agg #[.int .i64 2,.slice Ao18 y205.length co18],.slice Ao26 t212.length co26] rfl zD ?_; (with_reducible refine (Ax.calls k 2 _ _ y205 _ _ t212 t216 t217 _ ?side1 ?side2 ?side3 ?side4 A2.out).mono ?_); (case side1=>repeat (first|exact (Kd.S_reads' HO207.out).2.2|(with_reducible refine Kd.C_alloc ?_ _)|(with_reducible refine Kd.C_drewN ?_ _)|(with_reducible refine Kd.C_drew ?_))); (case side2=>exact (Kd.S_reads' HO207.out).2.1); (case side3=>repeat (first|exact (Kd.R_reads' HO214.out).2.2|(with_reducible refine Kd.C_alloc ?_ _)|(with_reducible refine Kd.C_drewN ?_ _)|(with_reducible refine Kd.C_drew ?_))); (case side4=>exact (Kd.R_reads' HO214.out).2.1); rintro e w27 ⟨rfl,hb⟩; refine ⟨_,rfl,?_⟩; have n0_:=yA (Kd.S_below zC8 hb); have n1_:=yA (Kd.R_below zC9 hb); have n2_:=yA (Kd.R_below (by (with_reducible repeat (first|apply Kd.R_alloc|apply Kd.R_drewN|apply Kd.R_drew)); exact HO214.out) hb); have n3_:=yA (AP (g:=gb208) (o:= .cells #[.int .i64 2,.slice Ao18 y205.length co18] 34 (0,0)) (by (with_reducible repeat (first|refine AF ?_ _|refine AH ?_|refine AG ?_ _)); exact BK208.out) hb); have n4_:=yA (AO zB2 hb); clear HO207; clear HO211; clear HO214; clear BK208; clear HB; have HO207:=n0_; have HO211:=n1_; have HO214:=n2_; have BK208:=n3_; have HB:=n4_; clear n0_ n1_ n2_ n3_ n4_; (try clear hb); (try clear hb2); (try clear hk); (try clear hi); have hcz28_0:w27.cell? ⟨gb208,0,none⟩=some (.int .i64 2):=(AK BK208.out 0).trans rfl; have hcz28_1:w27.cell? ⟨gb208,1,none⟩=some (.slice Ao18 y205.length co18):=(AK BK208.out 1).trans rfl; have hfz28_0:=AJ BK208.out 0; have hfz28_1:=AJ BK208.out 1)|((with_reducible refine Ae (f:=11) rfl ?_); refine B6 (some 30) rfl rfl Try.func11 zI rfl #[.agg #[.int .i64 2,.slice Ao18 y205.length co18]] rfl zD ?_; (with_reducible refine (Ap.calls k 2 _ _ y205 t218 t219 _ ?side1 ?side2 A3.out).mono ?_); (case side1=>repeat (first|exact (Kd.S_reads' HO207.out).2.2|(with_reducible refine Kd.C_alloc ?_ _)|(with_reducible refine Kd.C_drewN ?_ _)|(with_reducible refine Kd.C_drew ?_))); (case side2=>exact (Kd.S_reads' HO207.out).2.1); rintro e w29 ⟨rfl,hb⟩; refine ⟨_,rfl,?_⟩; have n0_:=yA (Kd.S_below zC8 hb); have n1_:=yA (Kd.R_below zC9 hb); have n2_:=yA (Kd.R_below (by (with_reducible repeat (first|apply Kd.R_alloc|apply Kd.R_drewN|apply Kd.R_drew)); exact HO214.out) hb); have n3_:=yA (AP (g:=gb208) (o:= .cells #[.int .i64 2,.slice Ao18 y205.length co18] 34 (0,0)) (by (with_reducible repeat (first|refine AF ?_ _|refine AH ?_|refine AG ?_ _)); exact BK208.out) hb); have n4_:=yA (AO zB2 hb); clear HO207; clear HO211; clear HO214; clear BK208; clear HB; have HO207:=n0_; have HO211:=n1_; have HO214:=n2_; have BK208:=n3_; have HB:=n4_; clear n0_ n1_ n2_ n3_ n4_; (try clear hb); (try clear hb2); (try clear hk); (try clear hi); have hcz30_0:w29.cell? ⟨gb208,0,none⟩=some (.int .i64 2):=(AK BK208.out 0).trans rfl; have hcz30_1:w29.cell? ⟨gb208,1,none⟩=some (.slice Ao18 y205.length co18):=(AK BK208.out 1).trans rfl; have hfz30_0:=AJ BK208.out 0; have hfz30_1:=AJ BK208.out 1)|((with_reducible refine Ae (f:=17) rfl ?_); refine B6 (some 35) rfl rfl Try.func17 zI rfl #[.agg #[.int .i64 2,.slice Ao18 y205.length co18]] rfl zD ?_; (with_reducible refine (BG.calls k 2 _ _ y205 t220 t223 t224 _ ?side1 ?side2 A4.out).mono ?_); (case side1=>repeat (first|exact (Kd.S_reads' HO207.out).2.2|(with_reducible refine Kd.C_alloc ?_ _)|(with_reducible refine Kd.C_drewN ?_ _)|(with_reducible refine Kd.C_drew ?_))); (case side2=>exact (Kd.S_reads' HO207.out).2.1); rintro e w31 ⟨v221,rfl,ho0,hb⟩; refine ⟨_,rfl,?_⟩; have n0_:=yA (Kd.S_elder' zC8 (Kd.R_base ho0) hb); have n1_:=yA (Kd.R_elder' zC9 (Kd.R_base ho0) hb); have n2_:=yA (Kd.R_below (by (with_reducible repeat (first|apply Kd.R_alloc|apply Kd.R_drewN|apply Kd.R_drew)); exact HO214.out) hb); have n3_:=yA (Kd.R_lower (Kd.R_new' ho0 (Kd.R_lt zC9)) (AQ zB2)); have n4_:=yA (AP (g:=gb208) (o:= .cells #[.int .i64 2,.slice Ao18 y205.length co18] 34 (0,0)) (by (with_reducible repeat (first|refine AF ?_ _|refine AH ?_|refine AG ?_ _)); exact BK208.out) hb); have n5_:=yA (AO zB2 hb); clear HO207; clear HO211; clear HO214; clear BK208; clear HB; have HO207:=n0_; have HO211:=n1_; have HO214:=n2_; have HO222:=n3_; have BK208:=n4_; have HB:=n5_; clear n0_ n1_ n2_ n3_ n4_ n5_; (try clear hb); (try clear hb2); (try clear hk); (try clear hi); (try clear ho0); have p225:0≤(2:Int):=zE; have q225:2<(t212.length:Int):=yD; obtain ⟨ad225,e225,hx225_0,hx225_1⟩:=Bp (Kd.R_reads' HO214.out).2.2 2 p225 q225; cases e225; (try simp only [show (2:Int).toNat=2 from rfl,Nat.reduceMul,Nat.reduceEqDiff,Go.Addr.add,↓reduceIte] at hx225_0); (try simp only [show (2:Int).toNat=2 from rfl,Nat.reduceMul,Nat.reduceEqDiff,Go.Addr.add,↓reduceIte] at hx225_1); have qi225:(2<t212.length)=True:=eq_true zE; (try rw [show ((2:Int)).toNat=2 from rfl] at hx225_0); (try rw [show 2*2=4 from rfl] at hx225_0); (try rw [show ((2:Int)).toNat=2 from rfl] at hx225_1); (try rw [show 2*2=4 from rfl] at hx225_1); replace p225:=eq_true p225; replace q225:=eq_true q225; have hcz32_0:w31.cell? ⟨gb208,0,none⟩=some (.int .i64 2):=(AK BK208.out 0).trans rfl; have hcz32_1:w31.cell? ⟨gb208,1,none⟩=some (.slice Ao18 y205.length co18):=(AK BK208.out 1).trans rfl; have hfz32_0:=AJ BK208.out 0; have hfz32_1:=AJ BK208.out 1)|(go_at_call 29; (with_reducible refine (AN.calls k 2 _ _ y205 t226 _ ?side1 ?side2 A15.out).mono ?_); (case side1=>repeat (first|exact (Kd.S_reads' HO207.out).2.2|(with_reducible refine Kd.C_alloc ?_ _)|(with_reducible refine Kd.C_drewN ?_ _)|(with_reducible refine Kd.C_drew ?_))); (case side2=>exact (Kd.S_reads' HO207.out).2.1); rintro e w33 ⟨rfl,hb⟩; have n0_:=yA (Kd.S_below zC8 hb); have n1_:=yA (Kd.R_below zC9 hb); have n2_:=yA (Kd.R_below (by (with_reducible repeat (first|apply Kd.R_alloc|apply Kd.R_drewN|apply Kd.R_drew)); exact HO214.out) hb); have n3_:=yA (Kd.R_below (by (with_reducible repeat (first|apply Kd.R_alloc|apply Kd.R_drewN|apply Kd.R_drew)); exact HO222.out) hb); have n4_:=yA (AP (g:=gb208) (o:= .cells #[.int .i64 2,.slice Ao18 y205.length co18] 34 (0,0)) (by (with_reducible repeat (first|refine AF ?_ _|refine AH ?_|refine AG ?_ _)); exact BK208.out) hb); have n5_:=yA (AO zB2 hb); clear HO207; clear HO211; clear HO214; clear HO222; clear BK208; clear HB; have HO207:=n0_; have HO211:=n1_; have HO214:=n2_; have HO222:=n3_; have BK208:=n4_; have HB:=n5_; clear n0_ n1_ n2_ n3_ n4_ n5_; (try clear hb); (try clear hb2); (try clear hk); (try clear hi)))
           go_ret
           exact ⟨by first|rfl|(simp [AY,AX]<;>rfl)|(simp [*,AY,AX]<;>rfl),by repeat (first|(with_reducible first|exact HB.out|apply AE|apply AC|apply AD|refine AI ?_ GE208.out)|exact HB.out)⟩
          ·rw [if_neg c14] at H
           have c14b0:(t223==(-1))=false:=beq_eq_false_iff_ne.mpr c14
           have c14b1:(t223 !=(-1))=true:=bne_iff_ne.mpr c14
           obtain rfl:=Option.some.inj H
           exact absurd HRT.out zA0
         ·rw [if_neg c13] at H
          have c13b0:(t218==4)=false:=beq_eq_false_iff_ne.mpr c13
          have c13b1:(t218 !=4)=true:=bne_iff_ne.mpr c13
          obtain rfl:=Option.some.inj H
          exact absurd HRT.out zA0
        ·rw [if_neg c12] at H
         have c12b0:(t216==5)=false:=beq_eq_false_iff_ne.mpr c12
         have c12b1:(t216 !=5)=true:=bne_iff_ne.mpr c12
         obtain rfl:=Option.some.inj H
         exact absurd HRT.out zA0
       ·rw [if_neg c11] at H
        have c11b0:(((Au t212 2).f1)==2)=false:=beq_eq_false_iff_ne.mpr c11
        have c11b1:(((Au t212 2).f1) !=2)=true:=bne_iff_ne.mpr c11
        obtain rfl:=Option.some.inj H
        exact absurd HRT.out zA0
      ·rw [if_neg c10] at H
       exact absurd H zA5
     ·rw [if_neg c9] at H
      have c9b0:((t212.length:Int)==3)=false:=beq_eq_false_iff_ne.mpr c9
      have c9b1:((t212.length:Int) !=3)=true:=bne_iff_ne.mpr c9
      obtain rfl:=Option.some.inj H
      exact absurd HRT.out zA0
    ·rw [if_neg c8] at H
     have c8b0:(t224==0)=false:=beq_eq_false_iff_ne.mpr c8
     have c8b1:(t224 !=0)=true:=bne_iff_ne.mpr c8
     obtain rfl:=Option.some.inj H
     exact absurd HRT.out zA0
   ·rw [if_neg c7] at H
    have c7b0:(t219==0)=false:=beq_eq_false_iff_ne.mpr c7
    have c7b1:(t219 !=0)=true:=bne_iff_ne.mpr c7
    obtain rfl:=Option.some.inj H
    exact absurd HRT.out zA0
  ·rw [if_neg c6] at H
   have c6b0:(t217==0)=false:=beq_eq_false_iff_ne.mpr c6
   have c6b1:(t217 !=0)=true:=bne_iff_ne.mpr c6
   obtain rfl:=Option.some.inj H
   exact absurd HRT.out zA0
 ·rw [if_neg c5] at H
  have c5b0:(t215==0)=false:=beq_eq_false_iff_ne.mpr c5
  have c5b1:(t215 !=0)=true:=bne_iff_ne.mpr c5
  obtain rfl:=Option.some.inj H
  exact absurd HRT.out zA0
theorem B4.calls (k:Nat) (r:Bool) (w:World) (h:B4.f k=some r):
 Calls Try.prog 9 #[] w fun e w'=>e= .returned (.bool r)∧Below w.heap.size w w':=B4.calls0 k r w h (yA (Fa h))
end Go.Proofs.Ytdadecjefafflaa.PLst
end
