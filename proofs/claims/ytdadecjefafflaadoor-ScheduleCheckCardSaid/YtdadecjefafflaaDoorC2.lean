/- A part of what the law's proof leans on. PACKED BY pack.py of this repo. -/
import Derived.Test.YtdadecjefafflaaDoorC1
set_option linter.unusedVariables false
set_option linter.unusedSimpArgs false
set_option linter.defProp false
set_option linter.unusedSectionVars false
section
namespace Go.Proofs.YtdadecjefafflaaDoor.PChk
set_option maxRecDepth 100000
open Go.RowKit Go.Proofs.YtdadecjefafflaaDoorW.PrintWords Go.Proofs.YtdadecjefafflaaDoorW.PrintLast Go.Proofs.YtdadecjefafflaaDoorW.PrintMore
attribute [local go_sem] Ba BX Be Bd BS BR BZ BW
def Cy (pl:List Bool) (a:Int):Option Bool:=if 0≤a then (if a<(pl.length:Int) then some (!rdOf false pl a) else none) else none
theorem li_not (A1:Option Addr) (c1:Nat) (pl:List Bool) (a:Int) (b:Bool) (g:Nat) (w:World) (hr:Kd.C Kd.bool w A1 pl.length pl) (h:Cy pl a=some b) (hb:w.heap[g]? =some (.cells #[.slice A1 pl.length c1] 73 (0,0))):
  Calls Tryd.prog 57 #[.int .i64 a,.pointer (some ⟨g,0,none⟩)] w fun e w'=>e= .returned (.bool b)∧Below w.heap.size w w':=by
 unfold Cy at h
 by_cases c0:0≤a
 ·rw [if_pos c0] at h
  by_cases c4:a<(pl.length:Int)
  ·rw [if_pos c4] at h
   cases h
   have hy:w.cell? ⟨g,0,none⟩=some (.slice A1 pl.length c1):=(AK hb 0).trans rfl
   obtain ⟨ad,e1,hx0⟩:=Kd.at_bool hr a c0 c4
   cases e1
   have c0b:=eq_true c0
   have c4b:=eq_true c4
   clear hr hb c0 c4
   go_enter Tryd.func57,Tryd.ntmps57
   go_wp2
   all_goals (go_ret; exact ⟨by first|rfl|(simp; done)|(simp [*]; done),by repeat (first|exact Below.refl _ _|apply AC|apply AD)⟩)
  ·rw [if_neg c4] at h; cases h
 ·rw [if_neg c0] at h; cases h
def ready (pl:List Bool) (ts:List S49) (i:Int):Option Bool:=(Cy pl i).bind fun b=>if b=true then (if i<(ts.length:Int) then (anyO (Cy pl) (AM ts i).f3).map (fun b=> !b) else none) else some false
open Go.Shelf in
theorem FZ (A1:Option Addr) (c1:Nat) (pl:List Bool) (m:Int) (A2:Option Addr) (c2:Nat) (ts:List S49) (i:Int) (b:Bool) (g1 g2:Nat) (w:World) (hr:Kd.C Kd.bool w A1 pl.length pl) (hr2:Kd.C k49 w A2 ts.length ts) (h:ready pl ts i=some b)
  (hb1:w.heap[g1]? =some (.cells #[.slice A1 pl.length c1] 73 (0,0))) (hb2:w.heap[g2]? =some (.cells #[.int .i64 m,.slice A2 ts.length c2] 33 (0,0))):
  Calls Tryd.prog 56 #[.int .i64 i,.pointer (some ⟨g1,0,none⟩),.pointer (some ⟨g2,0,none⟩)] w fun e w'=>e= .returned (.bool b)∧Below w.heap.size w w':=by
 unfold ready at h
 rw [Option.bind_eq_some_iff] at h
 obtain ⟨b1,h1,h⟩:=h
 have h1':=h1
 unfold Cy at h1
 by_cases c0:0≤i
 ·rw [if_pos c0] at h1
  by_cases c4:i<(pl.length:Int)
  ·rw [if_pos c4] at h1
   cases h1
   have hy:w.cell? ⟨g1,0,none⟩=some (.slice A1 pl.length c1):=(AK hb1 0).trans rfl
   obtain ⟨ad,e1,hx0⟩:=Kd.at_bool hr i c0 c4
   cases e1
   have c0b:=eq_true c0
   have c4b:=eq_true c4
   have HR:=yA hr
   have HB1:=yA hb1
   cases hv:rdOf false pl i with
   | true=>
    rw [hv] at h hx0
    obtain rfl:b=false:=by simpa using h.symm
    clear hr hr2 hb1 hb2 h1' h hv c0 c4
    go_enter Tryd.func56,Tryd.ntmps56
    go_wp2
    all_goals (go_ret; exact ⟨by first|rfl|(simp; done)|(simp [*]; done),by repeat (first|exact Below.refl _ _|apply AC|apply AD)⟩)
   | false=>
    rw [hv] at h hx0
    simp only [Bool.not_false,if_true] at h
    by_cases c5:i<(ts.length:Int)
    ·rw [if_pos c5,Option.map_eq_some_iff] at h
     obtain ⟨b2,h2,rfl⟩:=h
     have hy2:w.cell? ⟨g2,1,none⟩=some (.slice A2 ts.length c2):=(AK hb2 1).trans rfl
     obtain ⟨ad2,A3,c3,e2,hx20,hx21,hx22,hx23,hl3,hi3⟩:=C9 hr2 i c0 c5
     cases e2
     have c5b:=eq_true c5
     have hp:PredI w 57 #[.pointer (some ⟨g1,0,none⟩)] (Cy pl):=fun W x b hW hx=>by
      show Calls Tryd.prog 57 #[.int .i64 x,.pointer (some ⟨g1,0,none⟩)] W _
      exact (li_not (some ad) c1 pl x b g1 W (Kd.C_below hr hW) hx (AP hb1 hW)).mono fun e w' h=>⟨h.1,C5 hW hW.size h.2⟩
     have hq:=fun W (hW:Below w.heap.size w W)=>ctf_I w 57 _ _ (enters_of Tryd.func57 zE rfl) hp A3 c3 (AM ts i).f3 hi3 b2 h2 W hW
     clear hr hr2 hb1 hb2 h1' h2 hp hv c0 c4 c5 hl3 hi3 hx20 hx21 hx22
     go_enter Tryd.func56,Tryd.ntmps56
     go_wp2_with (first|(go_at_call 36; (with_reducible refine (hq _ (by repeat (first|exact Below.refl _ _|apply AC|apply AD))).mono ?_); rintro e w' ⟨rfl,hb⟩))
     all_goals (go_ret; exact ⟨by first|rfl|(simp; done)|(simp [*]; done),hb⟩)
    ·rw [if_neg c5] at h; cases h
  ·rw [if_neg c4] at h1; cases h1
 ·rw [if_neg c0] at h1; cases h1
def CP.f (l0:List Int) (l1:List Bool) (AB:Int) (l2_1:List S49):Option Int:=ixO (ready l1 l2_1) l0 0
open Go.Shelf in
theorem CP.calls (A0:Option Addr) (c0:Nat) (l0:List Int) (A1:Option Addr) (c1:Nat) (l1:List Bool) (AB:Int) (A2_1:Option Addr) (c2_1:Nat) (l2_1:List S49) (r:Int) (w:World) (hr0:Kd.C (Kd.int .i64) w A0 l0.length l0) (hc0:l0.length≤c0) (hr1:Kd.C Kd.bool w A1 l1.length l1) (hc1:l1.length≤c1) (hr2_1:Kd.C k49 w A2_1 l2_1.length l2_1) (hc2_1:l2_1.length≤c2_1) (h:CP.f l0 l1 AB l2_1=some r) {g1 g2:Nat}
  (hb1:w.heap[g1]? =some (.cells #[.slice A1 l1.length c1] 73 (0,0))) (hb2:w.heap[g2]? =some (.cells #[.int .i64 AB,.slice A2_1 l2_1.length c2_1] 33 (0,0))):
  Calls Tryd.prog 55 #[.slice A0 l0.length c0,.func (.func 56) #[] #[.pointer (some ⟨g1,0,none⟩),.pointer (some ⟨g2,0,none⟩)]] w fun e w'=>e= .returned (.int .i64 r)∧Below w.heap.size w w':=by
 have hp:PredI w 56 #[.pointer (some ⟨g1,0,none⟩),.pointer (some ⟨g2,0,none⟩)] (ready l1 l2_1):=fun W x b hW hx=>by
  show Calls Tryd.prog 56 #[.int .i64 x,.pointer (some ⟨g1,0,none⟩),.pointer (some ⟨g2,0,none⟩)] W _
  exact (FZ A1 c1 l1 AB A2_1 c2_1 l2_1 x b g1 g2 W (Kd.C_below hr1 hW) (Kd.C_below hr2_1 hW) hx (AP hb1 hW) (AP hb2 hW)).mono fun e w' h=>⟨h.1,C5 hW hW.size h.2⟩
 exact ixf_I w 56 _ _ (enters_of Tryd.func56 zE rfl) hp A0 c0 l0 hr0 r h w (Below.refl _ _)
mutual
def Ag.l0:Nat→List Int→List (S56)→List Int→Int→Int→List Bool→Int→List (S49)→Option ((List (S56)))
 |0,_,_,_,_,_,_,_,_=>none
 |k+1,x1,x5,x7,x23,x24,x76,x143000,x143001=>if x24<x23 then ((CP.f x1 x76 x143000 x143001).bind fun t153=>(if 0≤t153 then (if t153<(x1.length:Int) then ((BT.f x7).bind fun t155=>((Ak.f k x7 t155).bind fun t156=>(if 0≤t156 then (if t156<(x7.length:Int) then (if 0≤(rd x1 t153) then (if (rd x1 t153)<(x143001.length:Int) then (Ag.l1 k x1 x5 x7 (rd x1 t153) t156 (rd x7 t156) x23 x24 ((AM x143001 (rd x1 t153)).f3) (((AM x143001 (rd x1 t153)).f3).length:Int) 0 x76 x143000 x143001) else (none)) else (none)) else (none)) else (none)))) else (none)) else (none))) else (some x5)
def Ag.l1:Nat→List Int→List (S56)→List Int→Int→Int→Int→Int→Int→List Int→Int→Int→List Bool→Int→List (S49)→Option ((List (S56)))
 |0,_,_,_,_,_,_,_,_,_,_,_,_,_,_=>none
 |k+1,x1,x5,x7,x8,x9,x10,x23,x24,x45,x46,x47,x76,x143000,x143001=>if x47<x46 then (if 0≤x47 then (if x47<(x45.length:Int) then ((BC.f x143000 x143001 x5 (rd x45 x47)).bind fun t160=>(Ag.l1 k x1 x5 x7 x8 x9 (mx x10 t160) x23 x24 x45 x46 (wrap64 (x47+1)) x76 x143000 x143001)) else (none)) else (none)) else (if 0≤x8 then (if x8<(x5.length:Int) then ((some (x5.set (x8:Int).toNat (⟨x9,x10⟩:S56):List (S56))).bind fun y161=>(if x8<(x76.length:Int) then ((BC.f x143000 x143001 y161 x8).bind fun t163=>(if 0≤x9 then (if x9<(x7.length:Int) then (Ag.l0 k x1 y161 (x7.set (x9:Int).toNat t163) x23 (wrap64 (x24+1)) (x76.set (x8:Int).toNat true) x143000 x143001) else (none)) else (none))) else (none))) else (none)) else (none))
end
def Ag.f (k:Nat) (A8:Int) (l0_1:List (S49)) (l1:List Int):Option ((List (S56))):=if 0≤(l1.length:Int) then (if ((l1.length:Int):Int).toNat≤17592186044416 then (if ((l1.length:Int):Int).toNat≤281474976710656 then (if 0≤A8 then (if (A8:Int).toNat≤35184372088832 then (Ag.l0 k l1 (List.replicate ((l1.length:Int):Int).toNat z56) (List.replicate (A8:Int).toNat 0) (l1.length:Int) 0 (List.replicate ((l1.length:Int):Int).toNat false) A8 l0_1) else (none)) else (none)) else (none)) else (none)) else (none)
theorem Ag.mono_l:∀k,(∀y0 y1 y2 y3 y4 y5 y6 y7,LeO (Ag.l0 k y0 y1 y2 y3 y4 y5 y6 y7) (Ag.l0 (k+1) y0 y1 y2 y3 y4 y5 y6 y7))∧(∀y0 y1 y2 y3 y4 y5 y6 y7 y8 y9 y10 y11 y12 y13,LeO (Ag.l1 k y0 y1 y2 y3 y4 y5 y6 y7 y8 y9 y10 y11 y12 y13) (Ag.l1 (k+1) y0 y1 y2 y3 y4 y5 y6 y7 y8 y9 y10 y11 y12 y13))
 |0=>⟨fun _ _ _ _ _ _ _ _ r h=>by simp [Ag.l0] at h,fun _ _ _ _ _ _ _ _ _ _ _ _ _ _ r h=>by simp [Ag.l1] at h⟩
 | k +1=>by
  obtain ⟨ih0,ih1⟩:=Ag.mono_l k
  refine ⟨?_,?_⟩
  ·intro y0 y1 y2 y3 y4 y5 y6 y7
   unfold Ag.l0
   repeat' first
   |(with_reducible exact ih0 _ _ _ _ _ _ _ _)
   |(with_reducible exact ih1 _ _ _ _ _ _ _ _ _ _ _ _ _ _)
   |(with_reducible exact Ak.mono _ _ _)
   |(with_reducible exact LeO.refl _)
   |(with_reducible exact LeO.none _)
   |(with_reducible refine LeO.ite ?_ ?_)
   |(with_reducible refine LeO.bind ?_ (fun _=> ?_))
   |exact ih0 _ _ _ _ _ _ _ _
   |exact ih1 _ _ _ _ _ _ _ _ _ _ _ _ _ _
   |exact Ak.mono _ _ _
   |exact LeO.none _
   |refine LeO.ite ?_ ?_
   |refine LeO.bind ?_ (fun _=> ?_)
  ·intro y0 y1 y2 y3 y4 y5 y6 y7 y8 y9 y10 y11 y12 y13
   unfold Ag.l1
   repeat' first
   |(with_reducible exact ih0 _ _ _ _ _ _ _ _)
   |(with_reducible exact ih1 _ _ _ _ _ _ _ _ _ _ _ _ _ _)
   |(with_reducible exact Ak.mono _ _ _)
   |(with_reducible exact LeO.refl _)
   |(with_reducible exact LeO.none _)
   |(with_reducible refine LeO.ite ?_ ?_)
   |(with_reducible refine LeO.bind ?_ (fun _=> ?_))
   |exact ih0 _ _ _ _ _ _ _ _
   |exact ih1 _ _ _ _ _ _ _ _ _ _ _ _ _ _
   |exact Ak.mono _ _ _
   |exact LeO.none _
   |refine LeO.ite ?_ ?_
   |refine LeO.bind ?_ (fun _=> ?_)
theorem Ag.mono:∀a0 a1 a2 k,LeO (Ag.f k a0 a1 a2) (Ag.f (k+1) a0 a1 a2):=by
 intro a0 a1 a2 k
 obtain ⟨ih0,ih1⟩:=Ag.mono_l k
 unfold Ag.f
 repeat' first
  |(with_reducible exact ih0 _ _ _ _ _ _ _ _)
  |(with_reducible exact ih1 _ _ _ _ _ _ _ _ _ _ _ _ _ _)
  |(with_reducible exact Ak.mono _ _ _)
  |(with_reducible exact LeO.refl _)
  |(with_reducible exact LeO.none _)
  |(with_reducible refine LeO.ite ?_ ?_)
  |(with_reducible refine LeO.bind ?_ (fun _=> ?_))
  |exact ih0 _ _ _ _ _ _ _ _
  |exact ih1 _ _ _ _ _ _ _ _ _ _ _ _ _ _
  |exact Ak.mono _ _ _
  |exact LeO.none _
  |refine LeO.ite ?_ ?_
  |refine LeO.bind ?_ (fun _=> ?_)
def Ag.T14:Bool×List (List Nat×List Nat):=(true,[([],[]),([],[]),([],[]),([],[]),([],[]),([],[]),([4,5],[4,5]),([0,1,0,1,4,5,6],[0,1]),([7,6,0,1,4,5,6],[6,7]),([2,3,0,1,2,3,4,5,6,7,8],[2,3]),([9,8,0,1,2,3,4,5,6,7,8],[9])])
def Ag.B14:List Nat:=[0,0,0,0,0,0,48,115,243,511,1023]
theorem Ag.tab14:rtab .any (Cq Tryd.f38 14)=Ag.T14:=by kernel_rfl
theorem Ag.bits14:Bz Ag.T14.2 Ag.B14=true:=by kernel_rfl
set_option maxHeartbeats 8000000 in
theorem Ag.calls (k : Nat) (A8 : Int) (A0_1:Option Addr) (c0_1:Nat) (l0_1:List (S49)) (A1:Option Addr) (c1:Nat) (l1:List Int) (r:List (S56)) (w:World) (hr0_1:Kd.C k49 w A0_1 l0_1.length l0_1) (hc0_1:l0_1.length≤c0_1) (hr1:Kd.C (Kd.int .i64) w A1 l1.length l1) (hc1:l1.length≤c1) (h:Ag.f k A8 l0_1 l1=some r):
  Calls Tryd.prog 38 #[.agg #[.int .i64 A8,.slice A0_1 l0_1.length c0_1],.slice A1 l1.length c1] w fun e w'=>∃v0_:Value,e= .returned (v0_)∧Kd.R k56 56 w' w.heap.size (fun _=>True) v0_ r∧Below w.heap.size w w':=by
 have hu33:=Tryd.underlying33
 have hu56:=Tryd.underlying56
 have HR0_1:=yA hr0_1
 have HC0_1:=yA hc0_1
 clear hr0_1 hc0_1
 have HR1:=yA hr1
 have HC1:=yA hc1
 clear hr1 hc1
 have HB:=yA (Below.refl w.heap.size w)
 have H:(if 0≤(l1.length:Int) then (if ((l1.length:Int):Int).toNat≤17592186044416 then (if ((l1.length:Int):Int).toNat≤281474976710656 then (if 0≤A8 then (if (A8:Int).toNat≤35184372088832 then (Ag.l0 k l1 (List.replicate ((l1.length:Int):Int).toNat z56) (List.replicate (A8:Int).toNat 0) (l1.length:Int) 0 (List.replicate ((l1.length:Int):Int).toNat false) A8 l0_1) else (none)) else (none)) else (none)) else (none)) else (none))=some r:=h
 clear h
 by_cases c3:0≤(l1.length:Int)
 ·rw [if_pos c3] at H
  have c3b0:=eq_true c3
  have c3b1:decide (0≤(l1.length:Int))=true:=decide_eq_true c3
  clear c3
  by_cases c4:((l1.length:Int):Int).toNat≤17592186044416
  ·rw [if_pos c4] at H
   have c4b0:=eq_true c4
   have c4b1:decide (((l1.length:Int):Int).toNat≤17592186044416)=true:=decide_eq_true c4
   clear c4
   obtain ⟨y143,hy143⟩:∃y_:List (S56),y_=(List.replicate ((l1.length:Int):Int).toNat z56):=⟨_,rfl⟩
   replace H:(if ((l1.length:Int):Int).toNat≤281474976710656 then (if 0≤A8 then (if (A8:Int).toNat≤35184372088832 then (Ag.l0 k l1 y143 (List.replicate (A8:Int).toNat 0) (l1.length:Int) 0 (List.replicate ((l1.length:Int):Int).toNat false) A8 l0_1) else (none)) else (none)) else (none))=some r:=by first|(rw [hy143]; with_reducible exact H)|(have H2_:=(Option.bind_some _ _).symm.trans H; rw [hy143]; with_reducible exact H2_)|(have H2_:=(Option.bind_some _ _).symm.trans H; with_reducible exact H2_)|with_reducible exact H|(rw [hy143]; exact H)|exact H
   have Ny143:=yA hy143
   clear hy143
   by_cases c5:((l1.length:Int):Int).toNat≤281474976710656
   ·rw [if_pos c5] at H
    have c5b0:=eq_true c5
    have c5b1:decide (((l1.length:Int):Int).toNat≤281474976710656)=true:=decide_eq_true c5
    clear c5
    obtain ⟨y146,hy146⟩:∃y_:List Bool,y_=(List.replicate ((l1.length:Int):Int).toNat false):=⟨_,rfl⟩
    replace H:(if 0≤A8 then (if (A8:Int).toNat≤35184372088832 then (Ag.l0 k l1 y143 (List.replicate (A8:Int).toNat 0) (l1.length:Int) 0 y146 A8 l0_1) else (none)) else (none))=some r:=by first|(rw [hy146]; with_reducible exact H)|(have H2_:=(Option.bind_some _ _).symm.trans H; rw [hy146]; with_reducible exact H2_)|(have H2_:=(Option.bind_some _ _).symm.trans H; with_reducible exact H2_)|with_reducible exact H|(rw [hy146]; exact H)|exact H
    have Ny146:=yA hy146
    clear hy146
    by_cases c6:0≤A8
    ·rw [if_pos c6] at H
     have c6b0:=eq_true c6
     have c6b1:decide (0≤A8)=true:=decide_eq_true c6
     clear c6
     by_cases c7:(A8:Int).toNat≤35184372088832
     ·rw [if_pos c7] at H
      have c7b0:=eq_true c7
      have c7b1:decide ((A8:Int).toNat≤35184372088832)=true:=decide_eq_true c7
      clear c7
      obtain ⟨y150,hy150⟩:∃y_:List Int,y_=(List.replicate (A8:Int).toNat 0):=⟨_,rfl⟩
      replace H:(Ag.l0 k l1 y143 y150 (l1.length:Int) 0 y146 A8 l0_1)=some r:=by first|(rw [hy150]; with_reducible exact H)|(have H2_:=(Option.bind_some _ _).symm.trans H; rw [hy150]; with_reducible exact H2_)|(have H2_:=(Option.bind_some _ _).symm.trans H; with_reducible exact H2_)|with_reducible exact H|(rw [hy150]; exact H)|exact H
      have Ny150:=yA hy150
      clear hy150
      have H':=yA H
      clear H
      go_enter Tryd.func38,Tryd.ntmps38
      go_wp2_with (first|((with_reducible refine Ar (N:=2) rfl ?_); refine Ap ?hg (N:=2) ?hd (cs:= #[.int .i64 A8,.slice A0_1 l0_1.length c0_1]) (t:=33) ?hr ?_; (case hd=>rfl); (case hg=>rfl); (case hr=>first|(go_simp; done)|(go_simp; rfl)); intro gb142 hg w8 hbox hb; have n0_:=yA (AO zB hb); have n1_:=yA (hbox); have n2_:=yA ((by rw [hg]; exact (AT zB):w.heap.size≤gb142)); have n3_:=yA ((by rw [hg]; exact (AT zB):w.heap.size≤gb142)); clear HB; have HB:=n0_; have BK142:=n1_; have GW142:=n2_; have GE142:=n3_; clear n0_ n1_ n2_ n3_; clear hb hbox hg)|((with_reducible refine Ar (N:=15) rfl ?_); refine Kd.R_make k56 _ 56 rfl (N:=15) rfl 35 _ _ rfl (l1.length:Int) rfl rfl Tryd.underlying35 (.agg #[(.int .i64 0),(.int .i64 0)]) 16 info56 rfl zA2 zI z56 (ok:=fun _=>True) (okp:=fun _=>True) (Ds _ _ _ z56) (fun _ hk=>hk) trivial (yD) (Nat.le_trans (Nat.mul_le_mul_right _ (yD:(l1.length:Int).toNat≤17592186044416)) zI) (Below.refl _ _) (Nat.le_refl _) ?_; intro v144 w9 ho10 hb hg_ hnew_; clear hg_ hnew_; (first|rw [←Ny143.out] at ho10|(simp only [Int.reduceToNat] at ho10; rw [←Ny143.out] at ho10)); have n0_:=yA (Kd.R_lower ho10 (AT zB5)); have n1_:=yA (AP (g:=gb142) (o:= .cells #[.int .i64 A8,.slice A0_1 l0_1.length c0_1] 33 (0,0)) zA5 hb); have n2_:=yA (AO zB5 hb); clear BK142; clear HB; have HO145:=n0_; have BK142:=n1_; have HB:=n2_; clear n0_ n1_ n2_; clear hb ho10)|((with_reducible refine Ar (N:=18) rfl ?_); refine Kd.R_make Kd.bool _ 4 rfl (N:=18) rfl 73 _ _ rfl (l1.length:Int) rfl rfl Tryd.underlying73 (.bool false) 1 info4 rfl zA2 zI false (ok:=fun _=>True) (okp:=fun _=>True) rfl (fun _ hk=>hk) trivial (yD) (Nat.le_trans (Nat.mul_le_mul_right _ (yD:(l1.length:Int).toNat≤281474976710656)) zI) (Below.refl _ _) (Nat.le_refl _) ?_; intro v147 w11 ho12 hb hg_ hnew_; clear hg_ hnew_; (first|rw [←Ny146.out] at ho12|(simp only [Int.reduceToNat] at ho12; rw [←Ny146.out] at ho12)); have n0_:=yA (Kd.R_below (by (with_reducible repeat (first|apply Kd.R_alloc|apply Kd.R_drewN|apply Kd.R_drew)); exact HO145.out) hb); have n1_:=yA (Kd.R_lower ho12 (AT zB5)); have n2_:=yA (AP (g:=gb142) (o:= .cells #[.int .i64 A8,.slice A0_1 l0_1.length c0_1] 33 (0,0)) zA5 hb); have n3_:=yA (AO zB5 hb); clear HO145; clear BK142; clear HB; have HO145:=n0_; have HO148:=n1_; have BK142:=n2_; have HB:=n3_; clear n0_ n1_ n2_ n3_; clear hb ho12)|((with_reducible refine Ar (N:=6) rfl ?_); refine Ap ?hg (N:=6) ?hd (cs:= #[.slice none 0 0]) (t:=73) ?hr ?_; (case hd=>rfl); (case hg=>rfl); (case hr=>first|(go_simp; done)|(go_simp; rfl)); intro gb149 hg w13 hbox hb; have n0_:=yA (Kd.R_below (by (with_reducible repeat (first|apply Kd.R_alloc|apply Kd.R_drewN|apply Kd.R_drew)); exact HO145.out) hb); have n1_:=yA (Kd.R_below (by (with_reducible repeat (first|apply Kd.R_alloc|apply Kd.R_drewN|apply Kd.R_drew)); exact HO148.out) hb); have n2_:=yA (AP (g:=gb142) (o:= .cells #[.int .i64 A8,.slice A0_1 l0_1.length c0_1] 33 (0,0)) zA5 hb); have n3_:=yA (AO zB5 hb); have n4_:=yA (hbox); have n5_:=yA ((by rw [hg]; exact (AT zB5):w.heap.size≤gb149)); have n6_:=yA ((by rw [hg]; exact (AT zB5):w.heap.size≤gb149)); have n7_:=yA ((by rw [hg]; exact Nat.ne_of_lt (B0 (g:=gb142) (o:= .cells #[.int .i64 A8,.slice A0_1 l0_1.length c0_1] 33 (0,0)) zA5):gb142≠gb149)); have n8_:=yA ((by rw [hg]; exact Nat.ne_of_gt (B0 (g:=gb142) (o:= .cells #[.int .i64 A8,.slice A0_1 l0_1.length c0_1] 33 (0,0)) zA5):gb149≠gb142)); clear HO145; clear HO148; clear BK142; clear HB; have HO145:=n0_; have HO148:=n1_; have BK142:=n2_; have HB:=n3_; have BK149:=n4_; have GW149:=n5_; have GE149:=n6_; have NB142_149:=n7_; have NB149_142:=n8_; clear n0_ n1_ n2_ n3_ n4_ n5_ n6_ n7_ n8_; clear hb hbox hg; have hnb14:=NB149_142.out; have hnc14:=NB142_149.out; have hcz15_0:w13.cell? ⟨gb149,0,none⟩=some (.slice none 0 0):=(AK BK149.out 0).trans rfl; have hfz15_0:=AJ BK149.out 0; have hcz16_0:w13.cell? ⟨gb142,0,none⟩=some (.int .i64 A8):=(AK BK142.out 0).trans rfl; have hcz16_1:w13.cell? ⟨gb142,1,none⟩=some (.slice A0_1 l0_1.length c0_1):=(AK BK142.out 1).trans rfl; have hfz16_0:=AJ BK142.out 0; have hfz16_1:=AJ BK142.out 1)|((with_reducible refine C3 (t:=73) (p:=6) rfl ?_); refine Bx (t:=73) (p:=6) (v:= ?vo_) (w1:=(w13.setCell ⟨gb149,0,none⟩ v147)) ?hg ?ho ?hn ?hr ?_; (case ho=>rfl); (case hg=>rfl); (case hn=>rfl); (case hr=>(obtain ⟨Am_,cm_,em_⟩:=Kd.R_slice HO148.out; subst em_; first|(go_simp; done)|(go_simp; rfl))); intro wz_ hw_; subst hw_)|((with_reducible refine Ar (N:=21) rfl ?_); refine Kd.R_make (Kd.int .i64) _ 3 rfl (N:=21) rfl 47 _ _ rfl A8 rfl rfl Tryd.underlying47 (.int .i64 0) 8 info3 rfl zA2 zI 0 (ok:=fun _=>True) (okp:=fun _=>True) rfl (fun _ hk=>hk) trivial (yD) (Nat.le_trans (Nat.mul_le_mul_right _ (yD:A8.toNat≤35184372088832)) zI) (Below.refl _ _) (Nat.le_refl _) ?_; intro v151 w17 ho18 hb hg_ hnew_; clear hg_ hnew_; (first|rw [←Ny150.out] at ho18|(simp only [Int.reduceToNat] at ho18; rw [←Ny150.out] at ho18)); have n0_:=yA (Kd.R_below (by (with_reducible repeat (first|apply Kd.R_alloc|apply Kd.R_drewN|apply Kd.R_drew)); exact (Kd.R_mono (Kd.R_far (p:=⟨gb149,0,none⟩) (Kd.R_types HO145.out BK149.out zA2) (fun _ hk=>hk.2) (v147)) (fun _ h_=>h_.1))) hb); have n1_:=yA (Kd.R_below (by (with_reducible repeat (first|apply Kd.R_alloc|apply Kd.R_drewN|apply Kd.R_drew)); exact (Kd.R_mono (Kd.R_far (p:=⟨gb149,0,none⟩) (Kd.R_types HO148.out BK149.out zA2) (fun _ hk=>hk.2) (v147)) (fun _ h_=>h_.1))) hb); have n2_:=yA (Kd.R_lower ho18 (AT zC5)); have n3_:=yA (AP (g:=gb142) (o:= .cells #[.int .i64 A8,.slice A0_1 l0_1.length c0_1] 33 (0,0)) (by (with_reducible repeat (first|refine AG ?_ _|refine AH ?_|refine AF ?_ _)); refine Aa ?_ NB142_149.out _; (with_reducible repeat (first|refine AG ?_ _|refine AH ?_|refine AF ?_ _)); exact BK142.out) hb); have n4_:=yA (AP (g:=gb149) (o:= .cells #[v147] 73 (0,0)) (by (with_reducible repeat (first|refine AG ?_ _|refine AH ?_|refine AF ?_ _)); refine Am (cs:= #[.slice none 0 0]) ?_ 0 _ rfl; (with_reducible repeat (first|refine AG ?_ _|refine AH ?_|refine AF ?_ _)); exact BK149.out) hb); have n5_:=yA (AO zC5 hb); clear HO145; clear HO148; clear BK142; clear BK149; clear HB; have HO145:=n0_; have HO148:=n1_; have HO152:=n2_; have BK142:=n3_; have BK149:=n4_; have HB:=n5_; clear n0_ n1_ n2_ n3_ n4_ n5_; clear hb ho18))
      go_loopg [24] k (fun kq v24 w'=>∃(x5_1:List (S56)) (x7_1:List Int) (x24_1:Int) (x76_1:List Bool),v24= .int .i64 x24_1∧Aside0 (Ag.l0 kq l1 x5_1 x7_1 (l1.length:Int) x24_1 x76_1 A8 l0_1=some r)∧Aside0 (kq≤k)∧Aside0 (Kd.R k56 56 w' w.heap.size (fun _=>True) v144 x5_1)∧Aside0 (Kd.R (Kd.int .i64) 3 w' w.heap.size (fun _=>True) v151 x7_1)∧Aside0 (Kd.R Kd.bool 4 w' w.heap.size (fun _=>True) v147 x76_1)∧Aside0 (w'.heap[gb142]? =some (.cells #[.int .i64 A8,(.slice A0_1 l0_1.length c0_1)] 33 (0,0)))∧Aside0 (w'.heap[gb149]? =some (.cells #[v147] 73 (0,0)))∧Aside0 (Below w.heap.size w w'))
      case atStart=>exact ⟨(y143),(y150),(0),(y146),zG,H',⟨Nat.le_refl _⟩,⟨by (with_reducible repeat (first|apply Kd.R_alloc|apply Kd.R_drewN|apply Kd.R_drew)); exact HO145.out⟩,⟨by (with_reducible repeat (first|apply Kd.R_alloc|apply Kd.R_drewN|apply Kd.R_drew)); exact HO152.out⟩,⟨by (with_reducible repeat (first|apply Kd.R_alloc|apply Kd.R_drewN|apply Kd.R_drew)); exact HO148.out⟩,⟨by (with_reducible repeat (first|refine AG ?_ _|refine AH ?_|refine AF ?_ _)); exact BK142.out⟩,⟨by (with_reducible repeat (first|refine AG ?_ _|refine AH ?_|refine AF ?_ _)); exact BK149.out⟩,⟨by repeat (first|(with_reducible first|exact HB.out|apply AE|apply AC|apply AD|refine AI ?_ GE142.out|refine AI ?_ GE149.out)|exact HB.out)⟩⟩
      case round=>
       clear H'
       try clear c1
       try clear p2
       try clear c3
       try clear c3b0
       try clear c3b1
       try clear c4
       try clear c4b0
       try clear c4b1
       try clear c5
       try clear c5b0
       try clear c5b1
       try clear c6
       try clear c6b0
       try clear c6b1
       try clear c7
       try clear c7b0
       try clear c7b1
       try clear c14
       try clear hcz15_0
       try clear hcz16_0
       try clear hcz16_1
       try clear hfz15_0
       try clear hfz16_0
       try clear hfz16_1
       obtain ⟨x5_1,x7_1,x24_1,x76_1,rfl,HA,HK1,HO_5,HO_7,HO_76,BK142,BK149,HB⟩:=hrel
       cases gk with
       |zero=>exact absurd HA.out (by simp [Ag.l0])
       | succ k1 =>
        have H:=HA.out
        clear HA
        simp only [Ag.l0] at H
        by_cases c19:x24_1<(l1.length:Int)
        ·rw [if_pos c19] at H
         have c19b0:decide (x24_1<(l1.length:Int))=true:=decide_eq_true c19
         clear c19
         replace H:=Option.bind_eq_some_iff.mp H
         obtain ⟨t153,A200,H⟩:=H
         replace H:(if 0≤t153 then (if t153<(l1.length:Int) then ((BT.f x7_1).bind fun t155=>((Ak.f k1 x7_1 t155).bind fun t156=>(if 0≤t156 then (if t156<(x7_1.length:Int) then (if 0≤(rd l1 t153) then (if (rd l1 t153)<(l0_1.length:Int) then (Ag.l1 k1 l1 x5_1 x7_1 (rd l1 t153) t156 (rd x7_1 t156) (l1.length:Int) x24_1 ((AM l0_1 (rd l1 t153)).f3) (((AM l0_1 (rd l1 t153)).f3).length:Int) 0 x76_1 A8 l0_1) else (none)) else (none)) else (none)) else (none)))) else (none)) else (none))=some r:=H
         have A20:=yA A200
         clear A200
         by_cases c21:0≤t153
         ·rw [if_pos c21] at H
          have c21b0:decide (0≤t153)=true:=decide_eq_true c21
          clear c21
          by_cases c22:t153<(l1.length:Int)
          ·rw [if_pos c22] at H
           have c22b0:decide (t153<(l1.length:Int))=true:=decide_eq_true c22
           clear c22
           replace H:=Option.bind_eq_some_iff.mp H
           obtain ⟨t155,A230,H⟩:=H
           replace H:((Ak.f k1 x7_1 t155).bind fun t156=>(if 0≤t156 then (if t156<(x7_1.length:Int) then (if 0≤(rd l1 t153) then (if (rd l1 t153)<(l0_1.length:Int) then (Ag.l1 k1 l1 x5_1 x7_1 (rd l1 t153) t156 (rd x7_1 t156) (l1.length:Int) x24_1 ((AM l0_1 (rd l1 t153)).f3) (((AM l0_1 (rd l1 t153)).f3).length:Int) 0 x76_1 A8 l0_1) else (none)) else (none)) else (none)) else (none)))=some r:=H
           have A23:=yA A230
           clear A230
           replace H:=Option.bind_eq_some_iff.mp H
           obtain ⟨t156,A240,H⟩:=H
           replace H:(if 0≤t156 then (if t156<(x7_1.length:Int) then (if 0≤(rd l1 t153) then (if (rd l1 t153)<(l0_1.length:Int) then (Ag.l1 k1 l1 x5_1 x7_1 (rd l1 t153) t156 (rd x7_1 t156) (l1.length:Int) x24_1 ((AM l0_1 (rd l1 t153)).f3) (((AM l0_1 (rd l1 t153)).f3).length:Int) 0 x76_1 A8 l0_1) else (none)) else (none)) else (none)) else (none))=some r:=H
           have A24:=yA A240
           clear A240
           by_cases c25:0≤t156
           ·rw [if_pos c25] at H
            have c25b0:decide (0≤t156)=true:=decide_eq_true c25
            clear c25
            by_cases c26:t156<(x7_1.length:Int)
            ·rw [if_pos c26] at H
             have c26b0:decide (t156<(x7_1.length:Int))=true:=decide_eq_true c26
             clear c26
             by_cases c27:0≤(rd l1 t153)
             ·rw [if_pos c27] at H
              have c27b0:decide (0≤(rd l1 t153))=true:=decide_eq_true c27
              clear c27
              by_cases c28:(rd l1 t153)<(l0_1.length:Int)
              ·rw [if_pos c28] at H
               have c28b0:decide ((rd l1 t153)<(l0_1.length:Int))=true:=decide_eq_true c28
               clear c28
               have H':=yA H
               clear H
               have hnb29:=NB142_149.out
               have hnc29:=NB149_142.out
               have hcz30_0:wr.cell? ⟨gb142,0,none⟩=some (.int .i64 A8):=(AK BK142.out 0).trans rfl
               have hcz30_1:wr.cell? ⟨gb142,1,none⟩=some (.slice A0_1 l0_1.length c0_1):=(AK BK142.out 1).trans rfl
               have hfz30_0:=AJ BK142.out 0
               have hfz30_1:=AJ BK142.out 1
               obtain ⟨Ao31,co31,eo31⟩:=Kd.R_slice HO_76.out
               subst eo31
               go_wp2_with (first|((with_reducible refine Ah (f:=55) rfl ?_); refine BB (some 29) rfl rfl Tryd.func55 zE rfl #[.slice A1 l1.length c1,.func (.func 56) #[] #[.pointer (some ⟨gb149,0,none⟩),.pointer (some ⟨gb142,0,none⟩)]] rfl zD ?_; (with_reducible refine (CP.calls _ _ l1 _ _ x76_1 A8 _ _ l0_1 t153 _ ?side1 ?side2 ?side3 ?side4 ?side5 ?side6 A20.out zC4 zA5).mono ?_); (case side1=>repeat (first|exact (Kd.C_below HR1.out HB.out)|(with_reducible refine Kd.C_alloc ?_ _)|(with_reducible refine Kd.C_drewN ?_ _)|(with_reducible refine Kd.C_drew ?_))); (case side2=>exact HC1.out); (case side3=>repeat (first|exact (Kd.R_reads' HO_76.out).2.2|(with_reducible refine Kd.C_alloc ?_ _)|(with_reducible refine Kd.C_drewN ?_ _)|(with_reducible refine Kd.C_drew ?_))); (case side4=>exact (Kd.R_reads' HO_76.out).2.1); (case side5=>repeat (first|exact (Kd.C_below HR0_1.out HB.out)|(with_reducible refine Kd.C_alloc ?_ _)|(with_reducible refine Kd.C_drewN ?_ _)|(with_reducible refine Kd.C_drew ?_))); (case side6=>exact HC0_1.out); rintro e w32 ⟨rfl,hb⟩; refine ⟨_,rfl,?_⟩; have n0_:=yA (Kd.R_below zC9 hb); have n1_:=yA (Kd.R_below zY hb); have n2_:=yA (Kd.R_below (by (with_reducible repeat (first|apply Kd.R_alloc|apply Kd.R_drewN|apply Kd.R_drew)); exact HO_76.out) hb); have n3_:=yA (AP (g:=gb142) (o:= .cells #[.int .i64 A8,.slice A0_1 l0_1.length c0_1] 33 (0,0)) zA5 hb); have n4_:=yA (AP (g:=gb149) (o:= .cells #[.slice Ao31 x76_1.length co31] 73 (0,0)) zC4 hb); have n5_:=yA (AO zC5 hb); clear HO_5; clear HO_7; clear HO_76; clear BK142; clear BK149; clear HB; have HO_5:=n0_; have HO_7:=n1_; have HO_76:=n2_; have BK142:=n3_; have BK149:=n4_; have HB:=n5_; clear n0_ n1_ n2_ n3_ n4_ n5_; (try clear hb); (try clear hb2); (try clear hk); (try clear hi); have p154:0≤(t153:Int):=yD; have q154:t153<(l1.length:Int):=yD; obtain ⟨ad154,e154,hx154_0⟩:=Kd.at_int HR1.out t153 p154 q154; cases e154; replace hx154_0:=yC HB.out hx154_0; replace p154:=eq_true p154; replace q154:=eq_true q154; obtain ⟨Ao33,co33,eo33⟩:=Kd.R_slice HO_7.out; subst eo33)|((with_reducible refine Ah (f:=59) rfl ?_); refine BB (some 34) rfl rfl Tryd.func59 zE rfl #[.slice Ao33 x7_1.length co33] rfl zD ?_; (with_reducible refine (BT.calls _ _ x7_1 t155 _ ?side1 ?side2 A23.out).mono ?_); (case side1=>repeat (first|exact (Kd.R_reads' HO_7.out).2.2|(with_reducible refine Kd.C_alloc ?_ _)|(with_reducible refine Kd.C_drewN ?_ _)|(with_reducible refine Kd.C_drew ?_))); (case side2=>exact (Kd.R_reads' HO_7.out).2.1); rintro e w' ⟨rfl,⟨nd,rfl⟩⟩; refine ⟨_,rfl,?_⟩)|((with_reducible refine Ah (f:=58) rfl ?_); refine BB (some 35) rfl rfl Tryd.func58 zE rfl #[.slice Ao33 x7_1.length co33,.int .i64 t155] rfl zD ?_; (with_reducible refine (Ak.calls k1 _ _ x7_1 t155 t156 _ ?side1 ?side2 A24.out).mono ?_); (case side1=>repeat (first|exact (Kd.R_reads' HO_7.out).2.2|(with_reducible refine Kd.C_alloc ?_ _)|(with_reducible refine Kd.C_drewN ?_ _)|(with_reducible refine Kd.C_drew ?_))); (case side2=>exact (Kd.R_reads' HO_7.out).2.1); rintro e w' ⟨rfl,⟨nd,rfl⟩⟩; refine ⟨_,rfl,?_⟩; have p157:0≤(t156:Int):=yD; have q157:t156<(x7_1.length:Int):=yD; obtain ⟨ad157,e157,hx157_0⟩:=Kd.at_int (Kd.R_reads' HO_7.out).2.2 t156 p157 q157; cases e157; replace p157:=eq_true p157; replace q157:=eq_true q157; have hcz34_0:w32.cell? ⟨gb142,0,none⟩=some (.int .i64 A8):=(AK BK142.out 0).trans rfl; have hcz34_1:w32.cell? ⟨gb142,1,none⟩=some (.slice A0_1 l0_1.length c0_1):=(AK BK142.out 1).trans rfl; have hfz34_0:=AJ BK142.out 0; have hfz34_1:=AJ BK142.out 1; have p158:0≤((rd l1 t153):Int):=yD; have q158:(rd l1 t153)<(l0_1.length:Int):=yD; obtain ⟨ad158,A158_3,c158_3,e158,hx158_0,hx158_1,hx158_2,hx158_3,hl158_3,hi158_3⟩:=C9 HR0_1.out (rd l1 t153) p158 q158; cases e158; replace hx158_0:=yC HB.out hx158_0; replace hx158_1:=yC HB.out hx158_1; replace hx158_2:=yC HB.out hx158_2; replace hx158_3:=yC HB.out hx158_3; have HR158_3:=yA hi158_3; have HC158_3:=yA hl158_3; clear hi158_3 hl158_3; replace p158:=eq_true p158; replace q158:=eq_true q158))
               go_loopg [10,47] k1 (fun kq v10 v47 w'=>∃(x10_2:Int) (x47_2:Int),v10= .int .i64 x10_2∧v47= .int .i64 x47_2∧Aside0 (Ag.l1 kq l1 x5_1 x7_1 (rd l1 t153) t156 x10_2 (l1.length:Int) x24_1 ((AM l0_1 (rd l1 t153)).f3) (((AM l0_1 (rd l1 t153)).f3).length:Int) x47_2 x76_1 A8 l0_1=some r)∧Aside0 (kq≤k1)∧Aside0 (Kd.R k56 56 w' w.heap.size (fun _=>True) v144 x5_1)∧Aside0 (Kd.R (Kd.int .i64) 3 w' w.heap.size (fun _=>True) (.slice (some ad157) x7_1.length co33) x7_1)∧Aside0 (Kd.R Kd.bool 4 w' w.heap.size (fun _=>True) (.slice Ao31 x76_1.length co31) x76_1)∧Aside0 (w'.heap[gb142]? =some (.cells #[.int .i64 A8,(.slice (some ad158) l0_1.length c0_1)] 33 (0,0)))∧Aside0 (w'.heap[gb149]? =some (.cells #[.slice Ao31 x76_1.length co31] 73 (0,0)))∧Aside0 (Below w.heap.size w w'))
               case atStart=>exact ⟨(rd x7_1 t156),(0),zG,zG,H',⟨Nat.le_refl _⟩,⟨by (with_reducible repeat (first|apply Kd.R_alloc|apply Kd.R_drewN|apply Kd.R_drew)); exact HO_5.out⟩,⟨by (with_reducible repeat (first|apply Kd.R_alloc|apply Kd.R_drewN|apply Kd.R_drew)); exact HO_7.out⟩,⟨by (with_reducible repeat (first|apply Kd.R_alloc|apply Kd.R_drewN|apply Kd.R_drew)); exact HO_76.out⟩,⟨by (with_reducible repeat (first|refine AG ?_ _|refine AH ?_|refine AF ?_ _)); exact BK142.out⟩,⟨by (with_reducible repeat (first|refine AG ?_ _|refine AH ?_|refine AF ?_ _)); exact BK149.out⟩,⟨by repeat (first|(with_reducible first|exact HB.out|apply AE|apply AC|apply AD|refine AI ?_ GE142.out|refine AI ?_ GE149.out)|exact HB.out)⟩⟩
               case round=>
                clear H'
                try clear c1
                try clear p1
                try clear q1
                try clear hx1
                try clear c2
                try clear p2
                try clear c3
                try clear c3b0
                try clear c3b1
                try clear c4
                try clear c4b0
                try clear c4b1
                try clear c5
                try clear c5b0
                try clear c5b1
                try clear c6
                try clear c6b0
                try clear c6b1
                try clear c7
                try clear c7b0
                try clear c7b1
                try clear c12
                try clear c14
                try clear c15
                try clear p15
                try clear q15
                try clear hx15
                try clear c19
                try clear c19b0
                try clear c21
                try clear c21b0
                try clear c22
                try clear c22b0
                try clear c25
                try clear c25b0
                try clear c26
                try clear c26b0
                try clear c27
                try clear c27b0
                try clear c28
                try clear c28b0
                try clear c29
                try clear hcz15_0
                try clear hcz16_0
                try clear hcz16_1
                try clear hcz30_0
                try clear hcz30_1
                try clear hcz34_0
                try clear hcz34_1
                try clear hfz15_0
                try clear hfz16_0
                try clear hfz16_1
                try clear hfz30_0
                try clear hfz30_1
                try clear hfz34_0
                try clear hfz34_1
                try clear hx154_0
                try clear hx157_0
                try clear hx158_0
                try clear hx158_1
                try clear hx158_2
                try clear hx158_3
                try clear p154
                try clear p157
                try clear p158
                try clear p2
                try clear q154
                try clear q157
                try clear q158
                obtain ⟨x10_2,x47_2,rfl,rfl,HA,HK2,HO_5,HO_7,HO_76,BK142,BK149,HB⟩:=hrel
                cases gk with
                |zero=>exact absurd HA.out (by simp [Ag.l1])
                | succ k2 =>
                 have H:=HA.out
                 clear HA
                 simp only [Ag.l1] at H
                 by_cases c35:x47_2<(((AM l0_1 (rd l1 t153)).f3).length:Int)
                 ·rw [if_pos c35] at H
                  have c35b0:decide (x47_2<(((AM l0_1 (rd l1 t153)).f3).length:Int))=true:=decide_eq_true c35
                  clear c35
                  by_cases c36:0≤x47_2
                  ·rw [if_pos c36] at H
                   have c36b0:decide (0≤x47_2)=true:=decide_eq_true c36
                   clear c36
                   by_cases c37:x47_2<(((AM l0_1 (rd l1 t153)).f3).length:Int)
                   ·rw [if_pos c37] at H
                    have c37b0:decide (x47_2<(((AM l0_1 (rd l1 t153)).f3).length:Int))=true:=decide_eq_true c37
                    clear c37
                    replace H:=Option.bind_eq_some_iff.mp H
                    obtain ⟨t160,A380,H⟩:=H
                    replace H:(Ag.l1 k2 l1 x5_1 x7_1 (rd l1 t153) t156 (mx x10_2 t160) (l1.length:Int) x24_1 ((AM l0_1 (rd l1 t153)).f3) (((AM l0_1 (rd l1 t153)).f3).length:Int) (wrap64 (x47_2+1)) x76_1 A8 l0_1)=some r:=H
                    have A38:=yA A380
                    clear A380
                    obtain ⟨ji39,hji39⟩:∃j_:Int,(mx x10_2 t160)=j_:=⟨_,rfl⟩
                    replace H:(Ag.l1 k2 l1 x5_1 x7_1 (rd l1 t153) t156 ji39 (l1.length:Int) x24_1 ((AM l0_1 (rd l1 t153)).f3) (((AM l0_1 (rd l1 t153)).f3).length:Int) (wrap64 (x47_2+1)) x76_1 A8 l0_1)=some r:=by first|(rw [hji39] at H; exact H)|(simp only [hji39] at H ⊢; exact H)
                    (try rw [hji39] at A38)
                    have hji39_:(if x10_2<t160 then t160 else x10_2)=ji39:=hji39
                    have H':=yA H
                    clear H
                    have p159:0≤(x47_2:Int):=yD
                    have q159:x47_2<(((AM l0_1 (rd l1 t153)).f3).length:Int):=yD
                    obtain ⟨ad159,e159,hx159_0⟩:=Kd.at_int HR158_3.out x47_2 p159 q159
                    cases e159
                    replace hx159_0:=yC HB.out hx159_0
                    replace p159:=eq_true p159
                    replace q159:=eq_true q159
                    have hnb40:=NB142_149.out
                    have hnc40:=NB149_142.out
                    have hcz41_0:wr.cell? ⟨gb142,0,none⟩=some (.int .i64 A8):=(AK BK142.out 0).trans rfl
                    have hcz41_1:wr.cell? ⟨gb142,1,none⟩=some (.slice (some ad158) l0_1.length c0_1):=(AK BK142.out 1).trans rfl
                    have hfz41_0:=AJ BK142.out 0
                    have hfz41_1:=AJ BK142.out 1
                    obtain ⟨Ao42,co42,eo42⟩:=Kd.R_slice HO_5.out
                    subst eo42
                    go_wp2_with (first|((with_reducible refine Ah (f:=22) rfl ?_); refine BB (some 55) rfl rfl Tryd.func22 zE rfl #[.agg #[.int .i64 A8,.slice (some ad158) l0_1.length c0_1],.slice Ao42 x5_1.length co42,.int .i64 (rd ((AM l0_1 (rd l1 t153)).f3) x47_2)] rfl zD ?_; (with_reducible refine (BC.calls A8 _ _ l0_1 _ _ x5_1 (rd ((AM l0_1 (rd l1 t153)).f3) x47_2) t160 _ ?side1 ?side2 ?side3 ?side4 A38.out).mono ?_); (case side1=>repeat (first|exact (Kd.C_below HR0_1.out HB.out)|(with_reducible refine Kd.C_alloc ?_ _)|(with_reducible refine Kd.C_drewN ?_ _)|(with_reducible refine Kd.C_drew ?_))); (case side2=>exact HC0_1.out); (case side3=>repeat (first|exact (Kd.R_reads' HO_5.out).2.2|(with_reducible refine Kd.C_alloc ?_ _)|(with_reducible refine Kd.C_drewN ?_ _)|(with_reducible refine Kd.C_drew ?_))); (case side4=>exact (Kd.R_reads' HO_5.out).2.1); rintro e w43 ⟨rfl,hb⟩; refine ⟨_,rfl,?_⟩; have n0_:=yA (Kd.R_below zC9 hb); have n1_:=yA (Kd.R_below zY hb); have n2_:=yA (Kd.R_below (by (with_reducible repeat (first|apply Kd.R_alloc|apply Kd.R_drewN|apply Kd.R_drew)); exact HO_76.out) hb); have n3_:=yA (AP (g:=gb142) (o:= .cells #[.int .i64 A8,.slice (some ad158) l0_1.length c0_1] 33 (0,0)) zA5 hb); have n4_:=yA (AP (g:=gb149) (o:= .cells #[.slice Ao31 x76_1.length co31] 73 (0,0)) zC4 hb); have n5_:=yA (AO zC5 hb); clear HO_5; clear HO_7; clear HO_76; clear BK142; clear BK149; clear HB; have HO_5:=n0_; have HO_7:=n1_; have HO_76:=n2_; have BK142:=n3_; have BK149:=n4_; have HB:=n5_; clear n0_ n1_ n2_ n3_ n4_ n5_; (try clear hb); (try clear hb2); (try clear hk); (try clear hi)))
                    go_roundg k2
                    case measure=>have:=HK1.out; have:=HK2.out; omega
                    case rel=>exact ⟨(ji39),(wrap64 (x47_2+1)),(by first|rfl|(simp; done)|(simp only [←hji39]<;>(first|rfl|simp))|(simp [*]; done)),zG,H',⟨by have:=HK1.out; have:=HK2.out; omega⟩,⟨by (with_reducible repeat (first|apply Kd.R_alloc|apply Kd.R_drewN|apply Kd.R_drew)); exact HO_5.out⟩,⟨by (with_reducible repeat (first|apply Kd.R_alloc|apply Kd.R_drewN|apply Kd.R_drew)); exact HO_7.out⟩,⟨by (with_reducible repeat (first|apply Kd.R_alloc|apply Kd.R_drewN|apply Kd.R_drew)); exact HO_76.out⟩,⟨by (with_reducible repeat (first|refine AG ?_ _|refine AH ?_|refine AF ?_ _)); exact BK142.out⟩,⟨by (with_reducible repeat (first|refine AG ?_ _|refine AH ?_|refine AF ?_ _)); exact BK149.out⟩,⟨by repeat (first|(with_reducible first|exact HB.out|apply AE|apply AC|apply AD|refine AI ?_ GE142.out|refine AI ?_ GE149.out)|exact HB.out)⟩⟩
                   ·rw [if_neg c37] at H
                    exact absurd H zA6
                  ·rw [if_neg c36] at H
                   exact absurd H zA6
                 ·rw [if_neg c35] at H
                  have c35b0:decide (x47_2<(((AM l0_1 (rd l1 t153)).f3).length:Int))=false:=decide_eq_false c35
                  clear c35
                  by_cases c44:0≤(rd l1 t153)
                  ·rw [if_pos c44] at H
                   have c44b0:decide (0≤(rd l1 t153))=true:=decide_eq_true c44
                   clear c44
                   by_cases c45:(rd l1 t153)<(x5_1.length:Int)
                   ·rw [if_pos c45] at H
                    have c45b0:decide ((rd l1 t153)<(x5_1.length:Int))=true:=decide_eq_true c45
                    clear c45
                    obtain ⟨y161,hy161⟩:∃y_:List (S56),y_=(x5_1.set ((rd l1 t153):Int).toNat (⟨t156,x10_2⟩:S56)):=⟨_,rfl⟩
                    replace H:(if (rd l1 t153)<(x76_1.length:Int) then ((BC.f A8 l0_1 y161 (rd l1 t153)).bind fun t163=>(if 0≤t156 then (if t156<(x7_1.length:Int) then (Ag.l0 k2 l1 y161 (x7_1.set (t156:Int).toNat t163) (l1.length:Int) (wrap64 (x24_1+1)) (x76_1.set ((rd l1 t153):Int).toNat true) A8 l0_1) else (none)) else (none))) else (none))=some r:=by first|(rw [hy161]; with_reducible exact H)|(have H2_:=(Option.bind_some _ _).symm.trans H; rw [hy161]; with_reducible exact H2_)|(have H2_:=(Option.bind_some _ _).symm.trans H; with_reducible exact H2_)|with_reducible exact H|(rw [hy161]; exact H)|exact H
                    have Ny161:=yA hy161
                    clear hy161
                    by_cases c47:(rd l1 t153)<(x76_1.length:Int)
                    ·rw [if_pos c47] at H
                     have c47b0:decide ((rd l1 t153)<(x76_1.length:Int))=true:=decide_eq_true c47
                     clear c47
                     obtain ⟨y162,hy162⟩:∃y_:List Bool,y_=(x76_1.set ((rd l1 t153):Int).toNat true):=⟨_,rfl⟩
                     replace H:((BC.f A8 l0_1 y161 (rd l1 t153)).bind fun t163=>(if 0≤t156 then (if t156<(x7_1.length:Int) then (Ag.l0 k2 l1 y161 (x7_1.set (t156:Int).toNat t163) (l1.length:Int) (wrap64 (x24_1+1)) y162 A8 l0_1) else (none)) else (none)))=some r:=by first|(rw [hy162]; with_reducible exact H)|(have H2_:=(Option.bind_some _ _).symm.trans H; rw [hy162]; with_reducible exact H2_)|(have H2_:=(Option.bind_some _ _).symm.trans H; with_reducible exact H2_)|with_reducible exact H|(rw [hy162]; exact H)|exact H
                     have Ny162:=yA hy162
                     clear hy162
                     replace H:=Option.bind_eq_some_iff.mp H
                     obtain ⟨t163,A490,H⟩:=H
                     replace H:(if 0≤t156 then (if t156<(x7_1.length:Int) then (Ag.l0 k2 l1 y161 (x7_1.set (t156:Int).toNat t163) (l1.length:Int) (wrap64 (x24_1+1)) y162 A8 l0_1) else (none)) else (none))=some r:=H
                     have A49:=yA A490
                     clear A490
                     by_cases c50:0≤t156
                     ·rw [if_pos c50] at H
                      have c50b0:decide (0≤t156)=true:=decide_eq_true c50
                      clear c50
                      by_cases c51:t156<(x7_1.length:Int)
                      ·rw [if_pos c51] at H
                       have c51b0:decide (t156<(x7_1.length:Int))=true:=decide_eq_true c51
                       clear c51
                       obtain ⟨y164,hy164⟩:∃y_:List Int,y_=(x7_1.set (t156:Int).toNat t163):=⟨_,rfl⟩
                       replace H:(Ag.l0 k2 l1 y161 y164 (l1.length:Int) (wrap64 (x24_1+1)) y162 A8 l0_1)=some r:=by first|(rw [hy164]; with_reducible exact H)|(have H2_:=(Option.bind_some _ _).symm.trans H; rw [hy164]; with_reducible exact H2_)|(have H2_:=(Option.bind_some _ _).symm.trans H; with_reducible exact H2_)|with_reducible exact H|(rw [hy164]; exact H)|exact H
                       have Ny164:=yA hy164
                       clear hy164
                       have H':=yA H
                       clear H
                       try go_wp2
                       have n0_:=yA (Kd.R_drew HO_5.out)
                       have n1_:=yA (Kd.R_drew HO_7.out)
                       have n2_:=yA (Kd.R_drew HO_76.out)
                       have n3_:=yA (AH BK142.out)
                       have n4_:=yA (AH BK149.out)
                       have n5_:=yA (AD HB.out)
                       clear HO_5 HO_7 HO_76 BK142 BK149 HB
                       have HO_5:=n0_
                       have HO_7:=n1_
                       have HO_76:=n2_
                       have BK142:=n3_
                       have BK149:=n4_
                       have HB:=n5_
                       clear n0_ n1_ n2_ n3_ n4_ n5_
                       have hS14:wr.drew.cell? ⟨gb149,0,none⟩=some (.slice Ao31 x76_1.length co31):=(AK BK149.out 0).trans rfl
                       refine Bp (n:=11) (S:=fun w'=>w'.cell? ⟨gb149,0,none⟩=some (.slice Ao31 x76_1.length co31)) (ds:=[]) #[false,false,false,false,false,false,false,false,false,false,false] zE rfl rfl hS14 (fun hHeld=> ?_); refine BU Ag.tab14 Ag.bits14 (fun HT_ HW_=> ?_)
                       clear hS14
                       generalize wr.drew=wd at HO_5 HO_7 HO_76 BK142 BK149 HB hHeld ⊢
                       have p46:0≤((rd l1 t153):Int):=yD
                       have q46:((rd l1 t153):Int)<((x5_1.length:Int):Int):=yD
                       obtain ⟨go46,co46,eo46,gb46,gl46,cl46,HG46⟩:=Kd.R_form HO_5.out zI
                       (first|cases eo46|(injection eo46 with ea_ en_ ec_; (first|subst ea_|(injection ea_ with ea_; subst ea_)); subst ec_; clear en_))
                       have GB46:=yA gb46
                       have GG46:=yA HG46
                       clear gb46 gl46 HG46
                       obtain ⟨ce46,hcl46,hM46,hcc46,hfr46⟩:=Kd.R_elem HO_5.out z56 ((rd l1 t153):Int) p46 q46
                       obtain rfl:=Di hM46
                       have hx46_0:wd.cell? ⟨go46,((rd l1 t153):Int).toNat*2,none⟩=some (.int .i64 ((An x5_1 (rd l1 t153)).f0)):=hcc46 0 _ rfl
                       have hx46_1:wd.cell? ⟨go46,((rd l1 t153):Int).toNat*2+1,none⟩=some (.int .i64 ((An x5_1 (rd l1 t153)).f1)):=hcc46 1 _ rfl
                       have hf46_0:wd.frozen? ⟨go46,((rd l1 t153):Int).toNat*2,none⟩=false:=hfr46 0
                       have hf46_1:wd.frozen? ⟨go46,((rd l1 t153):Int).toNat*2+1,none⟩=false:=hfr46 1
                       clear hcl46 hcc46 hfr46 hM46
                       replace p46:=eq_true p46
                       replace q46:=eq_true q46
                       have HX53:=yA (show Kd.R k56 56 wd w.heap.size (fun _=>True) (.slice (some ⟨go46,0,none⟩) x5_1.length co46) x5_1 from zC9)
                       obtain ⟨ce53,hcl53,hM53,hcc53,hfr53⟩:=Kd.R_elem HX53.out z56 ((rd l1 t153):Int) (yD) (by have h_:((rd l1 t153):Int)<((x5_1.length:Int):Int):=yD; first|exact h_|(have e_:=(Kd.R_reads' HO_5.out).1; omega)|simpa using h_)
                       obtain rfl:=Di hM53
                       have HP53:=Kd.R_seg HX53.out ((rd l1 t153):Int) (yD) (by have h_:((rd l1 t153):Int)<((x5_1.length:Int):Int):=yD; first|exact h_|(have e_:=(Kd.R_reads' HO_5.out).1; omega)|simpa using h_) (seg:=[.int .i64 t156,.int .i64 x10_2]) (j:=0) hcl53 hcc53 (show 2≤2 from by decide) (x':=(⟨t156,x10_2⟩:S56)) (Ds _ _ _ (⟨t156,x10_2⟩:S56)) (fun _ hk=>hk)
                       have hx53_0:=hcc53 0 _ rfl
                       (try simp only [show (k56).sz=2 from rfl,Nat.mul_one,Nat.add_zero] at hx53_0)
                       have hf53_0:=hfr53 0
                       (try simp only [show (k56).sz=2 from rfl,Nat.mul_one,Nat.add_zero] at hf53_0)
                       have hx53_1:=hcc53 1 _ rfl
                       (try simp only [show (k56).sz=2 from rfl,Nat.mul_one,Nat.add_zero] at hx53_1)
                       have hf53_1:=hfr53 1
                       (try simp only [show (k56).sz=2 from rfl,Nat.mul_one,Nat.add_zero] at hf53_1)
                       clear hcl53 hcc53 hfr53 hM53
                       refine AX (i:=0) (N:=some 58) (v:= ?_) (a':= ?_) #[true,false,false,false,false,false,false,false,false,false,false] rfl rfl (AQ HT_.out zE) (fun _ _ _ h=>h) (Or.inl ⟨by rfl,?_⟩) ?_ ?_; rotate_left; intro w'; go_simp; with_reducible rfl; rotate_left; exact yB
                       refine AX (i:=1) (N:=some 59) (v:= ?_) (a':= ?_) #[true,true,false,false,false,false,false,false,false,false,false] rfl rfl (AQ HT_.out zE) (fun _ _ _ h=>h) (Or.inl ⟨by rfl,?_⟩) ?_ ?_; rotate_left; intro w'; go_simp; with_reducible rfl; rotate_left; exact yB
                       refine AX (i:=4) (N:=some 62) (v:= ?_) (a':= ?_) #[true,true,false,false,true,false,false,false,false,false,false] rfl rfl (AQ HT_.out zE) (fun _ _ _ h=>h) (Or.inl ⟨by rfl,?_⟩) ?_ ?_; rotate_left; intro w'; go_simp; with_reducible rfl; rotate_left; exact yB
                       refine AX (i:=5) (N:=some 63) (v:= ?_) (a':= ?_) #[true,true,false,false,true,true,false,false,false,false,false] rfl rfl (AQ HT_.out zE) (fun _ _ _ h=>h) (Or.inl ⟨by rfl,?_⟩) ?_ ?_; rotate_left; intro w'; go_simp; with_reducible rfl; rotate_left; exact yB
                       refine AX (i:=6) (N:=some 64) (v:= ?_) (a':= ?_) #[true,true,false,false,true,true,true,false,false,false,false] rfl rfl (AQ HT_.out zE) (fun _ _ _ h=>h) (Or.inl ⟨by rfl,?_⟩) ?_ ?_; rotate_left; intro w'; go_simp; with_reducible rfl; rotate_left; exact yB
                       refine AX (i:=3) (N:=some 61) (v:= ?_) (a':= ?_) #[true,true,false,true,true,true,true,false,false,false,false] rfl rfl (AQ HT_.out zE) (fun _ _ _ h=>h) (Or.inl ⟨by rfl,?_⟩) ?_ ?_; rotate_left; intro w'; go_simp; with_reducible rfl; rotate_left; exact yB
                       refine BK (i:=2) (N:=some 60) (v:= ?_) (a':= ?_) #[true,true,true,true,true,true,true,false,false,false,false] rfl rfl (B4 HT_.out HW_.out zE) (fun _ _ _ h=>h) (Or.inl ⟨by rfl,?_⟩) hHeld ?_ ?_; rotate_left; rintro w' s0; go_simp; with_reducible rfl; rotate_left; exact yB
                       refine AX (i:=7) (N:=some 65) (v:= ?_) (a':= ?_) #[true,true,true,true,true,true,true,true,false,false,false] rfl rfl (AQ HT_.out zE) (fun _ _ _ h=>h) (Or.inl ⟨by rfl,?_⟩) ?_ ?_; rotate_left; intro w'; go_simp; with_reducible rfl; rotate_left; exact yB
                       refine one_ (i:=8) (N:=none) #[true,true,true,true,true,true,true,true,true,false,false] rfl rfl (Bi HT_.out zE) zA2 (fun K hK=> ?_)
                       refine Ef (w1:=((wd.setCell ⟨go46,((rd l1 t153):Int).toNat*2,none⟩ (.int .i64 t156)).setCell ⟨go46,((rd l1 t153):Int).toNat*2+1,none⟩ (.int .i64 x10_2))) (by rfl) rfl ?_ ?_
                       ·first|(go_simp; done)|(go_simp; rfl)
                       obtain ⟨w54,hw⟩:∃w_,w_=((wd.setCell ⟨go46,((rd l1 t153):Int).toNat*2,none⟩ (.int .i64 t156)).setCell ⟨go46,((rd l1 t153):Int).toNat*2+1,none⟩ (.int .i64 x10_2)):=⟨_,rfl⟩
                       rw [←hw]
                       have hg:wd.grownBy w54 (some go46):=(by rw [hw]; exact HP53.2); have hp_:Kd.R k56 56 w54 w.heap.size (fun _=>True) (.slice (some ⟨go46,0,none⟩) x5_1.length co46) y161:=(by rw [hw,Ny161.out]; exact HP53.1); clear HP53; have n0_:=yA (hp_); have n1_:=yA (Kd.R_over' (v:=(.slice (some ⟨go46,0,none⟩) x5_1.length co46)) zY (Kd.R_typed HO_5.out) zA2 hg); have n2_:=yA (Kd.R_over' (v:=(.slice (some ⟨go46,0,none⟩) x5_1.length co46)) (by (with_reducible repeat (first|apply Kd.R_alloc|apply Kd.R_drewN|apply Kd.R_drew)); exact HO_76.out) (Kd.R_typed HO_5.out) zA2 hg); have n3_:=yA (BP (g:=gb142) (o:= .cells #[.int .i64 A8,.slice (some ad158) l0_1.length c0_1] 33 (0,0)) zA5 hg (Kd.R_ne HO_5.out BK142.out zA2)); have n4_:=yA (BP (g:=gb149) (o:= .cells #[.slice Ao31 x76_1.length co31] 73 (0,0)) zC4 hg (Kd.R_ne HO_5.out BK149.out zA2)); have n5_:=yA ((by rw [hw]; exact AI (AI (HB.out) GB46.out) GB46.out:Below w.heap.size w w54)); clear HO_5; clear HO_7; clear HO_76; clear BK142; clear BK149; clear HB; have HO_5:=n0_; have HO_7:=n1_; have HO_76:=n2_; have BK142:=n3_; have BK149:=n4_; have HB:=n5_; clear n0_ n1_ n2_ n3_ n4_ n5_; clear hg hp_; have p48:0≤((rd l1 t153):Int):=yD; have q48:((rd l1 t153):Int)<((x76_1.length:Int):Int):=yD; obtain ⟨go48,co48,eo48,gb48,gl48,cl48,HG48⟩:=Kd.R_form HO_76.out zI; (first|cases eo48|(injection eo48 with ea_ en_ ec_; (first|subst ea_|(injection ea_ with ea_; subst ea_)); subst ec_; clear en_)); have GB48:=yA gb48; have GG48:=yA HG48; clear gb48 gl48 HG48; obtain ⟨hx48_0,hf48_0⟩:=Kd.R_celln false HO_76.out ((rd l1 t153):Int) p48 q48; replace p48:=eq_true p48; replace q48:=eq_true q48; obtain ⟨hy55_,hz55_⟩:=Kd.R_celln false HO_76.out ((rd l1 t153):Int) (yD) (yD); have HP55:=Kd.R_putg HO_76.out ((rd l1 t153):Int) true
                       refine hK.out _ _ ((AK BK149.out 0).trans rfl) (fun hHeld=> ?_)
                       clear hK K
                       try clear hw
                       refine AX (i:=9) (N:=some 66) (v:= ?_) (a':= ?_) #[true,true,true,true,true,true,true,true,true,true,false] rfl rfl (AQ HT_.out zE) (fun _ _ _ h=>h) (Or.inl ⟨by rfl,?_⟩) ?_ ?_; rotate_left; intro w'; go_simp; with_reducible rfl; rotate_left; exact yB
                       refine one_ (i:=10) (N:=none) #[true,true,true,true,true,true,true,true,true,true,true] rfl rfl (Bi HT_.out zE) zA2 (fun K hK=> ?_)
                       refine Ef (w1:=(w54.setCell ⟨go48,((rd l1 t153):Int).toNat,none⟩ (.bool true))) (by rfl) rfl ?_ ?_
                       ·first|(go_simp; done)|(go_simp; rfl)
                       obtain ⟨w56,hw⟩:∃w_,w_=(w54.setCell ⟨go48,((rd l1 t153):Int).toNat,none⟩ (.bool true)):=⟨_,rfl⟩
                       rw [←hw]
                       have hg:w54.grownBy w56 (some go48):=(by rw [hw]; exact HP55.2); have hp_:Kd.R Kd.bool 4 w56 w.heap.size (fun _=>True) (.slice (some ⟨go48,0,none⟩) x76_1.length co31) y162:=(by rw [hw,Ny162.out]; exact HP55.1); clear HP55; have n0_:=yA (Kd.R_over' (v:=(.slice (some ⟨go48,0,none⟩) x76_1.length co31)) zC9 (Kd.R_typed HO_76.out) zA2 hg); have n1_:=yA (Kd.R_over' (v:=(.slice (some ⟨go48,0,none⟩) x76_1.length co31)) zY (Kd.R_typed HO_76.out) zA2 hg); have n2_:=yA (hp_); have n3_:=yA (BP (g:=gb142) (o:= .cells #[.int .i64 A8,.slice (some ad158) l0_1.length c0_1] 33 (0,0)) zA5 hg (Kd.R_ne HO_76.out BK142.out zA2)); have n4_:=yA (BP (g:=gb149) (o:= .cells #[.slice (some ⟨go48,0,none⟩) x76_1.length co31] 73 (0,0)) zC4 hg (Kd.R_ne HO_76.out BK149.out zA2)); have n5_:=yA ((by rw [hw]; exact AI (HB.out) GB48.out:Below w.heap.size w w56)); clear HO_5; clear HO_7; clear HO_76; clear BK142; clear BK149; clear HB; have HO_5:=n0_; have HO_7:=n1_; have HO_76:=n2_; have BK142:=n3_; have BK149:=n4_; have HB:=n5_; clear n0_ n1_ n2_ n3_ n4_ n5_; clear hg hp_; have hnb57:=NB142_149.out; have hnc57:=NB149_142.out; have hcz58_0:w56.cell? ⟨gb142,0,none⟩=some (.int .i64 A8):=(AK BK142.out 0).trans rfl; have hcz58_1:w56.cell? ⟨gb142,1,none⟩=some (.slice (some ad158) l0_1.length c0_1):=(AK BK142.out 1).trans rfl; have hfz58_0:=AJ BK142.out 0; have hfz58_1:=AJ BK142.out 1
                       refine hK.out _ _ ((AK BK149.out 0).trans rfl) (fun hHeld=> ?_)
                       clear hK K
                       try clear hw
                       refine C7 (Bm HT_.out zE) ?_
                       go_wp2_with (first|((with_reducible refine Ah (f:=22) rfl ?_); refine BB (some 72) rfl rfl Tryd.func22 zE rfl #[.agg #[.int .i64 A8,.slice (some ad158) l0_1.length c0_1],.slice (some ⟨go46,0,none⟩) y161.length co46,.int .i64 (rd l1 t153)] rfl (by (try simp only [List.map_toArray,List.map_cons,List.map_nil]); first|done|(rw [show y161.length=x5_1.length from (Kd.R_reads' HO_5.out).1.symm]<;>rfl)|rfl|(simp only [List.length_drop,List.length_take]; rfl)) ?_; (with_reducible refine (BC.calls A8 _ _ l0_1 _ _ y161 (rd l1 t153) t163 _ ?side1 ?side2 ?side3 ?side4 A49.out).mono ?_); (case side1=>repeat (first|exact (Kd.C_below HR0_1.out HB.out)|(with_reducible refine Kd.C_alloc ?_ _)|(with_reducible refine Kd.C_drewN ?_ _)|(with_reducible refine Kd.C_drew ?_))); (case side2=>exact HC0_1.out); (case side3=>repeat (first|exact (Kd.R_reads' HO_5.out).2.2|(with_reducible refine Kd.C_alloc ?_ _)|(with_reducible refine Kd.C_drewN ?_ _)|(with_reducible refine Kd.C_drew ?_))); (case side4=>rw [show y161.length=x5_1.length from (Kd.R_reads' HO_5.out).1.symm]; exact (Kd.R_reads' HO_5.out).2.1); rintro e w59 ⟨rfl,hb⟩; refine ⟨_,rfl,?_⟩; have n0_:=yA (Kd.R_below zC9 hb); have n1_:=yA (Kd.R_below zY hb); have n2_:=yA (Kd.R_below (by (with_reducible repeat (first|apply Kd.R_alloc|apply Kd.R_drewN|apply Kd.R_drew)); exact HO_76.out) hb); have n3_:=yA (AP (g:=gb142) (o:= .cells #[.int .i64 A8,.slice (some ad158) l0_1.length c0_1] 33 (0,0)) zA5 hb); have n4_:=yA (AP (g:=gb149) (o:= .cells #[.slice (some ⟨go48,0,none⟩) x76_1.length co31] 73 (0,0)) zC4 hb); have n5_:=yA (AO zC5 hb); clear HO_5; clear HO_7; clear HO_76; clear BK142; clear BK149; clear HB; have HO_5:=n0_; have HO_7:=n1_; have HO_76:=n2_; have BK142:=n3_; have BK149:=n4_; have HB:=n5_; clear n0_ n1_ n2_ n3_ n4_ n5_; (try clear hb); (try clear hb2); (try clear hk); (try clear hi); have p52:0≤(t156:Int):=yD; have q52:(t156:Int)<((x7_1.length:Int):Int):=yD; obtain ⟨go52,co52,eo52,gb52,gl52,cl52,HG52⟩:=Kd.R_form HO_7.out zI; (first|cases eo52|(injection eo52 with ea_ en_ ec_; (first|subst ea_|(injection ea_ with ea_; subst ea_)); subst ec_; clear en_)); have GB52:=yA gb52; have GG52:=yA HG52; clear gb52 gl52 HG52; (first|simp only [CO] at hx157_0|skip); obtain ⟨hx52_0,hf52_0⟩:=Kd.R_celln 0 HO_7.out (t156:Int) p52 q52; replace p52:=eq_true p52; replace q52:=eq_true q52; obtain ⟨hy60_,hz60_⟩:=Kd.R_celln 0 HO_7.out (t156:Int) (yD) (yD); have HP60:=Kd.R_putg HO_7.out (t156:Int) t163)|((with_reducible refine C3 (t:=3) (p:=73) rfl ?_); refine Bx (t:=3) (p:=73) (v:= ?vo_w61) (w1:=(w59.setCell ⟨go52,(t156:Int).toNat,none⟩ (.int .i64 t163))) ?hg ?ho ?hn ?hr ?_; (case ho=>rfl); (case hg=>rfl); (case hn=>rfl); (case hr=>first|(go_simp; done)|(go_simp; rfl)); intro w61 hw; have hg:w59.grownBy w61 (some go52):=(by rw [hw]; exact HP60.2); have hp_:Kd.R (Kd.int .i64) 3 w61 w.heap.size (fun _=>True) (.slice (some ⟨go52,0,none⟩) x7_1.length co33) y164:=(by rw [hw,Ny164.out]; exact HP60.1); clear HP60; have n0_:=yA (Kd.R_over' (v:=(.slice (some ⟨go52,0,none⟩) x7_1.length co33)) zC9 (Kd.R_typed HO_7.out) zA2 hg); have n1_:=yA (hp_); have n2_:=yA (Kd.R_over' (v:=(.slice (some ⟨go52,0,none⟩) x7_1.length co33)) (by (with_reducible repeat (first|apply Kd.R_alloc|apply Kd.R_drewN|apply Kd.R_drew)); exact HO_76.out) (Kd.R_typed HO_7.out) zA2 hg); have n3_:=yA (BP (g:=gb142) (o:= .cells #[.int .i64 A8,.slice (some ad158) l0_1.length c0_1] 33 (0,0)) zA5 hg (Kd.R_ne HO_7.out BK142.out zA2)); have n4_:=yA (BP (g:=gb149) (o:= .cells #[.slice (some ⟨go48,0,none⟩) x76_1.length co31] 73 (0,0)) zC4 hg (Kd.R_ne HO_7.out BK149.out zA2)); have n5_:=yA ((by rw [hw]; exact AI (HB.out) GB52.out:Below w.heap.size w w61)); clear HO_5; clear HO_7; clear HO_76; clear BK142; clear BK149; clear HB; have HO_5:=n0_; have HO_7:=n1_; have HO_76:=n2_; have BK142:=n3_; have BK149:=n4_; have HB:=n5_; clear n0_ n1_ n2_ n3_ n4_ n5_; clear hg hw hp_))
                       go_roundg k2
                       case measure=>have:=HK1.out; have:=HK2.out; omega
                       case rel=>exact ⟨(y161),(y164),(wrap64 (x24_1+1)),(y162),zG,H',⟨by have:=HK1.out; have:=HK2.out; omega⟩,⟨by (with_reducible repeat (first|apply Kd.R_alloc|apply Kd.R_drewN|apply Kd.R_drew)); exact HO_5.out⟩,⟨by (with_reducible repeat (first|apply Kd.R_alloc|apply Kd.R_drewN|apply Kd.R_drew)); exact HO_7.out⟩,⟨by (with_reducible repeat (first|apply Kd.R_alloc|apply Kd.R_drewN|apply Kd.R_drew)); exact HO_76.out⟩,⟨by (with_reducible repeat (first|refine AG ?_ _|refine AH ?_|refine AF ?_ _)); exact BK142.out⟩,⟨by (with_reducible repeat (first|refine AG ?_ _|refine AH ?_|refine AF ?_ _)); exact BK149.out⟩,⟨by repeat (first|(with_reducible first|exact HB.out|apply AE|apply AC|apply AD|refine AI ?_ GE142.out|refine AI ?_ GE149.out)|exact HB.out)⟩⟩
                      ·rw [if_neg c51] at H
                       exact absurd H zA6
                     ·rw [if_neg c50] at H
                      exact absurd H zA6
                    ·rw [if_neg c47] at H
                     exact absurd H zA6
                   ·rw [if_neg c45] at H
                    exact absurd H zA6
                  ·rw [if_neg c44] at H
                   exact absurd H zA6
              ·rw [if_neg c28] at H
               exact absurd H zA6
             ·rw [if_neg c27] at H
              exact absurd H zA6
            ·rw [if_neg c26] at H
             exact absurd H zA6
           ·rw [if_neg c25] at H
            exact absurd H zA6
          ·rw [if_neg c22] at H
           exact absurd H zA6
         ·rw [if_neg c21] at H
          exact absurd H zA6
        ·rw [if_neg c19] at H
         have c19b0:decide (x24_1<(l1.length:Int))=false:=decide_eq_false c19
         clear c19
         obtain rfl:=Option.some.inj H
         go_wp2
         go_ret
         exact ⟨_,by first|rfl|(simp [AZ,AY]<;>rfl)|(simp [*,AZ,AY]<;>rfl),by (with_reducible repeat (first|apply Kd.R_alloc|apply Kd.R_drewN|apply Kd.R_drew)); exact HO_5.out,by repeat (first|(with_reducible first|exact HB.out|apply AE|apply AC|apply AD|refine AI ?_ GE142.out|refine AI ?_ GE149.out)|exact HB.out)⟩
     ·rw [if_neg c7] at H
      exact absurd H zA6
    ·rw [if_neg c6] at H
     exact absurd H zA6
   ·rw [if_neg c5] at H
    exact absurd H zA6
  ·rw [if_neg c4] at H
   exact absurd H zA6
 ·rw [if_neg c3] at H
  exact absurd H zA6
mutual
def At.j0:Nat→List Int→Bool→Int→List (S49)→Option ((List (S56))×Int)
 |0,_,_,_,_=>none
 |k+1,x1,x19,x166000,x166001=>if x19=true then (some (([]:List (S56)),1)) else (if 0≤(x1.length:Int) then (if ((x1.length:Int):Int).toNat≤281474976710656 then (At.l0 k x1 (List.replicate ((x1.length:Int):Int).toNat false) x1 (x1.length:Int) 0 x166000 x166001) else (none)) else (none))
def At.l0:Nat→List Int→List Bool→List Int→Int→Int→Int→List (S49)→Option ((List (S56))×Int)
 |0,_,_,_,_,_,_,_=>none
 |k+1,x1,x6,x23,x24,x25,x166000,x166001=>if x25<x24 then (if 0≤x25 then (if x25<(x23.length:Int) then (if (rd x23 x25)<0 then (some (([]:List (S56)),1)) else (if (rd x23 x25)≥(x1.length:Int) then (some (([]:List (S56)),1)) else (if 0≤(rd x23 x25) then (if (rd x23 x25)<(x6.length:Int) then (if rdOf false x6 (rd x23 x25)=true then (some (([]:List (S56)),1)) else (At.l0 k x1 (x6.set ((rd x23 x25):Int).toNat true) x23 x24 (wrap64 (x25+1)) x166000 x166001)) else (none)) else (none)))) else (none)) else (none)) else ((Ag.f k x166000 x166001 x1).bind fun t173=>(some (t173,0)))
end
def At.f (k:Nat) (A8:Int) (l0_1:List (S49)) (l1:List Int):Option ((List (S56))×Int):=(AN.f k A8 l0_1).bind fun t166=>(if t166=true then (At.j0 k l1 ((l1.length:Int) !=(l0_1.length:Int)) A8 l0_1) else (At.j0 k l1 true A8 l0_1))
theorem At.mono_l:∀k,(∀y0 y1 y2 y3,LeO (At.j0 k y0 y1 y2 y3) (At.j0 (k+1) y0 y1 y2 y3))∧(∀y0 y1 y2 y3 y4 y5 y6,LeO (At.l0 k y0 y1 y2 y3 y4 y5 y6) (At.l0 (k+1) y0 y1 y2 y3 y4 y5 y6))
 |0=>⟨fun _ _ _ _ r h=>by simp [At.j0] at h,fun _ _ _ _ _ _ _ r h=>by simp [At.l0] at h⟩
 | k +1=>by
  obtain ⟨ih0,ih1⟩:=At.mono_l k
  refine ⟨?_,?_⟩
  ·intro y0 y1 y2 y3
   unfold At.j0
   repeat' first
   |(with_reducible exact ih0 _ _ _ _)
   |(with_reducible exact ih1 _ _ _ _ _ _ _)
   |(with_reducible exact AN.mono _ _ _)
   |(with_reducible exact Ag.mono _ _ _ _)
   |(with_reducible exact LeO.refl _)
   |(with_reducible exact LeO.none _)
   |(with_reducible refine LeO.ite ?_ ?_)
   |(with_reducible refine LeO.bind ?_ (fun _=> ?_))
   |exact ih0 _ _ _ _
   |exact ih1 _ _ _ _ _ _ _
   |exact AN.mono _ _ _
   |exact Ag.mono _ _ _ _
   |exact LeO.none _
   |refine LeO.ite ?_ ?_
   |refine LeO.bind ?_ (fun _=> ?_)
  ·intro y0 y1 y2 y3 y4 y5 y6
   unfold At.l0
   repeat' first
   |(with_reducible exact ih0 _ _ _ _)
   |(with_reducible exact ih1 _ _ _ _ _ _ _)
   |(with_reducible exact AN.mono _ _ _)
   |(with_reducible exact Ag.mono _ _ _ _)
   |(with_reducible exact LeO.refl _)
   |(with_reducible exact LeO.none _)
   |(with_reducible refine LeO.ite ?_ ?_)
   |(with_reducible refine LeO.bind ?_ (fun _=> ?_))
   |exact ih0 _ _ _ _
   |exact ih1 _ _ _ _ _ _ _
   |exact AN.mono _ _ _
   |exact Ag.mono _ _ _ _
   |exact LeO.none _
   |refine LeO.ite ?_ ?_
   |refine LeO.bind ?_ (fun _=> ?_)
theorem At.mono:∀a0 a1 a2 k,LeO (At.f k a0 a1 a2) (At.f (k+1) a0 a1 a2):=by
 intro a0 a1 a2 k
 obtain ⟨ih0,ih1⟩:=At.mono_l k
 unfold At.f
 repeat' first
  |(with_reducible exact ih0 _ _ _ _)
  |(with_reducible exact ih1 _ _ _ _ _ _ _)
  |(with_reducible exact AN.mono _ _ _)
  |(with_reducible exact Ag.mono _ _ _ _)
  |(with_reducible exact LeO.refl _)
  |(with_reducible exact LeO.none _)
  |(with_reducible refine LeO.ite ?_ ?_)
  |(with_reducible refine LeO.bind ?_ (fun _=> ?_))
  |exact ih0 _ _ _ _
  |exact ih1 _ _ _ _ _ _ _
  |exact AN.mono _ _ _
  |exact Ag.mono _ _ _ _
  |exact LeO.none _
  |refine LeO.ite ?_ ?_
  |refine LeO.bind ?_ (fun _=> ?_)
set_option maxHeartbeats 8000000 in
theorem At.calls (k:Nat) (A8:Int) (A0_1:Option Addr) (c0_1:Nat) (l0_1:List (S49)) (A1:Option Addr) (c1:Nat) (l1:List Int) (r1:List (S56)) (r2:Int) (w:World) (hr0_1:Kd.C k49 w A0_1 l0_1.length l0_1) (hc0_1:l0_1.length≤c0_1) (hr1:Kd.C (Kd.int .i64) w A1 l1.length l1) (hc1:l1.length≤c1) (h:At.f k A8 l0_1 l1=some (r1,r2)):
  Calls Tryd.prog 19 #[.agg #[.int .i64 A8,.slice A0_1 l0_1.length c0_1],.slice A1 l1.length c1] w fun e w'=>∃v0_:Value,e= .returned (.tuple #[v0_,.int .i64 r2])∧Kd.R k56 56 w' w.heap.size (fun _=>True) v0_ r1∧Below w.heap.size w w':=by
 have hu33:=Tryd.underlying33
 have HR0_1:=yA hr0_1
 have HC0_1:=yA hc0_1
 clear hr0_1 hc0_1
 have HR1:=yA hr1
 have HC1:=yA hc1
 clear hr1 hc1
 have HB:=yA (Below.refl w.heap.size w)
 have H:((AN.f k A8 l0_1).bind fun t166=>(if t166=true then (At.j0 k l1 ((l1.length:Int) !=(l0_1.length:Int)) A8 l0_1) else (At.j0 k l1 true A8 l0_1)))=some (r1,r2):=h
 clear h
 have HC3:=yA H
 clear H
 go_enter Tryd.func19,Tryd.ntmps19
 go_upto_region 1 with (first|((with_reducible refine Ar (N:=2) rfl ?_); (try (refine BI (by rfl) ?_; dsimp only)); refine Ap ?hg (N:=2) ?hd (cs:= #[.int .i64 A8,.slice A0_1 l0_1.length c0_1]) (t:=33) ?hr ?_; (case hd=>rfl); (case hg=>rfl); (case hr=>first|(go_simp; done)|(go_simp; rfl)); intro gb165 hg w4 hbox hb; have n0_:=yA (AO zB hb); have n1_:=yA (hbox); have n2_:=yA ((by rw [hg]; exact (AT zB):w.heap.size≤gb165)); have n3_:=yA ((by rw [hg]; exact (AT zB):w.heap.size≤gb165)); clear HB; have HB:=n0_; have BK165:=n1_; have GW165:=n2_; have GE165:=n3_; clear n0_ n1_ n2_ n3_; clear hb hbox hg))
 (try simp only [Act.put,List.setIfInBounds_toArray,List.set_cons_zero,List.set_cons_succ])
 go_cut [19] (fun v19 wc=>∃(kq:Nat) (x19_2:Bool),v19= .bool x19_2∧Aside0 (At.j0 kq l1 x19_2 A8 l0_1=some (r1,r2))∧Aside0 (kq≤k)∧Aside0 (wc.heap[gb165]? =some (.cells #[.int .i64 A8,(.slice A0_1 l0_1.length c0_1)] 33 (0,0)))∧Aside0 (Below w.heap.size w wc))
 case first=>
  have H:=HC3.out
  clear HC3
  replace H:=Option.bind_eq_some_iff.mp H
  obtain ⟨t166,A50,H⟩:=H
  replace H:(if t166=true then (At.j0 k l1 ((l1.length:Int) !=(l0_1.length:Int)) A8 l0_1) else (At.j0 k l1 true A8 l0_1))=some (r1,r2):=H
  have A5:=yA A50
  clear A50
  by_cases c6:t166=true
  ·subst c6
   have H1:(At.j0 k l1 ((l1.length:Int) !=(l0_1.length:Int)) A8 l0_1)=some (r1,r2):=by rw [if_pos rfl] at H; exact H
   clear H
   have H:=H1
   clear H1
   have H':=yA H
   clear H
   have hcz7_0:w4.cell? ⟨gb165,0,none⟩=some (.int .i64 A8):=(AK BK165.out 0).trans rfl
   have hcz7_1:w4.cell? ⟨gb165,1,none⟩=some (.slice A0_1 l0_1.length c0_1):=(AK BK165.out 1).trans rfl
   have hfz7_0:=AJ BK165.out 0
   have hfz7_1:=AJ BK165.out 1
   go_wp2_with (first|((with_reducible refine Ah (f:=14) rfl ?_); refine BB (some 10) rfl rfl Tryd.func14 zE rfl #[.agg #[.int .i64 A8,.slice A0_1 l0_1.length c0_1]] rfl zD ?_; (with_reducible refine (AN.calls k A8 _ _ l0_1 true _ ?side1 ?side2 A5.out).mono ?_); (case side1=>repeat (first|exact (Kd.C_below HR0_1.out HB.out)|(with_reducible refine Kd.C_alloc ?_ _)|(with_reducible refine Kd.C_drewN ?_ _)|(with_reducible refine Kd.C_drew ?_))); (case side2=>exact HC0_1.out); rintro e w8 ⟨rfl,hb⟩; refine ⟨_,rfl,?_⟩; have n0_:=yA (AP (g:=gb165) (o:= .cells #[.int .i64 A8,.slice A0_1 l0_1.length c0_1] 33 (0,0)) (by (with_reducible repeat (first|refine AG ?_ _|refine AH ?_|refine AF ?_ _)); exact BK165.out) hb); have n1_:=yA (AO zB9 hb); clear BK165; clear HB; have BK165:=n0_; have HB:=n1_; clear n0_ n1_; (try clear hb); (try clear hb2); (try clear hk); (try clear hi); have hcz9_0:w8.cell? ⟨gb165,0,none⟩=some (.int .i64 A8):=(AK BK165.out 0).trans rfl; have hcz9_1:w8.cell? ⟨gb165,1,none⟩=some (.slice A0_1 l0_1.length c0_1):=(AK BK165.out 1).trans rfl; have hfz9_0:=AJ BK165.out 0; have hfz9_1:=AJ BK165.out 1))
   go_meet
   case rel=>exact ⟨_,(((l1.length:Int) !=(l0_1.length:Int))),zG,H',⟨by first|omega|exact Nat.le_refl _⟩,⟨by (with_reducible repeat (first|refine AG ?_ _|refine AH ?_|refine AF ?_ _)); exact BK165.out⟩,⟨by repeat (first|(with_reducible first|exact HB.out|apply AE|apply AC|apply AD|refine AI ?_ GE165.out)|exact HB.out)⟩⟩
  ·replace c6:=Bool.eq_false_iff.mpr c6
   subst c6
   have H1:(At.j0 k l1 true A8 l0_1)=some (r1,r2):=by rw [if_neg (show ¬(false=true) by decide)] at H; exact H
   clear H
   have H:=H1
   clear H1
   have H':=yA H
   clear H
   have hcz10_0:w4.cell? ⟨gb165,0,none⟩=some (.int .i64 A8):=(AK BK165.out 0).trans rfl
   have hcz10_1:w4.cell? ⟨gb165,1,none⟩=some (.slice A0_1 l0_1.length c0_1):=(AK BK165.out 1).trans rfl
   have hfz10_0:=AJ BK165.out 0
   have hfz10_1:=AJ BK165.out 1
   go_wp2_with (first|((with_reducible refine Ah (f:=14) rfl ?_); refine BB (some 10) rfl rfl Tryd.func14 zE rfl #[.agg #[.int .i64 A8,.slice A0_1 l0_1.length c0_1]] rfl zD ?_; (with_reducible refine (AN.calls k A8 _ _ l0_1 false _ ?side1 ?side2 A5.out).mono ?_); (case side1=>repeat (first|exact (Kd.C_below HR0_1.out HB.out)|(with_reducible refine Kd.C_alloc ?_ _)|(with_reducible refine Kd.C_drewN ?_ _)|(with_reducible refine Kd.C_drew ?_))); (case side2=>exact HC0_1.out); rintro e w11 ⟨rfl,hb⟩; refine ⟨_,rfl,?_⟩; have n0_:=yA (AP (g:=gb165) (o:= .cells #[.int .i64 A8,.slice A0_1 l0_1.length c0_1] 33 (0,0)) (by (with_reducible repeat (first|refine AG ?_ _|refine AH ?_|refine AF ?_ _)); exact BK165.out) hb); have n1_:=yA (AO zB9 hb); clear BK165; clear HB; have BK165:=n0_; have HB:=n1_; clear n0_ n1_; (try clear hb); (try clear hb2); (try clear hk); (try clear hi)))
   go_meet
   case rel=>exact ⟨_,(true),zG,H',⟨by first|omega|exact Nat.le_refl _⟩,⟨by (with_reducible repeat (first|refine AG ?_ _|refine AH ?_|refine AF ?_ _)); exact BK165.out⟩,⟨by repeat (first|(with_reducible first|exact HB.out|apply AE|apply AC|apply AD|refine AI ?_ GE165.out)|exact HB.out)⟩⟩
 case rest =>
  clear HC3
  try clear c1
  try clear p2
  try clear c6
  try clear hcz10_0
  try clear hcz10_1
  try clear hcz7_0
  try clear hcz7_1
  try clear hcz9_0
  try clear hcz9_1
  try clear hfz10_0
  try clear hfz10_1
  try clear hfz7_0
  try clear hfz7_1
  try clear hfz9_0
  try clear hfz9_1
  obtain ⟨kq,x19_2,rfl,HA,HJ2,BK165,HB⟩:=hcut
  cases kq with
  |zero=>exact absurd HA.out (by simp [At.j0])
  | succ kj2=>
   have H:=HA.out
   clear HA
   simp only [At.j0] at H
   by_cases c12:x19_2=true
   ·subst c12
    have H1:(some (([]:List (S56)),1))=some (r1,r2):=by rw [if_pos rfl] at H; exact H
    clear H
    have H:=H1
    clear H1
    simp only [Option.some.injEq,Prod.mk.injEq] at H
    obtain ⟨rfl,rfl⟩:=H
    go_wp2
    go_ret2
    exact ⟨_,by first|rfl|(simp [AZ,AY]<;>rfl)|(simp [*,AZ,AY]<;>rfl),by first|exact Kd.R_nil _ _ _ _ _|exact Kd.N_nil _ _ _ _ _|exact Kd.V_nil _ _ _ _ _|exact Kd.Q_nil _ _ _ _ _|exact Kd.S_nil _ _ _ _ _,by repeat (first|(with_reducible first|exact HB.out|apply AE|apply AC|apply AD|refine AI ?_ GE165.out)|exact HB.out)⟩
   ·replace c12 :=Bool.eq_false_iff.mpr c12
    subst c12
    have H1:(if 0≤(l1.length:Int) then (if ((l1.length:Int):Int).toNat≤281474976710656 then (At.l0 kj2 l1 (List.replicate ((l1.length:Int):Int).toNat false) l1 (l1.length:Int) 0 A8 l0_1) else (none)) else (none))=some (r1,r2):=by rw [if_neg (show ¬(false=true) by decide)] at H; exact H
    clear H
    have H:=H1
    clear H1
    by_cases c13:0≤(l1.length:Int)
    ·rw [if_pos c13] at H
     have c13b0:=eq_true c13
     have c13b1:decide (0≤(l1.length:Int))=true:=decide_eq_true c13
     clear c13
     by_cases c14:((l1.length:Int):Int).toNat≤281474976710656
     ·rw [if_pos c14] at H
      have c14b0:=eq_true c14
      have c14b1:decide (((l1.length:Int):Int).toNat≤281474976710656)=true:=decide_eq_true c14
      clear c14
      obtain ⟨y167,hy167⟩:∃y_:List Bool,y_=(List.replicate ((l1.length:Int):Int).toNat false):=⟨_,rfl⟩
      replace H:(At.l0 kj2 l1 y167 l1 (l1.length:Int) 0 A8 l0_1)=some (r1,r2):=by first|(rw [hy167]; with_reducible exact H)|(have H2_:=(Option.bind_some _ _).symm.trans H; rw [hy167]; with_reducible exact H2_)|(have H2_:=(Option.bind_some _ _).symm.trans H; with_reducible exact H2_)|with_reducible exact H|(rw [hy167]; exact H)|exact H
      have Ny167:=yA hy167
      clear hy167
      have H':=yA H
      clear H
      go_wp2_with (first|((with_reducible refine Ar (N:=22) rfl ?_); (try (refine BI (by rfl) ?_; dsimp only)); refine Kd.R_make Kd.bool _ 4 rfl (N:=22) rfl 73 _ _ rfl (l1.length:Int) rfl rfl Tryd.underlying73 (.bool false) 1 info4 rfl zA2 zI false (ok:=fun _=>True) (okp:=fun _=>True) rfl (fun _ hk=>hk) trivial (yD) (Nat.le_trans (Nat.mul_le_mul_right _ (yD:(l1.length:Int).toNat≤281474976710656)) zI) (Below.refl _ _) (Nat.le_refl _) ?_; intro v168 w15 ho16 hb hg_ hnew_; clear hg_ hnew_; (first|rw [←Ny167.out] at ho16|(simp only [Int.reduceToNat] at ho16; rw [←Ny167.out] at ho16)); have n0_:=yA (Kd.R_lower ho16 (AT zB9)); have n1_:=yA (AP (g:=gb165) (o:= .cells #[.int .i64 A8,.slice A0_1 l0_1.length c0_1] 33 (0,0)) (by (with_reducible repeat (first|refine AG ?_ _|refine AH ?_|refine AF ?_ _)); exact BK165.out) hb); have n2_:=yA (AO zB9 hb); clear BK165; clear HB; have HO169:=n0_; have BK165:=n1_; have HB:=n2_; clear n0_ n1_ n2_; clear hb ho16))
      go_loopg [25] kj2 (fun kq v25 w'=>∃(x6_2:List Bool) (x25_2:Int),v25= .int .i64 x25_2∧Aside0 (At.l0 kq l1 x6_2 l1 (l1.length:Int) x25_2 A8 l0_1=some (r1,r2))∧Aside0 (kq≤kj2)∧Aside0 (Kd.R Kd.bool 4 w' w.heap.size (fun _=>True) v168 x6_2)∧Aside0 (w'.heap[gb165]? =some (.cells #[.int .i64 A8,(.slice A0_1 l0_1.length c0_1)] 33 (0,0)))∧Aside0 (Below w.heap.size w w'))
      case atStart=>exact ⟨(y167),(0),zG,H',⟨Nat.le_refl _⟩,⟨by (with_reducible repeat (first|apply Kd.R_alloc|apply Kd.R_drewN|apply Kd.R_drew)); exact HO169.out⟩,⟨by (with_reducible repeat (first|refine AG ?_ _|refine AH ?_|refine AF ?_ _)); exact BK165.out⟩,⟨by repeat (first|(with_reducible first|exact HB.out|apply AE|apply AC|apply AD|refine AI ?_ GE165.out)|exact HB.out)⟩⟩
      case round=>
       clear H'
       try clear c1
       try clear p2
       try clear c6
       try clear c12
       try clear c13
       try clear c13b0
       try clear c13b1
       try clear c14
       try clear c14b0
       try clear c14b1
       try clear hcz10_0
       try clear hcz10_1
       try clear hcz7_0
       try clear hcz7_1
       try clear hcz9_0
       try clear hcz9_1
       try clear hfz10_0
       try clear hfz10_1
       try clear hfz7_0
       try clear hfz7_1
       try clear hfz9_0
       try clear hfz9_1
       try clear p2
       obtain ⟨x6_2,x25_2,rfl,HA,HK2,HO_6,BK165,HB⟩:=hrel
       cases gk with
       |zero=>exact absurd HA.out (by simp [At.l0])
       | succ k2 =>
        have H:=HA.out
        clear HA
        simp only [At.l0] at H
        by_cases c17:x25_2<(l1.length:Int)
        ·rw [if_pos c17] at H
         have c17b0:decide (x25_2<(l1.length:Int))=true:=decide_eq_true c17
         clear c17
         by_cases c18:0≤x25_2
         ·rw [if_pos c18] at H
          have c18b0:decide (0≤x25_2)=true:=decide_eq_true c18
          clear c18
          by_cases c19:x25_2<(l1.length:Int)
          ·rw [if_pos c19] at H
           have c19b0:decide (x25_2<(l1.length:Int))=true:=decide_eq_true c19
           clear c19
           by_cases c20:(rd l1 x25_2)<0
           ·rw [if_pos c20] at H
            have c20b0:decide ((rd l1 x25_2)<0)=true:=decide_eq_true c20
            clear c20
            simp only [Option.some.injEq,Prod.mk.injEq] at H
            obtain ⟨rfl,rfl⟩:=H
            have p170:0≤(x25_2:Int):=yD
            have q170:x25_2<(l1.length:Int):=yD
            obtain ⟨ad170,e170,hx170_0⟩:=Kd.at_int HR1.out x25_2 p170 q170
            cases e170
            replace hx170_0:=yC HB.out hx170_0
            replace p170:=eq_true p170
            replace q170:=eq_true q170
            go_wp2
            go_ret2
            exact ⟨_,by first|rfl|(simp [AZ,AY]<;>rfl)|(simp [*,AZ,AY]<;>rfl),by first|exact Kd.R_nil _ _ _ _ _|exact Kd.N_nil _ _ _ _ _|exact Kd.V_nil _ _ _ _ _|exact Kd.Q_nil _ _ _ _ _|exact Kd.S_nil _ _ _ _ _,by repeat (first|(with_reducible first|exact HB.out|apply AE|apply AC|apply AD|refine AI ?_ GE165.out)|exact HB.out)⟩
           ·rw [if_neg c20] at H
            have c20b0:decide ((rd l1 x25_2)<0)=false:=decide_eq_false c20
            clear c20
            by_cases c21:(rd l1 x25_2)≥(l1.length:Int)
            ·rw [if_pos c21] at H
             have c21b0:decide ((l1.length:Int)≤(rd l1 x25_2))=true:=decide_eq_true c21
             clear c21
             simp only [Option.some.injEq,Prod.mk.injEq] at H
             obtain ⟨rfl,rfl⟩:=H
             have p170:0≤(x25_2:Int):=yD
             have q170:x25_2<(l1.length:Int):=yD
             obtain ⟨ad170,e170,hx170_0⟩:=Kd.at_int HR1.out x25_2 p170 q170
             cases e170
             replace hx170_0:=yC HB.out hx170_0
             replace p170:=eq_true p170
             replace q170:=eq_true q170
             go_wp2
             go_ret2
             exact ⟨_,by first|rfl|(simp [AZ,AY]<;>rfl)|(simp [*,AZ,AY]<;>rfl),by first|exact Kd.R_nil _ _ _ _ _|exact Kd.N_nil _ _ _ _ _|exact Kd.V_nil _ _ _ _ _|exact Kd.Q_nil _ _ _ _ _|exact Kd.S_nil _ _ _ _ _,by repeat (first|(with_reducible first|exact HB.out|apply AE|apply AC|apply AD|refine AI ?_ GE165.out)|exact HB.out)⟩
            ·rw [if_neg c21] at H
             have c21b0:decide ((l1.length:Int)≤(rd l1 x25_2))=false:=decide_eq_false c21
             clear c21
             by_cases c22:0≤(rd l1 x25_2)
             ·rw [if_pos c22] at H
              have c22b0:decide (0≤(rd l1 x25_2))=true:=decide_eq_true c22
              clear c22
              by_cases c23:(rd l1 x25_2)<(x6_2.length:Int)
              ·rw [if_pos c23] at H
               have c23b0:decide ((rd l1 x25_2)<(x6_2.length:Int))=true:=decide_eq_true c23
               clear c23
               obtain ⟨bq24,hbq24⟩:∃b_:Bool,b_=(rdOf false x6_2 (rd l1 x25_2)):=⟨_,rfl⟩
               replace H:(if bq24=true then (some (([]:List (S56)),1)) else (At.l0 k2 l1 (x6_2.set ((rd l1 x25_2):Int).toNat true) l1 (l1.length:Int) (wrap64 (x25_2+1)) A8 l0_1))=some (r1,r2):=by rw [←hbq24] at H; exact H
               have Nbq24:=yA hbq24
               clear hbq24
               by_cases c25:bq24=true
               ·subst c25
                have H1:(some (([]:List (S56)),1))=some (r1,r2):=by rw [if_pos rfl] at H; exact H
                clear H
                have H:=H1
                clear H1
                simp only [Option.some.injEq,Prod.mk.injEq] at H
                obtain ⟨rfl,rfl⟩:=H
                have p170:0≤(x25_2:Int):=yD
                have q170:x25_2<(l1.length:Int):=yD
                obtain ⟨ad170,e170,hx170_0⟩:=Kd.at_int HR1.out x25_2 p170 q170
                cases e170
                replace hx170_0:=yC HB.out hx170_0
                replace p170:=eq_true p170
                replace q170:=eq_true q170
                obtain ⟨Ao26,co26,eo26⟩:=Kd.R_slice HO_6.out
                subst eo26
                have p171:0≤((rd l1 x25_2):Int):=yD
                have q171:(rd l1 x25_2)<(x6_2.length:Int):=yD
                obtain ⟨ad171,e171,hx171_0⟩:=Kd.at_bool (Kd.R_reads' HO_6.out).2.2 (rd l1 x25_2) p171 q171
                (try rw [←Nbq24.out] at hx171_0)
                cases e171
                replace p171:=eq_true p171
                replace q171:=eq_true q171
                go_wp2
                go_ret2
                exact ⟨_,by first|rfl|(simp [AZ,AY]<;>rfl)|(simp [*,AZ,AY]<;>rfl),by first|exact Kd.R_nil _ _ _ _ _|exact Kd.N_nil _ _ _ _ _|exact Kd.V_nil _ _ _ _ _|exact Kd.Q_nil _ _ _ _ _|exact Kd.S_nil _ _ _ _ _,by repeat (first|(with_reducible first|exact HB.out|apply AE|apply AC|apply AD|refine AI ?_ GE165.out)|exact HB.out)⟩
               ·replace c25:=Bool.eq_false_iff.mpr c25
                subst c25
                have H1:(At.l0 k2 l1 (x6_2.set ((rd l1 x25_2):Int).toNat true) l1 (l1.length:Int) (wrap64 (x25_2+1)) A8 l0_1)=some (r1,r2):=by rw [if_neg (show ¬(false=true) by decide)] at H; exact H
                clear H
                have H:=H1
                clear H1
                obtain ⟨y172,hy172⟩:∃y_:List Bool,y_=(x6_2.set ((rd l1 x25_2):Int).toNat true):=⟨_,rfl⟩
                replace H:(At.l0 k2 l1 y172 l1 (l1.length:Int) (wrap64 (x25_2+1)) A8 l0_1)=some (r1,r2):=by first|(rw [hy172]; with_reducible exact H)|(have H2_:=(Option.bind_some _ _).symm.trans H; rw [hy172]; with_reducible exact H2_)|(have H2_:=(Option.bind_some _ _).symm.trans H; with_reducible exact H2_)|with_reducible exact H|(rw [hy172]; exact H)|exact H
                have Ny172:=yA hy172
                clear hy172
                have H':=yA H
                clear H
                have p170:0≤(x25_2:Int):=yD
                have q170:x25_2<(l1.length:Int):=yD
                obtain ⟨ad170,e170,hx170_0⟩:=Kd.at_int HR1.out x25_2 p170 q170
                cases e170
                replace hx170_0:=yC HB.out hx170_0
                replace p170:=eq_true p170
                replace q170:=eq_true q170
                obtain ⟨Ao28,co28,eo28⟩:=Kd.R_slice HO_6.out
                subst eo28
                have p171:0≤((rd l1 x25_2):Int):=yD
                have q171:(rd l1 x25_2)<(x6_2.length:Int):=yD
                obtain ⟨ad171,e171,hx171_0⟩:=Kd.at_bool (Kd.R_reads' HO_6.out).2.2 (rd l1 x25_2) p171 q171
                (try rw [←Nbq24.out] at hx171_0)
                cases e171
                replace p171:=eq_true p171
                replace q171:=eq_true q171
                have p27:0≤((rd l1 x25_2):Int):=yD
                have q27:((rd l1 x25_2):Int)<((x6_2.length:Int):Int):=yD
                obtain ⟨go27,co27,eo27,gb27,gl27,cl27,HG27⟩:=Kd.R_form HO_6.out zI
                (first|cases eo27|(injection eo27 with ea_ en_ ec_; (first|subst ea_|(injection ea_ with ea_; subst ea_)); subst ec_; clear en_))
                have GB27:=yA gb27
                have GG27:=yA HG27
                clear gb27 gl27 HG27
                (first|simp only [CO] at hx171_0|skip)
                obtain ⟨hx27_0,hf27_0⟩:=Kd.R_celln false HO_6.out ((rd l1 x25_2):Int) p27 q27
                replace p27:=eq_true p27
                replace q27:=eq_true q27
                have HP29:=Kd.R_putg HO_6.out ((rd l1 x25_2):Int) true
                go_wp2_with (first|((with_reducible refine C3 (t:=4) (p:=45) rfl ?_); refine Bx (t:=4) (p:=45) (v:= ?vo_w30) (w1:=(wr.setCell ⟨go27,((rd l1 x25_2):Int).toNat,none⟩ (.bool true))) ?hg ?ho ?hn ?hr ?_; (case ho=>rfl); (case hg=>rfl); (case hn=>rfl); (case hr=>first|(go_simp; done)|(go_simp; rfl)); intro w30 hw; have hg:wr.grownBy w30 (some go27):=(by rw [hw]; exact HP29.2); have hp_:Kd.R Kd.bool 4 w30 w.heap.size (fun _=>True) (.slice (some ⟨go27,0,none⟩) x6_2.length co28) y172:=(by rw [hw,Ny172.out]; exact HP29.1); clear HP29; have n0_:=yA (hp_); have n1_:=yA (BP (g:=gb165) (o:= .cells #[.int .i64 A8,.slice A0_1 l0_1.length c0_1] 33 (0,0)) (by (with_reducible repeat (first|refine AG ?_ _|refine AH ?_|refine AF ?_ _)); exact BK165.out) hg (Kd.R_ne HO_6.out BK165.out zA2)); have n2_:=yA ((by rw [hw]; exact AI (HB.out) GB27.out:Below w.heap.size w w30)); clear HO_6; clear BK165; clear HB; have HO_6:=n0_; have BK165:=n1_; have HB:=n2_; clear n0_ n1_ n2_; clear hg hw hp_))
                go_roundg k2
                case measure=>have:=HJ2.out; have:=HK2.out; omega
                case rel=>exact ⟨(y172),(wrap64 (x25_2+1)),zG,H',⟨by have:=HJ2.out; have:=HK2.out; omega⟩,⟨by (with_reducible repeat (first|apply Kd.R_alloc|apply Kd.R_drewN|apply Kd.R_drew)); exact HO_6.out⟩,⟨by (with_reducible repeat (first|refine AG ?_ _|refine AH ?_|refine AF ?_ _)); exact BK165.out⟩,⟨by repeat (first|(with_reducible first|exact HB.out|apply AE|apply AC|apply AD|refine AI ?_ GE165.out)|exact HB.out)⟩⟩
              ·rw [if_neg c23] at H
               exact absurd H zA6
             ·rw [if_neg c22] at H
              exact absurd H zA6
          ·rw [if_neg c19] at H
           exact absurd H zA6
         ·rw [if_neg c18] at H
          exact absurd H zA6
        ·rw [if_neg c17] at H
         have c17b0:decide (x25_2<(l1.length:Int))=false:=decide_eq_false c17
         clear c17
         replace H:=Option.bind_eq_some_iff.mp H
         obtain ⟨t173,A310,H⟩:=H
         replace H:(some (t173,0))=some (r1,r2):=H
         have A31:=yA A310
         clear A310
         simp only [Option.some.injEq,Prod.mk.injEq] at H
         obtain ⟨rfl,rfl⟩:=H
         have hcz32_0:wr.cell? ⟨gb165,0,none⟩=some (.int .i64 A8):=(AK BK165.out 0).trans rfl
         have hcz32_1:wr.cell? ⟨gb165,1,none⟩=some (.slice A0_1 l0_1.length c0_1):=(AK BK165.out 1).trans rfl
         have hfz32_0:=AJ BK165.out 0
         have hfz32_1:=AJ BK165.out 1
         go_wp2_with (first|((with_reducible refine Ah (f:=38) rfl ?_); refine BB (some 49) rfl rfl Tryd.func38 zE rfl #[.agg #[.int .i64 A8,.slice A0_1 l0_1.length c0_1],.slice A1 l1.length c1] rfl zD ?_; (with_reducible refine (Ag.calls k2 A8 _ _ l0_1 _ _ l1 t173 _ ?side1 ?side2 ?side3 ?side4 A31.out).mono ?_); (case side1=>repeat (first|exact (Kd.C_below HR0_1.out HB.out)|(with_reducible refine Kd.C_alloc ?_ _)|(with_reducible refine Kd.C_drewN ?_ _)|(with_reducible refine Kd.C_drew ?_))); (case side2=>exact HC0_1.out); (case side3=>repeat (first|exact (Kd.C_below HR1.out HB.out)|(with_reducible refine Kd.C_alloc ?_ _)|(with_reducible refine Kd.C_drewN ?_ _)|(with_reducible refine Kd.C_drew ?_))); (case side4=>exact HC1.out); rintro e w33 ⟨v174,rfl,ho0,hb⟩; refine ⟨_,rfl,?_⟩; have n0_:=yA (Kd.R_below (by (with_reducible repeat (first|apply Kd.R_alloc|apply Kd.R_drewN|apply Kd.R_drew)); exact HO_6.out) hb); have n1_:=yA (Kd.R_lower ho0 (AT zB9)); have n2_:=yA (AP (g:=gb165) (o:= .cells #[.int .i64 A8,.slice A0_1 l0_1.length c0_1] 33 (0,0)) (by (with_reducible repeat (first|refine AG ?_ _|refine AH ?_|refine AF ?_ _)); exact BK165.out) hb); have n3_:=yA (AO zB9 hb); clear HO_6; clear BK165; clear HB; have HO_6:=n0_; have HO175:=n1_; have BK165:=n2_; have HB:=n3_; clear n0_ n1_ n2_ n3_; (try clear hb); (try clear hb2); (try clear hk); (try clear hi); (try clear ho0)))
         go_ret2
         exact ⟨_,by first|rfl|(simp [AZ,AY]<;>rfl)|(simp [*,AZ,AY]<;>rfl),by (with_reducible repeat (first|apply Kd.R_alloc|apply Kd.R_drewN|apply Kd.R_drew)); exact HO175.out,by repeat (first|(with_reducible first|exact HB.out|apply AE|apply AC|apply AD|refine AI ?_ GE165.out)|exact HB.out)⟩
     ·rw [if_neg c14] at H
      exact absurd H zA6
    ·rw [if_neg c13] at H
     exact absurd H zA6
end Go.Proofs.YtdadecjefafflaaDoor.PChk
end
section
namespace Go.Proofs.YtdadecjefafflaaDoor.PChk
set_option maxRecDepth 100000
open Go.RowKit Go.Proofs.YtdadecjefafflaaDoorW.PrintWords Go.Proofs.YtdadecjefafflaaDoorW.PrintLast Go.Proofs.YtdadecjefafflaaDoorW.PrintMore
attribute [local go_sem] Ba BX Be Bd BS BR BZ BW
mutual
def Aq.l0:Nat→List Int→List (S49)→Int→Int→Option (List Int×Int)
 |0,_,_,_,_=>none
 |k+1,x4,x14,x15,x16=>if x16<x15 then (if 0≤x16 then (if x16<(x14.length:Int) then (Aq.l1 k x4 0 x14 x15 x16 ((AM x14 x16).f3) (((AM x14 x16).f3).length:Int) 0 ((AM x14 x16).f0) ((AM x14 x16).f1) ((AM x14 x16).f2) ((AM x14 x16).f3)) else (none)) else (none)) else (some (x4,0))
def Aq.l1:Nat→List Int→Int→List (S49)→Int→Int→List Int→Int→Int→ByteArray→Int→Int→List Int→Option (List Int×Int)
 |0,_,_,_,_,_,_,_,_,_,_,_,_=>none
 |k+1,x4,x7,x14,x15,x16,x21,x22,x23,x180000,x180001,x180002,x180003=>if x23<x22 then (if 0≤x23 then (if x23<(x21.length:Int) then (if 0≤(rd x21 x23) then (if (rd x21 x23)<(x4.length:Int) then (Aq.l1 k x4 (mx x7 (rd x4 (rd x21 x23))) x14 x15 x16 x21 x22 (wrap64 (x23+1)) x180000 x180001 x180002 x180003) else (none)) else (none)) else (none)) else (none)) else (if x4.length<17592186044416 then (Aq.l0 k (x4++[wrap64 (x7+x180001)]) x14 x15 (wrap64 (x16+1))) else (none))
end
def Aq.f (k:Nat) (A8:Int) (l0_1:List (S49)):Option (List Int×Int):=(AN.f k A8 l0_1).bind fun t177=>(if t177=true then (Aq.l0 k ([]:List Int) l0_1 (l0_1.length:Int) 0) else (some (([]:List Int),1)))
theorem Aq.mono_l:∀k,(∀y0 y1 y2 y3,LeO (Aq.l0 k y0 y1 y2 y3) (Aq.l0 (k+1) y0 y1 y2 y3))∧(∀y0 y1 y2 y3 y4 y5 y6 y7 y8 y9 y10 y11,LeO (Aq.l1 k y0 y1 y2 y3 y4 y5 y6 y7 y8 y9 y10 y11) (Aq.l1 (k+1) y0 y1 y2 y3 y4 y5 y6 y7 y8 y9 y10 y11))
 |0=>⟨fun _ _ _ _ r h=>by simp [Aq.l0] at h,fun _ _ _ _ _ _ _ _ _ _ _ _ r h=>by simp [Aq.l1] at h⟩
 | k +1=>by
  obtain ⟨ih0,ih1⟩:=Aq.mono_l k
  refine ⟨?_,?_⟩
  ·intro y0 y1 y2 y3
   unfold Aq.l0
   repeat' first
   |(with_reducible exact ih0 _ _ _ _)
   |(with_reducible exact ih1 _ _ _ _ _ _ _ _ _ _ _ _)
   |(with_reducible exact AN.mono _ _ _)
   |(with_reducible exact LeO.refl _)
   |(with_reducible exact LeO.none _)
   |(with_reducible refine LeO.ite ?_ ?_)
   |(with_reducible refine LeO.bind ?_ (fun _=> ?_))
   |exact ih0 _ _ _ _
   |exact ih1 _ _ _ _ _ _ _ _ _ _ _ _
   |exact AN.mono _ _ _
   |exact LeO.none _
   |refine LeO.ite ?_ ?_
   |refine LeO.bind ?_ (fun _=> ?_)
  ·intro y0 y1 y2 y3 y4 y5 y6 y7 y8 y9 y10 y11
   unfold Aq.l1
   repeat' first
   |(with_reducible exact ih0 _ _ _ _)
   |(with_reducible exact ih1 _ _ _ _ _ _ _ _ _ _ _ _)
   |(with_reducible exact AN.mono _ _ _)
   |(with_reducible exact LeO.refl _)
   |(with_reducible exact LeO.none _)
   |(with_reducible refine LeO.ite ?_ ?_)
   |(with_reducible refine LeO.bind ?_ (fun _=> ?_))
   |exact ih0 _ _ _ _
   |exact ih1 _ _ _ _ _ _ _ _ _ _ _ _
   |exact AN.mono _ _ _
   |exact LeO.none _
   |refine LeO.ite ?_ ?_
   |refine LeO.bind ?_ (fun _=> ?_)
theorem Aq.mono:∀a0 a1 k,LeO (Aq.f k a0 a1) (Aq.f (k+1) a0 a1):=by
 intro a0 a1 k
 obtain ⟨ih0,ih1⟩:=Aq.mono_l k
 unfold Aq.f
 repeat' first
  |(with_reducible exact ih0 _ _ _ _)
  |(with_reducible exact ih1 _ _ _ _ _ _ _ _ _ _ _ _)
  |(with_reducible exact AN.mono _ _ _)
  |(with_reducible exact LeO.refl _)
  |(with_reducible exact LeO.none _)
  |(with_reducible refine LeO.ite ?_ ?_)
  |(with_reducible refine LeO.bind ?_ (fun _=> ?_))
  |exact ih0 _ _ _ _
  |exact ih1 _ _ _ _ _ _ _ _ _ _ _ _
  |exact AN.mono _ _ _
  |exact LeO.none _
  |refine LeO.ite ?_ ?_
  |refine LeO.bind ?_ (fun _=> ?_)
set_option maxHeartbeats 8000000 in
theorem Aq.calls (k:Nat) (A8:Int) (A0_1:Option Addr) (c0_1:Nat) (l0_1:List (S49)) (r1:List Int) (r2:Int) (w:World) (hr0_1:Kd.C k49 w A0_1 l0_1.length l0_1) (hc0_1:l0_1.length≤c0_1) (h:Aq.f k A8 l0_1=some (r1,r2)):
  Calls Tryd.prog 39 #[.agg #[.int .i64 A8,.slice A0_1 l0_1.length c0_1]] w fun e w'=>∃v0_:Value,e= .returned (.tuple #[v0_,.int .i64 r2])∧Kd.R (Kd.int .i64) 3 w' w.heap.size (fun _=>True) v0_ r1∧Below w.heap.size w w':=by
 have hu33:=Tryd.underlying33
 have hu49:=Tryd.underlying49
 have HR0_1:=yA hr0_1
 have HC0_1:=yA hc0_1
 clear hr0_1 hc0_1
 have HB:=yA (Below.refl w.heap.size w)
 have H:((AN.f k A8 l0_1).bind fun t177=>(if t177=true then (Aq.l0 k ([]:List Int) l0_1 (l0_1.length:Int) 0) else (some (([]:List Int),1))))=some (r1,r2):=h
 clear h
 replace H:=Option.bind_eq_some_iff.mp H
 obtain ⟨t177,A20,H⟩:=H
 replace H:(if t177=true then (Aq.l0 k ([]:List Int) l0_1 (l0_1.length:Int) 0) else (some (([]:List Int),1)))=some (r1,r2):=H
 have A2:=yA A20
 clear A20
 by_cases c3:t177=true
 ·subst c3
  have H1:(Aq.l0 k ([]:List Int) l0_1 (l0_1.length:Int) 0)=some (r1,r2):=by rw [if_pos rfl] at H; exact H
  clear H
  have H:=H1
  clear H1
  have H':=yA H
  clear H
  go_enter Tryd.func39,Tryd.ntmps39
  go_wp2_with (first|((with_reducible refine Ar (N:=1) rfl ?_); refine Ap ?hg (N:=1) ?hd (cs:= #[.int .i64 A8,.slice A0_1 l0_1.length c0_1]) (t:=33) ?hr ?_; (case hd=>rfl); (case hg=>rfl); (case hr=>first|(go_simp; done)|(go_simp; rfl)); intro gb176 hg w4 hbox hb; have n0_:=yA (AO zB hb); have n1_:=yA (hbox); have n2_:=yA ((by rw [hg]; exact (AT zB):w.heap.size≤gb176)); have n3_:=yA ((by rw [hg]; exact (AT zB):w.heap.size≤gb176)); clear HB; have HB:=n0_; have BK176:=n1_; have GW176:=n2_; have GE176:=n3_; clear n0_ n1_ n2_ n3_; clear hb hbox hg; have hcz5_0:w4.cell? ⟨gb176,0,none⟩=some (.int .i64 A8):=(AK BK176.out 0).trans rfl; have hcz5_1:w4.cell? ⟨gb176,1,none⟩=some (.slice A0_1 l0_1.length c0_1):=(AK BK176.out 1).trans rfl; have hfz5_0:=AJ BK176.out 0; have hfz5_1:=AJ BK176.out 1)|((with_reducible refine Ah (f:=14) rfl ?_); refine BB (some 11) rfl rfl Tryd.func14 zE rfl #[.agg #[.int .i64 A8,.slice A0_1 l0_1.length c0_1]] rfl zD ?_; (with_reducible refine (AN.calls k A8 _ _ l0_1 true _ ?side1 ?side2 A2.out).mono ?_); (case side1=>repeat (first|exact (Kd.C_below HR0_1.out HB.out)|(with_reducible refine Kd.C_alloc ?_ _)|(with_reducible refine Kd.C_drewN ?_ _)|(with_reducible refine Kd.C_drew ?_))); (case side2=>exact HC0_1.out); rintro e w6 ⟨rfl,hb⟩; refine ⟨_,rfl,?_⟩; have n0_:=yA (AP (g:=gb176) (o:= .cells #[.int .i64 A8,.slice A0_1 l0_1.length c0_1] 33 (0,0)) zD1 hb); have n1_:=yA (AO zD6 hb); clear BK176; clear HB; have BK176:=n0_; have HB:=n1_; clear n0_ n1_; (try clear hb); (try clear hb2); (try clear hk); (try clear hi); have hcz7_0:w6.cell? ⟨gb176,0,none⟩=some (.int .i64 A8):=(AK BK176.out 0).trans rfl; have hcz7_1:w6.cell? ⟨gb176,1,none⟩=some (.slice A0_1 l0_1.length c0_1):=(AK BK176.out 1).trans rfl; have hfz7_0:=AJ BK176.out 0; have hfz7_1:=AJ BK176.out 1))
  go_loopg [4,16] k (fun kq v4 v16 w'=>∃(x4_1:List Int) (x16_1:Int),v16= .int .i64 x16_1∧Aside0 (Aq.l0 kq x4_1 l0_1 (l0_1.length:Int) x16_1=some (r1,r2))∧Aside0 (kq≤k)∧Aside0 (Kd.R (Kd.int .i64) 3 w' w.heap.size (fun _=>True) v4 x4_1)∧Aside0 (w'.heap[gb176]? =some (.cells #[.int .i64 A8,(.slice A0_1 l0_1.length c0_1)] 33 (0,0)))∧Aside0 (Below w.heap.size w w'))
  case atStart=>exact ⟨(([]:List Int)),(0),zG,H',⟨Nat.le_refl _⟩,⟨by first|exact Kd.R_nil _ _ _ _ _|exact Kd.N_nil _ _ _ _ _|exact Kd.V_nil _ _ _ _ _|exact Kd.Q_nil _ _ _ _ _|exact Kd.S_nil _ _ _ _ _⟩,⟨by (with_reducible repeat (first|refine AG ?_ _|refine AH ?_|refine AF ?_ _)); exact BK176.out⟩,⟨by repeat (first|(with_reducible first|exact HB.out|apply AE|apply AC|apply AD|refine AI ?_ GE176.out)|exact HB.out)⟩⟩
  case round=>
   clear H'
   try clear c1
   try clear p2
   try clear c3
   try clear hcz5_0
   try clear hcz5_1
   try clear hcz7_0
   try clear hcz7_1
   try clear hfz5_0
   try clear hfz5_1
   try clear hfz7_0
   try clear hfz7_1
   obtain ⟨x4_1,x16_1,rfl,HA,HK1,HO_4,BK176,HB⟩:=hrel
   cases gk with
   |zero=>exact absurd HA.out (by simp [Aq.l0])
   | succ k1 =>
    have H:=HA.out
    clear HA
    simp only [Aq.l0] at H
    by_cases c8:x16_1<(l0_1.length:Int)
    ·rw [if_pos c8] at H
     have c8b0:decide (x16_1<(l0_1.length:Int))=true:=decide_eq_true c8
     clear c8
     by_cases c9:0≤x16_1
     ·rw [if_pos c9] at H
      have c9b0:decide (0≤x16_1)=true:=decide_eq_true c9
      clear c9
      by_cases c10:x16_1<(l0_1.length:Int)
      ·rw [if_pos c10] at H
       have c10b0:decide (x16_1<(l0_1.length:Int))=true:=decide_eq_true c10
       clear c10
       have H':=yA H
       clear H
       have p178:0≤(x16_1:Int):=yD
       have q178:x16_1<(l0_1.length:Int):=yD
       obtain ⟨ad178,A178_3,c178_3,e178,hx178_0,hx178_1,hx178_2,hx178_3,hl178_3,hi178_3⟩:=C9 HR0_1.out x16_1 p178 q178
       cases e178
       replace hx178_0:=yC HB.out hx178_0
       replace hx178_1:=yC HB.out hx178_1
       replace hx178_2:=yC HB.out hx178_2
       replace hx178_3:=yC HB.out hx178_3
       have HR178_3:=yA hi178_3
       have HC178_3:=yA hl178_3
       clear hi178_3 hl178_3
       replace p178:=eq_true p178
       replace q178:=eq_true q178
       go_wp2_with (first|((with_reducible refine Ar (N:=6) rfl ?_); refine Ap ?hg (N:=6) ?hd (cs:= #[.string (⟨#[]⟩:ByteArray),.int .i64 0,.int .i64 0,.slice none 0 0]) (t:=49) ?hr ?_; (case hd=>rfl); (case hg=>rfl); (case hr=>first|(go_simp; done)|(go_simp; rfl)); intro gb179 hg w11 hbox hb; have n0_:=yA (Kd.R_below (by (with_reducible repeat (first|apply Kd.R_alloc|apply Kd.R_drewN|apply Kd.R_drew)); exact HO_4.out) hb); have n1_:=yA (AP (g:=gb176) (o:= .cells #[.int .i64 A8,.slice (some ad178) l0_1.length c0_1] 33 (0,0)) zD1 hb); have n2_:=yA (AO zD6 hb); have n3_:=yA (hbox); have n4_:=yA ((by rw [hg]; exact (AT zD6):w.heap.size≤gb179)); have n5_:=yA ((by rw [hg]; exact (AT zD6):w.heap.size≤gb179)); have n6_:=yA ((by rw [hg]; exact Nat.ne_of_lt (B0 (g:=gb176) (o:= .cells #[.int .i64 A8,.slice (some ad178) l0_1.length c0_1] 33 (0,0)) zD1):gb176≠gb179)); have n7_:=yA ((by rw [hg]; exact Nat.ne_of_gt (B0 (g:=gb176) (o:= .cells #[.int .i64 A8,.slice (some ad178) l0_1.length c0_1] 33 (0,0)) zD1):gb179≠gb176)); clear HO_4; clear BK176; clear HB; have HO_4:=n0_; have BK176:=n1_; have HB:=n2_; have BK179:=n3_; have GW179:=n4_; have GE179:=n5_; have NB176_179:=n6_; have NB179_176:=n7_; clear n0_ n1_ n2_ n3_ n4_ n5_ n6_ n7_; clear hb hbox hg; have hnb12:=NB179_176.out; have hnc12:=NB176_179.out; have hcz13_0:w11.cell? ⟨gb179,0,none⟩=some (.string (⟨#[]⟩:ByteArray)):=(AK BK179.out 0).trans rfl; have hcz13_1:w11.cell? ⟨gb179,1,none⟩=some (.int .i64 0):=(AK BK179.out 1).trans rfl; have hcz13_2:w11.cell? ⟨gb179,2,none⟩=some (.int .i64 0):=(AK BK179.out 2).trans rfl; have hcz13_3:w11.cell? ⟨gb179,3,none⟩=some (.slice none 0 0):=(AK BK179.out 3).trans rfl; have hfz13_0:=AJ BK179.out 0; have hfz13_1:=AJ BK179.out 1; have hfz13_2:=AJ BK179.out 2; have hfz13_3:=AJ BK179.out 3))
       go_loopg [7,23] k1 (fun kq v7 v23 w'=>∃(x7_2:Int) (x23_2:Int),v7= .int .i64 x7_2∧v23= .int .i64 x23_2∧Aside0 (Aq.l1 kq x4_1 x7_2 l0_1 (l0_1.length:Int) x16_1 ((AM l0_1 x16_1).f3) (((AM l0_1 x16_1).f3).length:Int) x23_2 ((AM l0_1 x16_1).f0) ((AM l0_1 x16_1).f1) ((AM l0_1 x16_1).f2) ((AM l0_1 x16_1).f3)=some (r1,r2))∧Aside0 (kq≤k1)∧Aside0 (Kd.R (Kd.int .i64) 3 w' w.heap.size (fun _=>True) u4 x4_1)∧Aside0 (w'.heap[gb176]? =some (.cells #[.int .i64 A8,(.slice (some ad178) l0_1.length c0_1)] 33 (0,0)))∧Aside0 (w'.heap[gb179]? =some (.cells #[.string ((AM l0_1 x16_1).f0),.int .i64 ((AM l0_1 x16_1).f1),.int .i64 ((AM l0_1 x16_1).f2),(.slice A178_3 ((AM l0_1 x16_1).f3).length c178_3)] 49 (0,0)))∧Aside0 (Below w.heap.size w w'))
       case atStart=>exact ⟨(0),(0),zG,zG,H',⟨Nat.le_refl _⟩,⟨by (with_reducible repeat (first|apply Kd.R_alloc|apply Kd.R_drewN|apply Kd.R_drew)); exact Kd.R_mono (Kd.R_far (p:=⟨gb179,3,none⟩) (Kd.R_far (p:=⟨gb179,2,none⟩) (Kd.R_far (p:=⟨gb179,1,none⟩) (Kd.R_far (p:=⟨gb179,0,none⟩) (Kd.R_types HO_4.out BK179.out zA2) (fun _ hk=>hk.2) (.string ((AM l0_1 x16_1).f0))) (fun _ hk=>hk.2) (.int .i64 ((AM l0_1 x16_1).f1))) (fun _ hk=>hk.2) (.int .i64 ((AM l0_1 x16_1).f2))) (fun _ hk=>hk.2) (.slice A178_3 ((AM l0_1 x16_1).f3).length c178_3)) (fun _ hk=>trivial)⟩,⟨by (with_reducible repeat (first|refine AG ?_ _|refine AH ?_|refine AF ?_ _)); refine Aa ?_ NB176_179.out _; (with_reducible repeat (first|refine AG ?_ _|refine AH ?_|refine AF ?_ _)); refine Aa ?_ NB176_179.out _; (with_reducible repeat (first|refine AG ?_ _|refine AH ?_|refine AF ?_ _)); refine Aa ?_ NB176_179.out _; (with_reducible repeat (first|refine AG ?_ _|refine AH ?_|refine AF ?_ _)); refine Aa ?_ NB176_179.out _; (with_reducible repeat (first|refine AG ?_ _|refine AH ?_|refine AF ?_ _)); exact BK176.out⟩,⟨by (with_reducible repeat (first|refine AG ?_ _|refine AH ?_|refine AF ?_ _)); refine Am (cs:= #[.string ((AM l0_1 x16_1).f0),.int .i64 ((AM l0_1 x16_1).f1),.int .i64 ((AM l0_1 x16_1).f2),.slice none 0 0]) ?_ 3 _ rfl; (with_reducible repeat (first|refine AG ?_ _|refine AH ?_|refine AF ?_ _)); refine Am (cs:= #[.string ((AM l0_1 x16_1).f0),.int .i64 ((AM l0_1 x16_1).f1),.int .i64 0,.slice none 0 0]) ?_ 2 _ rfl; (with_reducible repeat (first|refine AG ?_ _|refine AH ?_|refine AF ?_ _)); refine Am (cs:= #[.string ((AM l0_1 x16_1).f0),.int .i64 0,.int .i64 0,.slice none 0 0]) ?_ 1 _ rfl; (with_reducible repeat (first|refine AG ?_ _|refine AH ?_|refine AF ?_ _)); refine Am (cs:= #[.string (⟨#[]⟩:ByteArray),.int .i64 0,.int .i64 0,.slice none 0 0]) ?_ 0 _ rfl; (with_reducible repeat (first|refine AG ?_ _|refine AH ?_|refine AF ?_ _)); exact BK179.out⟩,⟨by repeat (first|(with_reducible first|exact HB.out|apply AE|apply AC|apply AD|refine AI ?_ GE176.out|refine AI ?_ GE179.out)|exact HB.out)⟩⟩
       case round=>
        clear H'
        try clear c1
        try clear p1
        try clear q1
        try clear hx1
        try clear p2
        try clear c3
        try clear c8
        try clear c8b0
        try clear c9
        try clear c9b0
        try clear c10
        try clear c10b0
        try clear c12
        try clear hcz13_0
        try clear hcz13_1
        try clear hcz13_2
        try clear hcz13_3
        try clear hcz5_0
        try clear hcz5_1
        try clear hcz7_0
        try clear hcz7_1
        try clear hfz13_0
        try clear hfz13_1
        try clear hfz13_2
        try clear hfz13_3
        try clear hfz5_0
        try clear hfz5_1
        try clear hfz7_0
        try clear hfz7_1
        try clear hx178_0
        try clear hx178_1
        try clear hx178_2
        try clear hx178_3
        try clear p178
        try clear p2
        try clear q178
        obtain ⟨x7_2,x23_2,rfl,rfl,HA,HK2,HO_4,BK176,BK179,HB⟩:=hrel
        cases gk with
        |zero=>exact absurd HA.out (by simp [Aq.l1])
        | succ k2 =>
         have H:=HA.out
         clear HA
         simp only [Aq.l1] at H
         by_cases c14:x23_2<(((AM l0_1 x16_1).f3).length:Int)
         ·rw [if_pos c14] at H
          have c14b0:decide (x23_2<(((AM l0_1 x16_1).f3).length:Int))=true:=decide_eq_true c14
          clear c14
          by_cases c15:0≤x23_2
          ·rw [if_pos c15] at H
           have c15b0:decide (0≤x23_2)=true:=decide_eq_true c15
           clear c15
           by_cases c16:x23_2<(((AM l0_1 x16_1).f3).length:Int)
           ·rw [if_pos c16] at H
            have c16b0:decide (x23_2<(((AM l0_1 x16_1).f3).length:Int))=true:=decide_eq_true c16
            clear c16
            by_cases c17:0≤(rd ((AM l0_1 x16_1).f3) x23_2)
            ·rw [if_pos c17] at H
             have c17b0:decide (0≤(rd ((AM l0_1 x16_1).f3) x23_2))=true:=decide_eq_true c17
             clear c17
             by_cases c18:(rd ((AM l0_1 x16_1).f3) x23_2)<(x4_1.length:Int)
             ·rw [if_pos c18] at H
              have c18b0:decide ((rd ((AM l0_1 x16_1).f3) x23_2)<(x4_1.length:Int))=true:=decide_eq_true c18
              clear c18
              obtain ⟨ji19,hji19⟩:∃j_:Int,(mx x7_2 (rd x4_1 (rd ((AM l0_1 x16_1).f3) x23_2)))=j_:=⟨_,rfl⟩
              replace H:(Aq.l1 k2 x4_1 ji19 l0_1 (l0_1.length:Int) x16_1 ((AM l0_1 x16_1).f3) (((AM l0_1 x16_1).f3).length:Int) (wrap64 (x23_2+1)) ((AM l0_1 x16_1).f0) ((AM l0_1 x16_1).f1) ((AM l0_1 x16_1).f2) ((AM l0_1 x16_1).f3))=some (r1,r2):=by first|(rw [hji19] at H; exact H)|(simp only [hji19] at H ⊢; exact H)
              have hji19_:(if x7_2<(rd x4_1 (rd ((AM l0_1 x16_1).f3) x23_2)) then (rd x4_1 (rd ((AM l0_1 x16_1).f3) x23_2)) else x7_2)=ji19:=hji19
              have H':=yA H
              clear H
              have p180:0≤(x23_2:Int):=yD
              have q180:x23_2<(((AM l0_1 x16_1).f3).length:Int):=yD
              obtain ⟨ad180,e180,hx180_0⟩:=Kd.at_int HR178_3.out x23_2 p180 q180
              cases e180
              replace hx180_0:=yC HB.out hx180_0
              replace p180:=eq_true p180
              replace q180:=eq_true q180
              obtain ⟨Ao20,co20,eo20⟩:=Kd.R_slice HO_4.out
              subst eo20
              have p181:0≤((rd ((AM l0_1 x16_1).f3) x23_2):Int):=yD
              have q181:(rd ((AM l0_1 x16_1).f3) x23_2)<(x4_1.length:Int):=yD
              obtain ⟨ad181,e181,hx181_0⟩:=Kd.at_int (Kd.R_reads' HO_4.out).2.2 (rd ((AM l0_1 x16_1).f3) x23_2) p181 q181
              cases e181
              replace p181:=eq_true p181
              replace q181:=eq_true q181
              go_wp2
              go_roundg k2
              case measure=>have:=HK1.out; have:=HK2.out; omega
              case rel=>exact ⟨(ji19),(wrap64 (x23_2+1)),(by first|rfl|(simp; done)|(simp only [←hji19]<;>(first|rfl|simp))|(simp [*]; done)),zG,H',⟨by have:=HK1.out; have:=HK2.out; omega⟩,⟨by (with_reducible repeat (first|apply Kd.R_alloc|apply Kd.R_drewN|apply Kd.R_drew)); exact HO_4.out⟩,⟨by (with_reducible repeat (first|refine AG ?_ _|refine AH ?_|refine AF ?_ _)); exact BK176.out⟩,⟨by (with_reducible repeat (first|refine AG ?_ _|refine AH ?_|refine AF ?_ _)); exact BK179.out⟩,⟨by repeat (first|(with_reducible first|exact HB.out|apply AE|apply AC|apply AD|refine AI ?_ GE176.out|refine AI ?_ GE179.out)|exact HB.out)⟩⟩
             ·rw [if_neg c18] at H
              exact absurd H zA6
            ·rw [if_neg c17] at H
             exact absurd H zA6
           ·rw [if_neg c16] at H
            exact absurd H zA6
          ·rw [if_neg c15] at H
           exact absurd H zA6
         ·rw [if_neg c14] at H
          have c14b0:decide (x23_2<(((AM l0_1 x16_1).f3).length:Int))=false:=decide_eq_false c14
          clear c14
          by_cases c21:x4_1.length<17592186044416
          ·rw [if_pos c21] at H
           have LMc21:=yA c21
           clear c21
           obtain ⟨y182,hy182⟩:∃y_:List Int,y_=(x4_1++[wrap64 (x7_2+((AM l0_1 x16_1).f1))]):=⟨_,rfl⟩
           replace H:(Aq.l0 k2 y182 l0_1 (l0_1.length:Int) (wrap64 (x16_1+1)))=some (r1,r2):=by first|(rw [hy182]; with_reducible exact H)|(have H2_:=(Option.bind_some _ _).symm.trans H; rw [hy182]; with_reducible exact H2_)|(have H2_:=(Option.bind_some _ _).symm.trans H; with_reducible exact H2_)|with_reducible exact H|(rw [hy182]; exact H)|exact H
           have Ny182:=yA hy182
           clear hy182
           have H':=yA H
           clear H
           have hnb22:=NB179_176.out
           have hnc22:=NB176_179.out
           have hcz23_0:wr.cell? ⟨gb179,0,none⟩=some (.string ((AM l0_1 x16_1).f0)):=(AK BK179.out 0).trans rfl
           have hcz23_1:wr.cell? ⟨gb179,1,none⟩=some (.int .i64 ((AM l0_1 x16_1).f1)):=(AK BK179.out 1).trans rfl
           have hcz23_2:wr.cell? ⟨gb179,2,none⟩=some (.int .i64 ((AM l0_1 x16_1).f2)):=(AK BK179.out 2).trans rfl
           have hcz23_3:wr.cell? ⟨gb179,3,none⟩=some (.slice A178_3 ((AM l0_1 x16_1).f3).length c178_3):=(AK BK179.out 3).trans rfl
           have hfz23_0:=AJ BK179.out 0
           have hfz23_1:=AJ BK179.out 1
           have hfz23_2:=AJ BK179.out 2
           have hfz23_3:=AJ BK179.out 3
           go_wp2_with (first|((with_reducible refine Bs (b:= .append) (xs:= #[.tmp 34,.tmp 39]) rfl ?_); at_builtin; refine Kd.R_append (Kd.int .i64) (w0:=w) w.heap.size rfl (.tmp 34) (.tmp 39) 47 3 (.int .i64 0) 8 rfl Tryd.underlying47 info3 rfl zA2 zI u4 x4_1 (wrap64 (x7_2+((AM l0_1 x16_1).f1))) [.int .i64 (wrap64 (x7_2+((AM l0_1 x16_1).f1)))] (fun _=>True) (fun _=>False) rfl rfl ?aP (fun _ hk=>hk.elim) ?aF ?aO ?aB ?aS ?aL ?_; (case aP=>exact rfl); (case aB=>exact (by repeat (first|(with_reducible first|exact HB.out|apply AE|apply AC|apply AD|refine AI ?_ GE176.out|refine AI ?_ GE179.out)|exact HB.out))); (case aF=>exact (fun _ _=>trivial)); (case aO=>exact (by (with_reducible repeat (first|apply Kd.R_alloc|apply Kd.R_drewN|apply Kd.R_drew)); exact HO_4.out)); (case aS=>exact (AT (by repeat (first|(with_reducible first|exact HB.out|apply AE|apply AC|apply AD|refine AI ?_ GE176.out|refine AI ?_ GE179.out)|exact HB.out)))); (case aL=>have:=LMc21.out; omega); intro v183 w24 ho hb hg hat; rw [←Ny182.out] at ho; have n0_:=yA (BP (g:=gb176) (o:= .cells #[.int .i64 A8,.slice (some ad178) l0_1.length c0_1] 33 (0,0)) zD1 hg (Kd.R_ne HO_4.out BK176.out zA2)); have n1_:=yA (BP (g:=gb179) (o:= .cells #[.string ((AM l0_1 x16_1).f0),.int .i64 ((AM l0_1 x16_1).f1),.int .i64 ((AM l0_1 x16_1).f2),.slice A178_3 ((AM l0_1 x16_1).f3).length c178_3] 49 (0,0)) (by (with_reducible repeat (first|refine AG ?_ _|refine AH ?_|refine AF ?_ _)); exact BK179.out) hg (Kd.R_ne HO_4.out BK179.out zA2)); have n2_:=yA (hb); have n3_:=yA (ho); clear BK176; clear BK179; clear HB; clear HO_4; have BK176:=n0_; have BK179:=n1_; have HB:=n2_; have HO184:=n3_; clear n0_ n1_ n2_ n3_; clear ho hb hg hat))
           go_roundg k2
           case measure=>have:=HK1.out; have:=HK2.out; omega
           case rel=>exact ⟨(y182),(wrap64 (x16_1+1)),zG,H',⟨by have:=HK1.out; have:=HK2.out; omega⟩,⟨by (with_reducible repeat (first|apply Kd.R_alloc|apply Kd.R_drewN|apply Kd.R_drew)); exact HO184.out⟩,⟨by (with_reducible repeat (first|refine AG ?_ _|refine AH ?_|refine AF ?_ _)); exact BK176.out⟩,⟨by repeat (first|(with_reducible first|exact HB.out|apply AE|apply AC|apply AD|refine AI ?_ GE176.out|refine AI ?_ GE179.out)|exact HB.out)⟩⟩
          ·rw [if_neg c21] at H
           exact absurd H zA6
      ·rw [if_neg c10] at H
       exact absurd H zA6
     ·rw [if_neg c9] at H
      exact absurd H zA6
    ·rw [if_neg c8] at H
     have c8b0:decide (x16_1<(l0_1.length:Int))=false:=decide_eq_false c8
     clear c8
     simp only [Option.some.injEq,Prod.mk.injEq] at H
     obtain ⟨rfl,rfl⟩:=H
     go_wp2
     go_ret2
     exact ⟨_,by first|rfl|(simp [AZ,AY]<;>rfl)|(simp [*,AZ,AY]<;>rfl),by (with_reducible repeat (first|apply Kd.R_alloc|apply Kd.R_drewN|apply Kd.R_drew)); exact HO_4.out,by repeat (first|(with_reducible first|exact HB.out|apply AE|apply AC|apply AD|refine AI ?_ GE176.out)|exact HB.out)⟩
 ·replace c3:=Bool.eq_false_iff.mpr c3
  subst c3
  have H1:(some (([]:List Int),1))=some (r1,r2):=by rw [if_neg (show ¬(false=true) by decide)] at H; exact H
  clear H
  have H:=H1
  clear H1
  simp only [Option.some.injEq,Prod.mk.injEq] at H
  obtain ⟨rfl,rfl⟩:=H
  go_enter Tryd.func39,Tryd.ntmps39
  go_wp2_with (first|((with_reducible refine Ar (N:=1) rfl ?_); refine Ap ?hg (N:=1) ?hd (cs:= #[.int .i64 A8,.slice A0_1 l0_1.length c0_1]) (t:=33) ?hr ?_; (case hd=>rfl); (case hg=>rfl); (case hr=>first|(go_simp; done)|(go_simp; rfl)); intro gb176 hg w25 hbox hb; have n0_:=yA (AO zB hb); have n1_:=yA (hbox); have n2_:=yA ((by rw [hg]; exact (AT zB):w.heap.size≤gb176)); have n3_:=yA ((by rw [hg]; exact (AT zB):w.heap.size≤gb176)); clear HB; have HB:=n0_; have BK176:=n1_; have GW176:=n2_; have GE176:=n3_; clear n0_ n1_ n2_ n3_; clear hb hbox hg; have hcz26_0:w25.cell? ⟨gb176,0,none⟩=some (.int .i64 A8):=(AK BK176.out 0).trans rfl; have hcz26_1:w25.cell? ⟨gb176,1,none⟩=some (.slice A0_1 l0_1.length c0_1):=(AK BK176.out 1).trans rfl; have hfz26_0:=AJ BK176.out 0; have hfz26_1:=AJ BK176.out 1)|((with_reducible refine Ah (f:=14) rfl ?_); refine BB (some 11) rfl rfl Tryd.func14 zE rfl #[.agg #[.int .i64 A8,.slice A0_1 l0_1.length c0_1]] rfl zD ?_; (with_reducible refine (AN.calls k A8 _ _ l0_1 false _ ?side1 ?side2 A2.out).mono ?_); (case side1=>repeat (first|exact (Kd.C_below HR0_1.out HB.out)|(with_reducible refine Kd.C_alloc ?_ _)|(with_reducible refine Kd.C_drewN ?_ _)|(with_reducible refine Kd.C_drew ?_))); (case side2=>exact HC0_1.out); rintro e w27 ⟨rfl,hb⟩; refine ⟨_,rfl,?_⟩; have n0_:=yA (AP (g:=gb176) (o:= .cells #[.int .i64 A8,.slice A0_1 l0_1.length c0_1] 33 (0,0)) zD1 hb); have n1_:=yA (AO zD6 hb); clear BK176; clear HB; have BK176:=n0_; have HB:=n1_; clear n0_ n1_; (try clear hb); (try clear hb2); (try clear hk); (try clear hi)))
  go_ret2
  exact ⟨_,by first|rfl|(simp [AZ,AY]<;>rfl)|(simp [*,AZ,AY]<;>rfl),by first|exact Kd.R_nil _ _ _ _ _|exact Kd.N_nil _ _ _ _ _|exact Kd.V_nil _ _ _ _ _|exact Kd.Q_nil _ _ _ _ _|exact Kd.S_nil _ _ _ _ _,by repeat (first|(with_reducible first|exact HB.out|apply AE|apply AC|apply AD|refine AI ?_ GE176.out)|exact HB.out)⟩
def Ax.l0:Nat→List Int→Int→Int→List (S49)→Int→Int→Int→List (S49)→Option (Int×Int)
 |0,_,_,_,_,_,_,_,_=>none
 |k+1,x4,x6,x7,x19,x20,x21,x186000,x186001=>if x21<x20 then (if 0≤x21 then (if x21<(x19.length:Int) then (if x21<(x4.length:Int) then (Ax.l0 k x4 (wrap64 (x6+((AM x19 x21).f1))) (mx x7 (rd x4 x21)) x19 x20 (wrap64 (x21+1)) x186000 x186001) else (none)) else (none)) else (none)) else (if x186000=0 then (none) else (some (mx x7 (wrap64 (Int.tdiv (wrap64 ((wrap64 (x6+x186000))-1)) x186000)),0)))
def Ax.f (k:Nat) (A8:Int) (l0_1:List (S49)):Option (Int×Int):=(Aq.f k A8 l0_1).bind fun bt186=>(if bt186.2=0 then (Ax.l0 k bt186.1 0 0 l0_1 (l0_1.length:Int) 0 A8 l0_1) else (some (0,bt186.2)))
theorem Ax.mono_l:∀k,(∀y0 y1 y2 y3 y4 y5 y6 y7,LeO (Ax.l0 k y0 y1 y2 y3 y4 y5 y6 y7) (Ax.l0 (k+1) y0 y1 y2 y3 y4 y5 y6 y7))
 |0=>fun _ _ _ _ _ _ _ _ r h=>by simp [Ax.l0] at h
 | k +1=>by
  have ih0:=Ax.mono_l k
  ·intro y0 y1 y2 y3 y4 y5 y6 y7
   unfold Ax.l0
   repeat' first
   |(with_reducible exact ih0 _ _ _ _ _ _ _ _)
   |(with_reducible exact Aq.mono _ _ _)
   |(with_reducible exact LeO.refl _)
   |(with_reducible exact LeO.none _)
   |(with_reducible refine LeO.ite ?_ ?_)
   |(with_reducible refine LeO.bind ?_ (fun _=> ?_))
   |exact ih0 _ _ _ _ _ _ _ _
   |exact Aq.mono _ _ _
   |exact LeO.none _
   |refine LeO.ite ?_ ?_
   |refine LeO.bind ?_ (fun _=> ?_)
theorem Ax.mono:∀a0 a1 k,LeO (Ax.f k a0 a1) (Ax.f (k+1) a0 a1):=by
 intro a0 a1 k
 have ih0:=Ax.mono_l k
 unfold Ax.f
 repeat' first
  |(with_reducible exact ih0 _ _ _ _ _ _ _ _)
  |(with_reducible exact Aq.mono _ _ _)
  |(with_reducible exact LeO.refl _)
  |(with_reducible exact LeO.none _)
  |(with_reducible refine LeO.ite ?_ ?_)
  |(with_reducible refine LeO.bind ?_ (fun _=> ?_))
  |exact ih0 _ _ _ _ _ _ _ _
  |exact Aq.mono _ _ _
  |exact LeO.none _
  |refine LeO.ite ?_ ?_
  |refine LeO.bind ?_ (fun _=> ?_)
set_option maxHeartbeats 8000000 in
theorem Ax.calls (k:Nat) (A8:Int) (A0_1:Option Addr) (c0_1:Nat) (l0_1:List (S49)) (r1:Int) (r2:Int) (w:World) (hr0_1:Kd.C k49 w A0_1 l0_1.length l0_1) (hc0_1:l0_1.length≤c0_1) (h:Ax.f k A8 l0_1=some (r1,r2)):
  Calls Tryd.prog 20 #[.agg #[.int .i64 A8,.slice A0_1 l0_1.length c0_1]] w fun e w'=>e= .returned (.tuple #[.int .i64 r1,.int .i64 r2])∧Below w.heap.size w w':=by
 have hu33:=Tryd.underlying33
 have hu49:=Tryd.underlying49
 have HR0_1:=yA hr0_1
 have HC0_1:=yA hc0_1
 clear hr0_1 hc0_1
 have HB:=yA (Below.refl w.heap.size w)
 have H:((Aq.f k A8 l0_1).bind fun bt186=>(if bt186.2=0 then (Ax.l0 k bt186.1 0 0 l0_1 (l0_1.length:Int) 0 A8 l0_1) else (some (0,bt186.2))))=some (r1,r2):=h
 clear h
 replace H:=Option.bind_eq_some_iff.mp H
 obtain ⟨⟨t186,t189⟩,A20,H⟩:=H
 replace H:(if t189=0 then (Ax.l0 k t186 0 0 l0_1 (l0_1.length:Int) 0 A8 l0_1) else (some (0,t189)))=some (r1,r2):=H
 have A2:=yA A20
 clear A20
 by_cases c3:t189=0
 ·rw [if_pos c3] at H
  have c3b0:(t189==0)=true:=beq_iff_eq.mpr c3
  have c3b1:(t189 !=0)=false:=bne_eq_false_iff_eq.mpr c3
  clear c3
  have H':=yA H
  clear H
  go_enter Tryd.func20,Tryd.ntmps20
  go_wp2_with (first|((with_reducible refine Ar (N:=1) rfl ?_); refine Ap ?hg (N:=1) ?hd (cs:= #[.int .i64 A8,.slice A0_1 l0_1.length c0_1]) (t:=33) ?hr ?_; (case hd=>rfl); (case hg=>rfl); (case hr=>first|(go_simp; done)|(go_simp; rfl)); intro gb185 hg w4 hbox hb; have n0_:=yA (AO zB hb); have n1_:=yA (hbox); have n2_:=yA ((by rw [hg]; exact (AT zB):w.heap.size≤gb185)); have n3_:=yA ((by rw [hg]; exact (AT zB):w.heap.size≤gb185)); clear HB; have HB:=n0_; have BK185:=n1_; have GW185:=n2_; have GE185:=n3_; clear n0_ n1_ n2_ n3_; clear hb hbox hg; have hcz5_0:w4.cell? ⟨gb185,0,none⟩=some (.int .i64 A8):=(AK BK185.out 0).trans rfl; have hcz5_1:w4.cell? ⟨gb185,1,none⟩=some (.slice A0_1 l0_1.length c0_1):=(AK BK185.out 1).trans rfl; have hfz5_0:=AJ BK185.out 0; have hfz5_1:=AJ BK185.out 1)|(go_at_call 39; (with_reducible refine (Aq.calls k A8 _ _ l0_1 t186 t189 _ ?side1 ?side2 A2.out).mono ?_); (case side1=>repeat (first|exact (Kd.C_below HR0_1.out HB.out)|(with_reducible refine Kd.C_alloc ?_ _)|(with_reducible refine Kd.C_drewN ?_ _)|(with_reducible refine Kd.C_drew ?_))); (case side2=>exact HC0_1.out); rintro e w6 ⟨v187,rfl,ho0,hb⟩; have n0_:=yA (Kd.R_lower ho0 (AT zK)); have n1_:=yA (AP (g:=gb185) (o:= .cells #[.int .i64 A8,.slice A0_1 l0_1.length c0_1] 33 (0,0)) zZ hb); have n2_:=yA (AO zK hb); clear BK185; clear HB; have HO188:=n0_; have BK185:=n1_; have HB:=n2_; clear n0_ n1_ n2_; (try clear hb); (try clear hb2); (try clear hk); (try clear hi); (try clear ho0); have hcz7_0:w6.cell? ⟨gb185,0,none⟩=some (.int .i64 A8):=(AK BK185.out 0).trans rfl; have hcz7_1:w6.cell? ⟨gb185,1,none⟩=some (.slice A0_1 l0_1.length c0_1):=(AK BK185.out 1).trans rfl; have hfz7_0:=AJ BK185.out 0; have hfz7_1:=AJ BK185.out 1))
  repeat (go_quiet (first|((with_reducible refine Ar (N:=1) rfl ?_); refine Ap ?hg (N:=1) ?hd (cs:= #[.int .i64 A8,.slice A0_1 l0_1.length c0_1]) (t:=33) ?hr ?_; (case hd=>rfl); (case hg=>rfl); (case hr=>first|(go_simp; done)|(go_simp; rfl)); intro gb185 hg w4 hbox hb; have n0_:=yA (AO zB hb); have n1_:=yA (hbox); have n2_:=yA ((by rw [hg]; exact (AT zB):w.heap.size≤gb185)); have n3_:=yA ((by rw [hg]; exact (AT zB):w.heap.size≤gb185)); clear HB; have HB:=n0_; have BK185:=n1_; have GW185:=n2_; have GE185:=n3_; clear n0_ n1_ n2_ n3_; clear hb hbox hg; have hcz5_0:w4.cell? ⟨gb185,0,none⟩=some (.int .i64 A8):=(AK BK185.out 0).trans rfl; have hcz5_1:w4.cell? ⟨gb185,1,none⟩=some (.slice A0_1 l0_1.length c0_1):=(AK BK185.out 1).trans rfl; have hfz5_0:=AJ BK185.out 0; have hfz5_1:=AJ BK185.out 1)|(go_at_call 39; (with_reducible refine (Aq.calls k A8 _ _ l0_1 t186 t189 _ ?side1 ?side2 A2.out).mono ?_); (case side1=>repeat (first|exact (Kd.C_below HR0_1.out HB.out)|(with_reducible refine Kd.C_alloc ?_ _)|(with_reducible refine Kd.C_drewN ?_ _)|(with_reducible refine Kd.C_drew ?_))); (case side2=>exact HC0_1.out); rintro e w6 ⟨v187,rfl,ho0,hb⟩; have n0_:=yA (Kd.R_lower ho0 (AT zK)); have n1_:=yA (AP (g:=gb185) (o:= .cells #[.int .i64 A8,.slice A0_1 l0_1.length c0_1] 33 (0,0)) zZ hb); have n2_:=yA (AO zK hb); clear BK185; clear HB; have HO188:=n0_; have BK185:=n1_; have HB:=n2_; clear n0_ n1_ n2_; (try clear hb); (try clear hb2); (try clear hk); (try clear hi); (try clear ho0); have hcz7_0:w6.cell? ⟨gb185,0,none⟩=some (.int .i64 A8):=(AK BK185.out 0).trans rfl; have hcz7_1:w6.cell? ⟨gb185,1,none⟩=some (.slice A0_1 l0_1.length c0_1):=(AK BK185.out 1).trans rfl; have hfz7_0:=AJ BK185.out 0; have hfz7_1:=AJ BK185.out 1; clear A2)); try go_wp2_with (first|((with_reducible refine Ar (N:=1) rfl ?_); refine Ap ?hg (N:=1) ?hd (cs:= #[.int .i64 A8,.slice A0_1 l0_1.length c0_1]) (t:=33) ?hr ?_; (case hd=>rfl); (case hg=>rfl); (case hr=>first|(go_simp; done)|(go_simp; rfl)); intro gb185 hg w4 hbox hb; have n0_:=yA (AO zB hb); have n1_:=yA (hbox); have n2_:=yA ((by rw [hg]; exact (AT zB):w.heap.size≤gb185)); have n3_:=yA ((by rw [hg]; exact (AT zB):w.heap.size≤gb185)); clear HB; have HB:=n0_; have BK185:=n1_; have GW185:=n2_; have GE185:=n3_; clear n0_ n1_ n2_ n3_; clear hb hbox hg; have hcz5_0:w4.cell? ⟨gb185,0,none⟩=some (.int .i64 A8):=(AK BK185.out 0).trans rfl; have hcz5_1:w4.cell? ⟨gb185,1,none⟩=some (.slice A0_1 l0_1.length c0_1):=(AK BK185.out 1).trans rfl; have hfz5_0:=AJ BK185.out 0; have hfz5_1:=AJ BK185.out 1)|(go_at_call 39; (with_reducible refine (Aq.calls k A8 _ _ l0_1 t186 t189 _ ?side1 ?side2 A2.out).mono ?_); (case side1=>repeat (first|exact (Kd.C_below HR0_1.out HB.out)|(with_reducible refine Kd.C_alloc ?_ _)|(with_reducible refine Kd.C_drewN ?_ _)|(with_reducible refine Kd.C_drew ?_))); (case side2=>exact HC0_1.out); rintro e w6 ⟨v187,rfl,ho0,hb⟩; have n0_:=yA (Kd.R_lower ho0 (AT zK)); have n1_:=yA (AP (g:=gb185) (o:= .cells #[.int .i64 A8,.slice A0_1 l0_1.length c0_1] 33 (0,0)) zZ hb); have n2_:=yA (AO zK hb); clear BK185; clear HB; have HO188:=n0_; have BK185:=n1_; have HB:=n2_; clear n0_ n1_ n2_; (try clear hb); (try clear hb2); (try clear hk); (try clear hi); (try clear ho0); have hcz7_0:w6.cell? ⟨gb185,0,none⟩=some (.int .i64 A8):=(AK BK185.out 0).trans rfl; have hcz7_1:w6.cell? ⟨gb185,1,none⟩=some (.slice A0_1 l0_1.length c0_1):=(AK BK185.out 1).trans rfl; have hfz7_0:=AJ BK185.out 0; have hfz7_1:=AJ BK185.out 1; clear A2)))
  go_loopg [6,7,21] k (fun kq v6 v7 v21 w'=>∃(x6_1:Int) (x7_1:Int) (x21_1:Int),v6= .int .i64 x6_1∧v7= .int .i64 x7_1∧v21= .int .i64 x21_1∧Aside0 (Ax.l0 kq t186 x6_1 x7_1 l0_1 (l0_1.length:Int) x21_1 A8 l0_1=some (r1,r2))∧Aside0 (kq≤k)∧Aside0 (Kd.R (Kd.int .i64) 3 w' w.heap.size (fun _=>True) v187 t186)∧Aside0 (w'.heap[gb185]? =some (.cells #[.int .i64 A8,(.slice A0_1 l0_1.length c0_1)] 33 (0,0)))∧Aside0 (Below w.heap.size w w'))
  case atStart=>exact ⟨(0),(0),(0),zG,zG,zG,H',⟨Nat.le_refl _⟩,⟨by (with_reducible repeat (first|apply Kd.R_alloc|apply Kd.R_drewN|apply Kd.R_drew)); exact HO188.out⟩,⟨by (with_reducible repeat (first|refine AG ?_ _|refine AH ?_|refine AF ?_ _)); exact BK185.out⟩,⟨by repeat (first|(with_reducible first|exact HB.out|apply AE|apply AC|apply AD|refine AI ?_ GE185.out)|exact HB.out)⟩⟩
  case round=>
   clear H'
   try clear c2
   try clear p2
   try clear c3
   try clear c3b0
   try clear c3b1
   try clear hcz5_0
   try clear hcz5_1
   try clear hcz7_0
   try clear hcz7_1
   try clear hfz5_0
   try clear hfz5_1
   try clear hfz7_0
   try clear hfz7_1
   obtain ⟨x6_1,x7_1,x21_1,rfl,rfl,rfl,HA,HK1,HO_4,BK185,HB⟩:=hrel
   cases gk with
   |zero=>exact absurd HA.out (by simp [Ax.l0])
   | succ k1 =>
    have H:=HA.out
    clear HA
    simp only [Ax.l0] at H
    by_cases c8:x21_1<(l0_1.length:Int)
    ·rw [if_pos c8] at H
     have c8b0:decide (x21_1<(l0_1.length:Int))=true:=decide_eq_true c8
     clear c8
     by_cases c9:0≤x21_1
     ·rw [if_pos c9] at H
      have c9b0:decide (0≤x21_1)=true:=decide_eq_true c9
      clear c9
      by_cases c10:x21_1<(l0_1.length:Int)
      ·rw [if_pos c10] at H
       have c10b0:decide (x21_1<(l0_1.length:Int))=true:=decide_eq_true c10
       clear c10
       by_cases c11:x21_1<(t186.length:Int)
       ·rw [if_pos c11] at H
        have c11b0:decide (x21_1<(t186.length:Int))=true:=decide_eq_true c11
        clear c11
        obtain ⟨ji12,hji12⟩:∃j_:Int,(mx x7_1 (rd t186 x21_1))=j_:=⟨_,rfl⟩
        replace H:(Ax.l0 k1 t186 (wrap64 (x6_1+((AM l0_1 x21_1).f1))) ji12 l0_1 (l0_1.length:Int) (wrap64 (x21_1+1)) A8 l0_1)=some (r1,r2):=by first|(rw [hji12] at H; exact H)|(simp only [hji12] at H ⊢; exact H)
        have hji12_:(if x7_1<(rd t186 x21_1) then (rd t186 x21_1) else x7_1)=ji12:=hji12
        have H':=yA H
        clear H
        have p190:0≤(x21_1:Int):=yD
        have q190:x21_1<(l0_1.length:Int):=yD
        obtain ⟨ad190,A190_3,c190_3,e190,hx190_0,hx190_1,hx190_2,hx190_3,hl190_3,hi190_3⟩:=C9 HR0_1.out x21_1 p190 q190
        cases e190
        replace hx190_0:=yC HB.out hx190_0
        replace hx190_1:=yC HB.out hx190_1
        replace hx190_2:=yC HB.out hx190_2
        replace hx190_3:=yC HB.out hx190_3
        have HR190_3:=yA hi190_3
        have HC190_3:=yA hl190_3
        clear hi190_3 hl190_3
        replace p190:=eq_true p190
        replace q190:=eq_true q190
        go_wp2_with (first|((with_reducible refine Ar (N:=9) rfl ?_); refine Ap ?hg (N:=9) ?hd (cs:= #[.string (⟨#[]⟩:ByteArray),.int .i64 0,.int .i64 0,.slice none 0 0]) (t:=49) ?hr ?_; (case hd=>rfl); (case hg=>rfl); (case hr=>first|(go_simp; done)|(go_simp; rfl)); intro gb191 hg w13 hbox hb; have n0_:=yA (Kd.R_below (by (with_reducible repeat (first|apply Kd.R_alloc|apply Kd.R_drewN|apply Kd.R_drew)); exact HO_4.out) hb); have n1_:=yA (AP (g:=gb185) (o:= .cells #[.int .i64 A8,.slice (some ad190) l0_1.length c0_1] 33 (0,0)) zZ hb); have n2_:=yA (AO zK hb); have n3_:=yA (hbox); have n4_:=yA ((by rw [hg]; exact (AT zK):w.heap.size≤gb191)); have n5_:=yA ((by rw [hg]; exact (AT zK):w.heap.size≤gb191)); have n6_:=yA ((by rw [hg]; exact Nat.ne_of_lt (B0 (g:=gb185) (o:= .cells #[.int .i64 A8,.slice (some ad190) l0_1.length c0_1] 33 (0,0)) zZ):gb185≠gb191)); have n7_:=yA ((by rw [hg]; exact Nat.ne_of_gt (B0 (g:=gb185) (o:= .cells #[.int .i64 A8,.slice (some ad190) l0_1.length c0_1] 33 (0,0)) zZ):gb191≠gb185)); clear HO_4; clear BK185; clear HB; have HO_4:=n0_; have BK185:=n1_; have HB:=n2_; have BK191:=n3_; have GW191:=n4_; have GE191:=n5_; have NB185_191:=n6_; have NB191_185:=n7_; clear n0_ n1_ n2_ n3_ n4_ n5_ n6_ n7_; clear hb hbox hg; have hnb14:=NB191_185.out; have hnc14:=NB185_191.out; have hcz15_0:w13.cell? ⟨gb191,0,none⟩=some (.string (⟨#[]⟩:ByteArray)):=(AK BK191.out 0).trans rfl; have hcz15_1:w13.cell? ⟨gb191,1,none⟩=some (.int .i64 0):=(AK BK191.out 1).trans rfl; have hcz15_2:w13.cell? ⟨gb191,2,none⟩=some (.int .i64 0):=(AK BK191.out 2).trans rfl; have hcz15_3:w13.cell? ⟨gb191,3,none⟩=some (.slice none 0 0):=(AK BK191.out 3).trans rfl; have hfz15_0:=AJ BK191.out 0; have hfz15_1:=AJ BK191.out 1; have hfz15_2:=AJ BK191.out 2; have hfz15_3:=AJ BK191.out 3; obtain ⟨Ao16,co16,eo16⟩:=Kd.R_slice HO_4.out; subst eo16; have p192:0≤(x21_1:Int):=yD; have q192:x21_1<(t186.length:Int):=yD; obtain ⟨ad192,e192,hx192_0⟩:=Kd.at_int (Kd.R_reads' HO_4.out).2.2 x21_1 p192 q192; cases e192; have hn192_0:ad192.block≠gb191:=Kd.own_blk (Kd.R_ne HO_4.out BK191.out zA2); have hn192_1:ad192.block≠gb191:=Kd.own_blk (Kd.R_ne HO_4.out BK191.out zA2); have hn192_2:ad192.block≠gb191:=Kd.own_blk (Kd.R_ne HO_4.out BK191.out zA2); have hn192_3:ad192.block≠gb191:=Kd.own_blk (Kd.R_ne HO_4.out BK191.out zA2); replace hx192_0:=(Bu (p:=⟨gb191,0,none⟩) (by first|(rw [BH]; exact hn192_0)|(show (Addr.add _ _).block≠_; rw [BH]; exact hn192_0)|exact hn192_0) (.string ((AM l0_1 x21_1).f0))).trans hx192_0; replace hx192_0:=(Bu (p:=⟨gb191,1,none⟩) (by first|(rw [BH]; exact hn192_1)|(show (Addr.add _ _).block≠_; rw [BH]; exact hn192_1)|exact hn192_1) (.int .i64 ((AM l0_1 x21_1).f1))).trans hx192_0; replace hx192_0:=(Bu (p:=⟨gb191,2,none⟩) (by first|(rw [BH]; exact hn192_2)|(show (Addr.add _ _).block≠_; rw [BH]; exact hn192_2)|exact hn192_2) (.int .i64 ((AM l0_1 x21_1).f2))).trans hx192_0; replace hx192_0:=(Bu (p:=⟨gb191,3,none⟩) (by first|(rw [BH]; exact hn192_3)|(show (Addr.add _ _).block≠_; rw [BH]; exact hn192_3)|exact hn192_3) (.slice A190_3 ((AM l0_1 x21_1).f3).length c190_3)).trans hx192_0; (try have hy192_0:=fun (n_:Nat)=>(show ((((((w13.drewN n_).setCell ⟨gb191,0,none⟩ (.string ((AM l0_1 x21_1).f0))).setCell ⟨gb191,1,none⟩ (.int .i64 ((AM l0_1 x21_1).f1))).setCell ⟨gb191,2,none⟩ (.int .i64 ((AM l0_1 x21_1).f2))).setCell ⟨gb191,3,none⟩ (.slice A190_3 ((AM l0_1 x21_1).f3).length c190_3))).cell? _=some _ from hx192_0)); clear hn192_0; clear hn192_1; clear hn192_2; clear hn192_3; replace p192:=eq_true p192; replace q192:=eq_true q192))
        repeat (go_quiet (first|((with_reducible refine Ar (N:=9) rfl ?_); refine Ap ?hg (N:=9) ?hd (cs:= #[.string (⟨#[]⟩:ByteArray),.int .i64 0,.int .i64 0,.slice none 0 0]) (t:=49) ?hr ?_; (case hd=>rfl); (case hg=>rfl); (case hr=>first|(go_simp; done)|(go_simp; rfl)); intro gb191 hg w13 hbox hb; have n0_:=yA (Kd.R_below (by (with_reducible repeat (first|apply Kd.R_alloc|apply Kd.R_drewN|apply Kd.R_drew)); exact HO_4.out) hb); have n1_:=yA (AP (g:=gb185) (o:= .cells #[.int .i64 A8,.slice (some ad190) l0_1.length c0_1] 33 (0,0)) zZ hb); have n2_:=yA (AO zK hb); have n3_:=yA (hbox); have n4_:=yA ((by rw [hg]; exact (AT zK):w.heap.size≤gb191)); have n5_:=yA ((by rw [hg]; exact (AT zK):w.heap.size≤gb191)); have n6_:=yA ((by rw [hg]; exact Nat.ne_of_lt (B0 (g:=gb185) (o:= .cells #[.int .i64 A8,.slice (some ad190) l0_1.length c0_1] 33 (0,0)) zZ):gb185≠gb191)); have n7_:=yA ((by rw [hg]; exact Nat.ne_of_gt (B0 (g:=gb185) (o:= .cells #[.int .i64 A8,.slice (some ad190) l0_1.length c0_1] 33 (0,0)) zZ):gb191≠gb185)); clear HO_4; clear BK185; clear HB; have HO_4:=n0_; have BK185:=n1_; have HB:=n2_; have BK191:=n3_; have GW191:=n4_; have GE191:=n5_; have NB185_191:=n6_; have NB191_185:=n7_; clear n0_ n1_ n2_ n3_ n4_ n5_ n6_ n7_; clear hb hbox hg; have hnb14:=NB191_185.out; have hnc14:=NB185_191.out; have hcz15_0:w13.cell? ⟨gb191,0,none⟩=some (.string (⟨#[]⟩:ByteArray)):=(AK BK191.out 0).trans rfl; have hcz15_1:w13.cell? ⟨gb191,1,none⟩=some (.int .i64 0):=(AK BK191.out 1).trans rfl; have hcz15_2:w13.cell? ⟨gb191,2,none⟩=some (.int .i64 0):=(AK BK191.out 2).trans rfl; have hcz15_3:w13.cell? ⟨gb191,3,none⟩=some (.slice none 0 0):=(AK BK191.out 3).trans rfl; have hfz15_0:=AJ BK191.out 0; have hfz15_1:=AJ BK191.out 1; have hfz15_2:=AJ BK191.out 2; have hfz15_3:=AJ BK191.out 3; obtain ⟨Ao16,co16,eo16⟩:=Kd.R_slice HO_4.out; subst eo16; have p192:0≤(x21_1:Int):=yD; have q192:x21_1<(t186.length:Int):=yD; obtain ⟨ad192,e192,hx192_0⟩:=Kd.at_int (Kd.R_reads' HO_4.out).2.2 x21_1 p192 q192; cases e192; have hn192_0:ad192.block≠gb191:=Kd.own_blk (Kd.R_ne HO_4.out BK191.out zA2); have hn192_1:ad192.block≠gb191:=Kd.own_blk (Kd.R_ne HO_4.out BK191.out zA2); have hn192_2:ad192.block≠gb191:=Kd.own_blk (Kd.R_ne HO_4.out BK191.out zA2); have hn192_3:ad192.block≠gb191:=Kd.own_blk (Kd.R_ne HO_4.out BK191.out zA2); replace hx192_0:=(Bu (p:=⟨gb191,0,none⟩) (by first|(rw [BH]; exact hn192_0)|(show (Addr.add _ _).block≠_; rw [BH]; exact hn192_0)|exact hn192_0) (.string ((AM l0_1 x21_1).f0))).trans hx192_0; replace hx192_0:=(Bu (p:=⟨gb191,1,none⟩) (by first|(rw [BH]; exact hn192_1)|(show (Addr.add _ _).block≠_; rw [BH]; exact hn192_1)|exact hn192_1) (.int .i64 ((AM l0_1 x21_1).f1))).trans hx192_0; replace hx192_0:=(Bu (p:=⟨gb191,2,none⟩) (by first|(rw [BH]; exact hn192_2)|(show (Addr.add _ _).block≠_; rw [BH]; exact hn192_2)|exact hn192_2) (.int .i64 ((AM l0_1 x21_1).f2))).trans hx192_0; replace hx192_0:=(Bu (p:=⟨gb191,3,none⟩) (by first|(rw [BH]; exact hn192_3)|(show (Addr.add _ _).block≠_; rw [BH]; exact hn192_3)|exact hn192_3) (.slice A190_3 ((AM l0_1 x21_1).f3).length c190_3)).trans hx192_0; (try have hy192_0:=fun (n_:Nat)=>(show ((((((w13.drewN n_).setCell ⟨gb191,0,none⟩ (.string ((AM l0_1 x21_1).f0))).setCell ⟨gb191,1,none⟩ (.int .i64 ((AM l0_1 x21_1).f1))).setCell ⟨gb191,2,none⟩ (.int .i64 ((AM l0_1 x21_1).f2))).setCell ⟨gb191,3,none⟩ (.slice A190_3 ((AM l0_1 x21_1).f3).length c190_3))).cell? _=some _ from hx192_0)); clear hn192_0; clear hn192_1; clear hn192_2; clear hn192_3; replace p192:=eq_true p192; replace q192:=eq_true q192)); try go_wp2_with (first|((with_reducible refine Ar (N:=9) rfl ?_); refine Ap ?hg (N:=9) ?hd (cs:= #[.string (⟨#[]⟩:ByteArray),.int .i64 0,.int .i64 0,.slice none 0 0]) (t:=49) ?hr ?_; (case hd=>rfl); (case hg=>rfl); (case hr=>first|(go_simp; done)|(go_simp; rfl)); intro gb191 hg w13 hbox hb; have n0_:=yA (Kd.R_below (by (with_reducible repeat (first|apply Kd.R_alloc|apply Kd.R_drewN|apply Kd.R_drew)); exact HO_4.out) hb); have n1_:=yA (AP (g:=gb185) (o:= .cells #[.int .i64 A8,.slice (some ad190) l0_1.length c0_1] 33 (0,0)) zZ hb); have n2_:=yA (AO zK hb); have n3_:=yA (hbox); have n4_:=yA ((by rw [hg]; exact (AT zK):w.heap.size≤gb191)); have n5_:=yA ((by rw [hg]; exact (AT zK):w.heap.size≤gb191)); have n6_:=yA ((by rw [hg]; exact Nat.ne_of_lt (B0 (g:=gb185) (o:= .cells #[.int .i64 A8,.slice (some ad190) l0_1.length c0_1] 33 (0,0)) zZ):gb185≠gb191)); have n7_:=yA ((by rw [hg]; exact Nat.ne_of_gt (B0 (g:=gb185) (o:= .cells #[.int .i64 A8,.slice (some ad190) l0_1.length c0_1] 33 (0,0)) zZ):gb191≠gb185)); clear HO_4; clear BK185; clear HB; have HO_4:=n0_; have BK185:=n1_; have HB:=n2_; have BK191:=n3_; have GW191:=n4_; have GE191:=n5_; have NB185_191:=n6_; have NB191_185:=n7_; clear n0_ n1_ n2_ n3_ n4_ n5_ n6_ n7_; clear hb hbox hg; have hnb14:=NB191_185.out; have hnc14:=NB185_191.out; have hcz15_0:w13.cell? ⟨gb191,0,none⟩=some (.string (⟨#[]⟩:ByteArray)):=(AK BK191.out 0).trans rfl; have hcz15_1:w13.cell? ⟨gb191,1,none⟩=some (.int .i64 0):=(AK BK191.out 1).trans rfl; have hcz15_2:w13.cell? ⟨gb191,2,none⟩=some (.int .i64 0):=(AK BK191.out 2).trans rfl; have hcz15_3:w13.cell? ⟨gb191,3,none⟩=some (.slice none 0 0):=(AK BK191.out 3).trans rfl; have hfz15_0:=AJ BK191.out 0; have hfz15_1:=AJ BK191.out 1; have hfz15_2:=AJ BK191.out 2; have hfz15_3:=AJ BK191.out 3; obtain ⟨Ao16,co16,eo16⟩:=Kd.R_slice HO_4.out; subst eo16; have p192:0≤(x21_1:Int):=yD; have q192:x21_1<(t186.length:Int):=yD; obtain ⟨ad192,e192,hx192_0⟩:=Kd.at_int (Kd.R_reads' HO_4.out).2.2 x21_1 p192 q192; cases e192; have hn192_0:ad192.block≠gb191:=Kd.own_blk (Kd.R_ne HO_4.out BK191.out zA2); have hn192_1:ad192.block≠gb191:=Kd.own_blk (Kd.R_ne HO_4.out BK191.out zA2); have hn192_2:ad192.block≠gb191:=Kd.own_blk (Kd.R_ne HO_4.out BK191.out zA2); have hn192_3:ad192.block≠gb191:=Kd.own_blk (Kd.R_ne HO_4.out BK191.out zA2); replace hx192_0:=(Bu (p:=⟨gb191,0,none⟩) (by first|(rw [BH]; exact hn192_0)|(show (Addr.add _ _).block≠_; rw [BH]; exact hn192_0)|exact hn192_0) (.string ((AM l0_1 x21_1).f0))).trans hx192_0; replace hx192_0:=(Bu (p:=⟨gb191,1,none⟩) (by first|(rw [BH]; exact hn192_1)|(show (Addr.add _ _).block≠_; rw [BH]; exact hn192_1)|exact hn192_1) (.int .i64 ((AM l0_1 x21_1).f1))).trans hx192_0; replace hx192_0:=(Bu (p:=⟨gb191,2,none⟩) (by first|(rw [BH]; exact hn192_2)|(show (Addr.add _ _).block≠_; rw [BH]; exact hn192_2)|exact hn192_2) (.int .i64 ((AM l0_1 x21_1).f2))).trans hx192_0; replace hx192_0:=(Bu (p:=⟨gb191,3,none⟩) (by first|(rw [BH]; exact hn192_3)|(show (Addr.add _ _).block≠_; rw [BH]; exact hn192_3)|exact hn192_3) (.slice A190_3 ((AM l0_1 x21_1).f3).length c190_3)).trans hx192_0; (try have hy192_0:=fun (n_:Nat)=>(show ((((((w13.drewN n_).setCell ⟨gb191,0,none⟩ (.string ((AM l0_1 x21_1).f0))).setCell ⟨gb191,1,none⟩ (.int .i64 ((AM l0_1 x21_1).f1))).setCell ⟨gb191,2,none⟩ (.int .i64 ((AM l0_1 x21_1).f2))).setCell ⟨gb191,3,none⟩ (.slice A190_3 ((AM l0_1 x21_1).f3).length c190_3))).cell? _=some _ from hx192_0)); clear hn192_0; clear hn192_1; clear hn192_2; clear hn192_3; replace p192:=eq_true p192; replace q192:=eq_true q192)))
        go_roundg k1
        case measure=>have:=HK1.out; omega
        case rel=>exact ⟨(wrap64 (x6_1+((AM l0_1 x21_1).f1))),(ji12),(wrap64 (x21_1+1)),zG,(by first|rfl|(simp; done)|(simp only [←hji12]<;>(first|rfl|simp))|(simp [*]; done)),zG,H',⟨by have:=HK1.out; omega⟩,⟨by (with_reducible repeat (first|apply Kd.R_alloc|apply Kd.R_drewN|apply Kd.R_drew)); exact Kd.R_mono (Kd.R_far (p:=⟨gb191,3,none⟩) (Kd.R_far (p:=⟨gb191,2,none⟩) (Kd.R_far (p:=⟨gb191,1,none⟩) (Kd.R_far (p:=⟨gb191,0,none⟩) (Kd.R_types HO_4.out BK191.out zA2) (fun _ hk=>hk.2) (.string ((AM l0_1 x21_1).f0))) (fun _ hk=>hk.2) (.int .i64 ((AM l0_1 x21_1).f1))) (fun _ hk=>hk.2) (.int .i64 ((AM l0_1 x21_1).f2))) (fun _ hk=>hk.2) (.slice A190_3 ((AM l0_1 x21_1).f3).length c190_3)) (fun _ hk=>trivial)⟩,⟨by (with_reducible repeat (first|refine AG ?_ _|refine AH ?_|refine AF ?_ _)); refine Aa ?_ NB185_191.out _; (with_reducible repeat (first|refine AG ?_ _|refine AH ?_|refine AF ?_ _)); refine Aa ?_ NB185_191.out _; (with_reducible repeat (first|refine AG ?_ _|refine AH ?_|refine AF ?_ _)); refine Aa ?_ NB185_191.out _; (with_reducible repeat (first|refine AG ?_ _|refine AH ?_|refine AF ?_ _)); refine Aa ?_ NB185_191.out _; (with_reducible repeat (first|refine AG ?_ _|refine AH ?_|refine AF ?_ _)); exact BK185.out⟩,⟨by repeat (first|(with_reducible first|exact HB.out|apply AE|apply AC|apply AD|refine AI ?_ GE185.out|refine AI ?_ GE191.out)|exact HB.out)⟩⟩
       ·rw [if_neg c11] at H
        exact absurd H zA6
      ·rw [if_neg c10] at H
       exact absurd H zA6
     ·rw [if_neg c9] at H
      exact absurd H zA6
    ·rw [if_neg c8] at H
     have c8b0:decide (x21_1<(l0_1.length:Int))=false:=decide_eq_false c8
     clear c8
     by_cases c17:A8=0
     ·rw [if_pos c17] at H
      exact absurd H zA6
     ·rw [if_neg c17] at H
      have c17b0:(A8==0)=false:=beq_eq_false_iff_ne.mpr c17
      have c17b1:(A8 !=0)=true:=bne_iff_ne.mpr c17
      obtain ⟨ji18,hji18⟩:∃j_:Int,(mx x7_1 (wrap64 (Int.tdiv (wrap64 ((wrap64 (x6_1+A8))-1)) A8)))=j_:=⟨_,rfl⟩
      replace H:(some (ji18,0))=some (r1,r2):=by first|(rw [hji18] at H; exact H)|(simp only [hji18] at H ⊢; exact H)
      have hji18_:(if x7_1<(wrap64 (Int.tdiv (wrap64 ((wrap64 (x6_1+A8))-1)) A8)) then (wrap64 (Int.tdiv (wrap64 ((wrap64 (x6_1+A8))-1)) A8)) else x7_1)=ji18:=hji18
      simp only [Option.some.injEq,Prod.mk.injEq] at H
      obtain ⟨rfl,rfl⟩:=H
      have hcz19_0:wr.cell? ⟨gb185,0,none⟩=some (.int .i64 A8):=(AK BK185.out 0).trans rfl
      have hcz19_1:wr.cell? ⟨gb185,1,none⟩=some (.slice A0_1 l0_1.length c0_1):=(AK BK185.out 1).trans rfl
      have hfz19_0:=AJ BK185.out 0
      have hfz19_1:=AJ BK185.out 1
      go_wp2
      repeat (go_quiet (fail); try go_wp2)
      go_ret2
      exact ⟨by first|rfl|(simp [AZ,AY]<;>rfl)|(simp only [←hji18]; first|rfl|(simp [AZ,AY]<;>rfl))|(simp [*,AZ,AY]<;>rfl),by repeat (first|(with_reducible first|exact HB.out|apply AE|apply AC|apply AD|refine AI ?_ GE185.out)|exact HB.out)⟩
 ·rw [if_neg c3] at H
  have c3b0:(t189==0)=false:=beq_eq_false_iff_ne.mpr c3
  have c3b1:(t189 !=0)=true:=bne_iff_ne.mpr c3
  simp only [Option.some.injEq,Prod.mk.injEq] at H
  obtain ⟨rfl,rfl⟩:=H
  go_enter Tryd.func20,Tryd.ntmps20
  go_wp2_with (first|((with_reducible refine Ar (N:=1) rfl ?_); refine Ap ?hg (N:=1) ?hd (cs:= #[.int .i64 A8,.slice A0_1 l0_1.length c0_1]) (t:=33) ?hr ?_; (case hd=>rfl); (case hg=>rfl); (case hr=>first|(go_simp; done)|(go_simp; rfl)); intro gb185 hg w20 hbox hb; have n0_:=yA (AO zB hb); have n1_:=yA (hbox); have n2_:=yA ((by rw [hg]; exact (AT zB):w.heap.size≤gb185)); have n3_:=yA ((by rw [hg]; exact (AT zB):w.heap.size≤gb185)); clear HB; have HB:=n0_; have BK185:=n1_; have GW185:=n2_; have GE185:=n3_; clear n0_ n1_ n2_ n3_; clear hb hbox hg; have hcz21_0:w20.cell? ⟨gb185,0,none⟩=some (.int .i64 A8):=(AK BK185.out 0).trans rfl; have hcz21_1:w20.cell? ⟨gb185,1,none⟩=some (.slice A0_1 l0_1.length c0_1):=(AK BK185.out 1).trans rfl; have hfz21_0:=AJ BK185.out 0; have hfz21_1:=AJ BK185.out 1)|(go_at_call 39; (with_reducible refine (Aq.calls k A8 _ _ l0_1 t186 t189 _ ?side1 ?side2 A2.out).mono ?_); (case side1=>repeat (first|exact (Kd.C_below HR0_1.out HB.out)|(with_reducible refine Kd.C_alloc ?_ _)|(with_reducible refine Kd.C_drewN ?_ _)|(with_reducible refine Kd.C_drew ?_))); (case side2=>exact HC0_1.out); rintro e w22 ⟨v187,rfl,ho0,hb⟩; have n0_:=yA (Kd.R_lower ho0 (AT zK)); have n1_:=yA (AP (g:=gb185) (o:= .cells #[.int .i64 A8,.slice A0_1 l0_1.length c0_1] 33 (0,0)) zZ hb); have n2_:=yA (AO zK hb); clear BK185; clear HB; have HO188:=n0_; have BK185:=n1_; have HB:=n2_; clear n0_ n1_ n2_; (try clear hb); (try clear hb2); (try clear hk); (try clear hi); (try clear ho0)))
  repeat (go_quiet (first|((with_reducible refine Ar (N:=1) rfl ?_); refine Ap ?hg (N:=1) ?hd (cs:= #[.int .i64 A8,.slice A0_1 l0_1.length c0_1]) (t:=33) ?hr ?_; (case hd=>rfl); (case hg=>rfl); (case hr=>first|(go_simp; done)|(go_simp; rfl)); intro gb185 hg w20 hbox hb; have n0_:=yA (AO zB hb); have n1_:=yA (hbox); have n2_:=yA ((by rw [hg]; exact (AT zB):w.heap.size≤gb185)); have n3_:=yA ((by rw [hg]; exact (AT zB):w.heap.size≤gb185)); clear HB; have HB:=n0_; have BK185:=n1_; have GW185:=n2_; have GE185:=n3_; clear n0_ n1_ n2_ n3_; clear hb hbox hg; have hcz21_0:w20.cell? ⟨gb185,0,none⟩=some (.int .i64 A8):=(AK BK185.out 0).trans rfl; have hcz21_1:w20.cell? ⟨gb185,1,none⟩=some (.slice A0_1 l0_1.length c0_1):=(AK BK185.out 1).trans rfl; have hfz21_0:=AJ BK185.out 0; have hfz21_1:=AJ BK185.out 1)|(go_at_call 39; (with_reducible refine (Aq.calls k A8 _ _ l0_1 t186 t189 _ ?side1 ?side2 A2.out).mono ?_); (case side1=>repeat (first|exact (Kd.C_below HR0_1.out HB.out)|(with_reducible refine Kd.C_alloc ?_ _)|(with_reducible refine Kd.C_drewN ?_ _)|(with_reducible refine Kd.C_drew ?_))); (case side2=>exact HC0_1.out); rintro e w22 ⟨v187,rfl,ho0,hb⟩; have n0_:=yA (Kd.R_lower ho0 (AT zK)); have n1_:=yA (AP (g:=gb185) (o:= .cells #[.int .i64 A8,.slice A0_1 l0_1.length c0_1] 33 (0,0)) zZ hb); have n2_:=yA (AO zK hb); clear BK185; clear HB; have HO188:=n0_; have BK185:=n1_; have HB:=n2_; clear n0_ n1_ n2_; (try clear hb); (try clear hb2); (try clear hk); (try clear hi); (try clear ho0); clear A2)); try go_wp2_with (first|((with_reducible refine Ar (N:=1) rfl ?_); refine Ap ?hg (N:=1) ?hd (cs:= #[.int .i64 A8,.slice A0_1 l0_1.length c0_1]) (t:=33) ?hr ?_; (case hd=>rfl); (case hg=>rfl); (case hr=>first|(go_simp; done)|(go_simp; rfl)); intro gb185 hg w20 hbox hb; have n0_:=yA (AO zB hb); have n1_:=yA (hbox); have n2_:=yA ((by rw [hg]; exact (AT zB):w.heap.size≤gb185)); have n3_:=yA ((by rw [hg]; exact (AT zB):w.heap.size≤gb185)); clear HB; have HB:=n0_; have BK185:=n1_; have GW185:=n2_; have GE185:=n3_; clear n0_ n1_ n2_ n3_; clear hb hbox hg; have hcz21_0:w20.cell? ⟨gb185,0,none⟩=some (.int .i64 A8):=(AK BK185.out 0).trans rfl; have hcz21_1:w20.cell? ⟨gb185,1,none⟩=some (.slice A0_1 l0_1.length c0_1):=(AK BK185.out 1).trans rfl; have hfz21_0:=AJ BK185.out 0; have hfz21_1:=AJ BK185.out 1)|(go_at_call 39; (with_reducible refine (Aq.calls k A8 _ _ l0_1 t186 t189 _ ?side1 ?side2 A2.out).mono ?_); (case side1=>repeat (first|exact (Kd.C_below HR0_1.out HB.out)|(with_reducible refine Kd.C_alloc ?_ _)|(with_reducible refine Kd.C_drewN ?_ _)|(with_reducible refine Kd.C_drew ?_))); (case side2=>exact HC0_1.out); rintro e w22 ⟨v187,rfl,ho0,hb⟩; have n0_:=yA (Kd.R_lower ho0 (AT zK)); have n1_:=yA (AP (g:=gb185) (o:= .cells #[.int .i64 A8,.slice A0_1 l0_1.length c0_1] 33 (0,0)) zZ hb); have n2_:=yA (AO zK hb); clear BK185; clear HB; have HO188:=n0_; have BK185:=n1_; have HB:=n2_; clear n0_ n1_ n2_; (try clear hb); (try clear hb2); (try clear hk); (try clear hi); (try clear ho0); clear A2)))
  go_ret2
  exact ⟨by first|rfl|(simp [AZ,AY]<;>rfl)|(simp [*,AZ,AY]<;>rfl),by repeat (first|(with_reducible first|exact HB.out|apply AE|apply AC|apply AD|refine AI ?_ GE185.out)|exact HB.out)⟩
end Go.Proofs.YtdadecjefafflaaDoor.PChk
end
section
namespace Go.Proofs.YtdadecjefafflaaDoor.PChk
set_option maxRecDepth 100000
open Go.RowKit Go.Proofs.YtdadecjefafflaaDoorW.PrintWords Go.Proofs.YtdadecjefafflaaDoorW.PrintLast Go.Proofs.YtdadecjefafflaaDoorW.PrintMore
attribute [local go_sem] Ba BX Be Bd BS BR BZ BW
def Ae.l0:Nat→List (S56)→Int→Int→Int→Int→List (S49)→Option (Int)
 |0,_,_,_,_,_,_=>none
 |k+1,x1,x5,x20,x21,x194000,x194001=>if x21<x20 then ((BC.f x194000 x194001 x1 x21).bind fun t196=>(if 0≤x21 then (if x21<(x194001.length:Int) then (Ae.l0 k x1 (mx x5 (wrap64 (t196-((AM x194001 x21).f2)))) x20 (wrap64 (x21+1)) x194000 x194001) else (none)) else (none))) else (some x5)
def Ae.f (k:Nat) (A8:Int) (l0_1:List (S49)) (l1:List (S56)):Option (Int):=if (l1.length:Int)=0 then (some 0) else ((BC.f A8 l0_1 l1 0).bind fun t194=>(if 0<(l0_1.length:Int) then (Ae.l0 k l1 (wrap64 (t194-((AM l0_1 0).f2))) (l1.length:Int) 0 A8 l0_1) else (none)))
theorem Ae.mono_l:∀k,(∀y0 y1 y2 y3 y4 y5,LeO (Ae.l0 k y0 y1 y2 y3 y4 y5) (Ae.l0 (k+1) y0 y1 y2 y3 y4 y5))
 |0=>fun _ _ _ _ _ _ r h=>by simp [Ae.l0] at h
 | k +1=>by
  have ih0:=Ae.mono_l k
  ·intro y0 y1 y2 y3 y4 y5
   unfold Ae.l0
   repeat' first
   |(with_reducible exact ih0 _ _ _ _ _ _)
   |(with_reducible exact LeO.refl _)
   |(with_reducible exact LeO.none _)
   |(with_reducible refine LeO.ite ?_ ?_)
   |(with_reducible refine LeO.bind ?_ (fun _=> ?_))
   |exact ih0 _ _ _ _ _ _
   |exact LeO.none _
   |refine LeO.ite ?_ ?_
   |refine LeO.bind ?_ (fun _=> ?_)
theorem Ae.mono:∀a0 a1 a2 k,LeO (Ae.f k a0 a1 a2) (Ae.f (k+1) a0 a1 a2):=by
 intro a0 a1 a2 k
 have ih0:=Ae.mono_l k
 unfold Ae.f
 repeat' first
  |(with_reducible exact ih0 _ _ _ _ _ _)
  |(with_reducible exact LeO.refl _)
  |(with_reducible exact LeO.none _)
  |(with_reducible refine LeO.ite ?_ ?_)
  |(with_reducible refine LeO.bind ?_ (fun _=> ?_))
  |exact ih0 _ _ _ _ _ _
  |exact LeO.none _
  |refine LeO.ite ?_ ?_
  |refine LeO.bind ?_ (fun _=> ?_)
def Ae.T3:Bool×List (List Nat×List Nat):=(true,[([],[]),([],[]),([0,1],[0,1]),([],[]),([3],[3]),([4],[4]),([5],[5]),([6],[6]),([2,7],[2,7]),([8,2,0,1,2,3,4,5,6,7,8],[8])])
def Ae.B3:List Nat:=[0,0,3,0,8,24,56,120,255,511]
theorem Ae.tab3:rtab .any (Cq Tryd.f23 3)=Ae.T3:=by kernel_rfl
theorem Ae.bits3:Bz Ae.T3.2 Ae.B3=true:=by kernel_rfl
def Ae.T7:Bool×List (List Nat×List Nat):=(true,[([],[]),([],[]),([],[]),([],[]),([1,2,3],[1,2,3]),([],[]),([5],[5]),([],[]),([6,7],[6,7]),([8],[8]),([9],[9]),([4,10],[4,10]),([0,11],[0,11]),([12,4,0,1,2,3,4,5,6,7,8,9,10,11,12],[0,12])])
def Ae.B7:List Nat:=[0,0,0,0,14,0,32,0,224,480,992,2046,4095,8191]
theorem Ae.tab7:rtab .any (Cq Tryd.f23 7)=Ae.T7:=by kernel_rfl
theorem Ae.bits7:Bz Ae.T7.2 Ae.B7=true:=by kernel_rfl
set_option maxHeartbeats 8000000 in
theorem Ae.calls (k:Nat) (A8:Int) (A0_1:Option Addr) (c0_1:Nat) (l0_1:List (S49)) (A1:Option Addr) (c1:Nat) (l1:List (S56)) (r:Int) (w:World) (hr0_1:Kd.C k49 w A0_1 l0_1.length l0_1) (hc0_1:l0_1.length≤c0_1) (hr1:Kd.C k56 w A1 l1.length l1) (hc1:l1.length≤c1) (h:Ae.f k A8 l0_1 l1=some r):
  Calls Tryd.prog 23 #[.agg #[.int .i64 A8,.slice A0_1 l0_1.length c0_1],.slice A1 l1.length c1] w fun e w'=>e= .returned (.int .i64 r)∧Below w.heap.size w w':=by
 have hu33:=Tryd.underlying33
 have HR0_1:=yA hr0_1
 have HC0_1:=yA hc0_1
 clear hr0_1 hc0_1
 have HR1:=yA hr1
 have HC1:=yA hc1
 clear hr1 hc1
 have HB:=yA (Below.refl w.heap.size w)
 have H:(if (l1.length:Int)=0 then (some 0) else ((BC.f A8 l0_1 l1 0).bind fun t194=>(if 0<(l0_1.length:Int) then (Ae.l0 k l1 (wrap64 (t194-((AM l0_1 0).f2))) (l1.length:Int) 0 A8 l0_1) else (none))))=some r:=h
 clear h
 by_cases c3:(l1.length:Int)=0
 ·rw [if_pos c3] at H
  have c3b0:((l1.length:Int)==0)=true:=beq_iff_eq.mpr c3
  have c3b1:((l1.length:Int) !=0)=false:=bne_eq_false_iff_eq.mpr c3
  clear c3
  obtain rfl:=Option.some.inj H
  go_enter Tryd.func23,Tryd.ntmps23
  go_wp2_with (first|((with_reducible refine Ar (N:=2) rfl ?_); refine Ap ?hg (N:=2) ?hd (cs:= #[.int .i64 A8,.slice A0_1 l0_1.length c0_1]) (t:=33) ?hr ?_; (case hd=>rfl); (case hg=>rfl); (case hr=>first|(go_simp; done)|(go_simp; rfl)); intro gb193 hg w4 hbox hb; have n0_:=yA (AO zB hb); have n1_:=yA (hbox); have n2_:=yA ((by rw [hg]; exact (AT zB):w.heap.size≤gb193)); have n3_:=yA ((by rw [hg]; exact (AT zB):w.heap.size≤gb193)); clear HB; have HB:=n0_; have BK193:=n1_; have GW193:=n2_; have GE193:=n3_; clear n0_ n1_ n2_ n3_; clear hb hbox hg))
  go_ret
  exact ⟨by first|rfl|(simp [AZ,AY]<;>rfl)|(simp [*,AZ,AY]<;>rfl),by repeat (first|(with_reducible first|exact HB.out|apply AE|apply AC|apply AD|refine AI ?_ GE193.out)|exact HB.out)⟩
 ·rw [if_neg c3] at H
  have c3b0:((l1.length:Int)==0)=false:=beq_eq_false_iff_ne.mpr c3
  have c3b1:((l1.length:Int) !=0)=true:=bne_iff_ne.mpr c3
  have c3b2:¬(l1=[]):=fun h_=>c3 (by rw [h_]; rfl)
  replace H:=Option.bind_eq_some_iff.mp H
  obtain ⟨t194,A50,H⟩:=H
  replace H:(if 0<(l0_1.length:Int) then (Ae.l0 k l1 (wrap64 (t194-((AM l0_1 0).f2))) (l1.length:Int) 0 A8 l0_1) else (none))=some r:=H
  have A5:=yA A50
  clear A50
  by_cases c6:0<(l0_1.length:Int)
  ·rw [if_pos c6] at H
   have c6b0:decide (0<(l0_1.length:Int))=true:=decide_eq_true c6
   have c6b1:decide (0<l0_1.length)=true:=decide_eq_true zI
   clear c6
   have H':=yA H
   clear H
   go_enter Tryd.func23,Tryd.ntmps23
   try go_wp2_with (first|((with_reducible refine Ar (N:=2) rfl ?_); refine Ap ?hg (N:=2) ?hd (cs:= #[.int .i64 A8,.slice A0_1 l0_1.length c0_1]) (t:=33) ?hr ?_; (case hd=>rfl); (case hg=>rfl); (case hr=>first|(go_simp; done)|(go_simp; rfl)); intro gb193 hg w7 hbox hb; have n0_:=yA (AO zB hb); have n1_:=yA (hbox); have n2_:=yA ((by rw [hg]; exact (AT zB):w.heap.size≤gb193)); have n3_:=yA ((by rw [hg]; exact (AT zB):w.heap.size≤gb193)); clear HB; have HB:=n0_; have BK193:=n1_; have GW193:=n2_; have GE193:=n3_; clear n0_ n1_ n2_ n3_; clear hb hbox hg))
   have n0_:=yA (AH BK193.out)
   have n1_:=yA (AD HB.out)
   clear BK193
   clear HB
   have BK193:=n0_
   have HB:=n1_
   clear n0_ n1_
   have p195:0≤(0:Int):=zI
   have q195:0<(l0_1.length:Int):=yD
   obtain ⟨ad195,A195_3,c195_3,e195,hx195_0,hx195_1,hx195_2,hx195_3,hl195_3,hi195_3⟩:=C9 HR0_1.out 0 p195 q195
   have hw195_3:=hx195_3
   (try rw [show ((0:Int)).toNat=0 from rfl] at hw195_3)
   (try rw [show 0*4=0 from rfl] at hw195_3)
   (try rw [Addr.add_zero'] at hw195_3)
   have hw195_2:=hx195_2
   (try rw [show ((0:Int)).toNat=0 from rfl] at hw195_2)
   (try rw [show 0*4=0 from rfl] at hw195_2)
   (try rw [Addr.add_zero'] at hw195_2)
   have hw195_1:=hx195_1
   (try rw [show ((0:Int)).toNat=0 from rfl] at hw195_1)
   (try rw [show 0*4=0 from rfl] at hw195_1)
   (try rw [Addr.add_zero'] at hw195_1)
   have hw195_0:=hx195_0
   (try rw [show ((0:Int)).toNat=0 from rfl] at hw195_0)
   (try rw [show 0*4=0 from rfl] at hw195_0)
   (try rw [Addr.add_zero'] at hw195_0)
   cases e195
   have qi195:(0<l0_1.length)=True:=eq_true zI
   (try rw [show ((0:Int)).toNat=0 from rfl] at hx195_0)
   (try rw [show 0*4=0 from rfl] at hx195_0)
   (try rw [Addr.add_zero'] at hx195_0)
   (try rw [show ((0:Int)).toNat=0 from rfl] at hx195_1)
   (try rw [show 0*4=0 from rfl] at hx195_1)
   (try rw [Addr.add_zero'] at hx195_1)
   (try rw [show ((0:Int)).toNat=0 from rfl] at hx195_2)
   (try rw [show 0*4=0 from rfl] at hx195_2)
   (try rw [Addr.add_zero'] at hx195_2)
   (try rw [show ((0:Int)).toNat=0 from rfl] at hx195_3)
   (try rw [show 0*4=0 from rfl] at hx195_3)
   (try rw [Addr.add_zero'] at hx195_3)
   replace hx195_0:=yC HB.out hx195_0
   replace hx195_1:=yC HB.out hx195_1
   replace hx195_2:=yC HB.out hx195_2
   replace hx195_3:=yC HB.out hx195_3
   have HR195_3:=yA hi195_3
   have HC195_3:=yA hl195_3
   clear hi195_3 hl195_3
   replace p195:=eq_true p195
   replace q195:=eq_true q195
   refine Bp (n:=10) (S:=fun w'=>w'.cell? ⟨gb193,0,none⟩=some (.int .i64 A8)∧w'.cell? ⟨gb193,1,none⟩=some (.slice (some ad195) l0_1.length c0_1)∧w'.cell? ad195=some (.string ((AM l0_1 0).f0))∧w'.cell? ⟨ad195.block,ad195.off+1,none⟩=some (.int .i64 ((AM l0_1 0).f1))∧w'.cell? ⟨ad195.block,ad195.off+2,none⟩=some (.int .i64 ((AM l0_1 0).f2))∧w'.cell? ⟨ad195.block,ad195.off+3,none⟩=some (.slice A195_3 ((AM l0_1 0).f3).length c195_3)) (ds:=[]) #[false,false,false,false,false,false,false,false,false,false] zE rfl rfl ⟨(AK BK193.out 0).trans rfl,(AK BK193.out 1).trans rfl,(yC HB.out hw195_0),(yC HB.out hw195_1),(yC HB.out hw195_2),(yC HB.out hw195_3)⟩ (fun hHeld=> ?_); refine BU Ae.tab3 Ae.bits3 (fun HT_ HW_=> ?_)
   generalize w7.drew=w8 at BK193 HB HR195_3 hx195_0 hx195_1 hx195_2 hx195_3 hHeld ⊢
   refine AX (i:=1) (N:=some 11) (v:= ?_) (a':= ?_) #[false,true,false,false,false,false,false,false,false,false] rfl rfl (AQ HT_.out zE) (fun _ _ _ h=>h) (Or.inl ⟨by rfl,?_⟩) ?_ ?_; rotate_left; intro w'; go_simp; with_reducible rfl; rotate_left; exact yB
   refine AX (i:=3) (N:=some 13) (v:= ?_) (a':= ?_) #[false,true,false,true,false,false,false,false,false,false] rfl rfl (AQ HT_.out zE) (fun _ _ _ h=>h) (Or.inl ⟨by rfl,?_⟩) ?_ ?_; rotate_left; intro w'; go_simp; with_reducible rfl; rotate_left; exact yB
   refine BK (i:=0) (N:=some 10) (v:= ?_) (a':= ?_) #[true,true,false,true,false,false,false,false,false,false] rfl rfl (B4 HT_.out HW_.out zE) (fun _ _ _ h=>h) (Or.inl ⟨by rfl,?_⟩) hHeld ?_ ?_; rotate_left; rintro w' ⟨s0,s1,s2,s3,s4,s5⟩; go_simp; with_reducible rfl; rotate_left; exact yB
   refine BK (i:=4) (N:=some 14) (v:= ?_) (a':= ?_) #[true,true,false,true,true,false,false,false,false,false] rfl rfl (B4 HT_.out HW_.out zE) (fun _ _ _ h=>h) (Or.inl ⟨by rfl,?_⟩) hHeld ?_ ?_; rotate_left; rintro w' ⟨s0,s1,s2,s3,s4,s5⟩; go_simp; with_reducible rfl; rotate_left; exact yB
   refine AX (i:=5) (N:=some 15) (v:= ?_) (a':= ?_) #[true,true,false,true,true,true,false,false,false,false] rfl rfl (AQ HT_.out zE) (fun _ _ _ h=>h) (Or.inl ⟨by rfl,?_⟩) ?_ ?_; rotate_left; intro w'; go_simp; with_reducible rfl; rotate_left; exact yB
   refine AX (i:=6) (N:=some 16) (v:= ?_) (a':= ?_) #[true,true,false,true,true,true,true,false,false,false] rfl rfl (AQ HT_.out zE) (fun _ _ _ h=>h) (Or.inl ⟨by rfl,?_⟩) ?_ ?_; rotate_left; intro w'; go_simp; with_reducible rfl; rotate_left; exact yB
   refine BK (i:=7) (N:=some 17) (v:= ?_) (a':= ?_) #[true,true,false,true,true,true,true,true,false,false] rfl rfl (B4 HT_.out HW_.out zE) (fun _ _ _ h=>h) (Or.inl ⟨by rfl,?_⟩) hHeld ?_ ?_; rotate_left; rintro w' ⟨s0,s1,s2,s3,s4,s5⟩; go_simp; with_reducible rfl; rotate_left; exact yB
   refine one_ (i:=2) (N:=some 12) #[true,true,true,true,true,true,true,true,false,false] rfl rfl (Bi HT_.out zE) zA2 (fun K hK=> ?_)
   refine C1 Tryd.func22 zE rfl #[.agg #[.int .i64 A8,.slice (some ad195) l0_1.length c0_1],.slice A1 l1.length c1,.int .i64 0] (by rfl) rfl rfl zD ?_
   with_reducible refine (BC.calls A8 _ _ l0_1 _ _ l1 0 t194 _ ?side1 ?side2 ?side3 ?side4 A5.out).mono ?_
   (case side1=>repeat (first|exact (Kd.C_below HR0_1.out HB.out)|(with_reducible refine Kd.C_alloc ?_ _)|(with_reducible refine Kd.C_drewN ?_ _)|(with_reducible refine Kd.C_drew ?_)))
   (case side2=>exact HC0_1.out)
   (case side3=>repeat (first|exact (Kd.C_below HR1.out HB.out)|(with_reducible refine Kd.C_alloc ?_ _)|(with_reducible refine Kd.C_drewN ?_ _)|(with_reducible refine Kd.C_drew ?_)))
   (case side4=>exact HC1.out)
   rintro e w9 ⟨rfl,hb⟩
   refine ⟨_,rfl,?_⟩
   have n0_:=yA (AP (g:=gb193) (o:= .cells #[.int .i64 A8,.slice (some ad195) l0_1.length c0_1] 33 (0,0)) (by (with_reducible repeat (first|refine AG ?_ _|refine AH ?_|refine AF ?_ _)); exact BK193.out) hb)
   have n1_:=yA (AO (by repeat (first|(with_reducible first|exact HB.out|apply AE|apply AC|apply AD|refine AI ?_ GE193.out)|exact HB.out)) hb)
   clear BK193
   clear HB
   have BK193:=n0_
   have HB:=n1_
   clear n0_ n1_
   (try clear hb)
   (try clear hb2)
   (try clear hk)
   (try clear hi)
   refine hK.out _ _ ⟨(AK BK193.out 0).trans rfl,(AK BK193.out 1).trans rfl,(yC HB.out hw195_0),(yC HB.out hw195_1),(yC HB.out hw195_2),(yC HB.out hw195_3)⟩ (fun hHeld=> ?_)
   clear hK K
   refine Bq (a':= ?_) ?_ ?_; rotate_left; show Act.put _ (some 12) _=_; exact yB
   refine AX (i:=8) (N:=some 18) (v:= ?_) (a':= ?_) #[true,true,true,true,true,true,true,true,true,false] rfl rfl (AQ HT_.out zE) (fun _ _ _ h=>h) (Or.inl ⟨by rfl,?_⟩) ?_ ?_; rotate_left; intro w'; go_simp; with_reducible rfl; rotate_left; exact yB
   refine AX (i:=9) (N:=some 5) (v:= ?_) (a':= ?_) #[true,true,true,true,true,true,true,true,true,true] rfl rfl (AQ HT_.out zE) (fun _ _ _ h=>h) (Or.inl ⟨by rfl,?_⟩) ?_ ?_; rotate_left; intro w'; go_simp; with_reducible rfl; rotate_left; exact yB
   refine C7 (Bm HT_.out zE) ?_
   try go_wp2
   go_loopg [5,21] k (fun kq v5 v21 w'=>∃(x5_1:Int) (x21_1:Int),v5= .int .i64 x5_1∧v21= .int .i64 x21_1∧Aside0 (Ae.l0 kq l1 x5_1 (l1.length:Int) x21_1 A8 l0_1=some r)∧Aside0 (kq≤k)∧Aside0 (w'.heap[gb193]? =some (.cells #[.int .i64 A8,(.slice (some ad195) l0_1.length c0_1)] 33 (0,0)))∧Aside0 (Below w.heap.size w w'))
   case atStart=>exact ⟨(wrap64 (t194-((AM l0_1 0).f2))),(0),zG,zG,H',⟨Nat.le_refl _⟩,⟨by (with_reducible repeat (first|refine AG ?_ _|refine AH ?_|refine AF ?_ _)); exact BK193.out⟩,⟨by repeat (first|(with_reducible first|exact HB.out|apply AE|apply AC|apply AD|refine AI ?_ GE193.out)|exact HB.out)⟩⟩
   case round=>
    clear H'
    try clear c1
    try clear p1
    try clear q1
    try clear hx1
    try clear qi1
    try clear c2
    try clear p2
    try clear c3
    try clear c3b0
    try clear c3b1
    try clear c3b2
    try clear c6
    try clear c6b0
    try clear c6b1
    try clear p6
    try clear hx195_0
    try clear hx195_1
    try clear hx195_2
    try clear hx195_3
    try clear p195
    try clear q195
    obtain ⟨x5_1,x21_1,rfl,rfl,HA,HK1,BK193,HB⟩:=hrel
    cases gk with
    |zero=>exact absurd HA.out (by simp [Ae.l0])
    | succ k1 =>
     have H:=HA.out
     clear HA
     simp only [Ae.l0] at H
     by_cases c10:x21_1<(l1.length:Int)
     ·rw [if_pos c10] at H
      have c10b0:decide (x21_1<(l1.length:Int))=true:=decide_eq_true c10
      clear c10
      replace H:=Option.bind_eq_some_iff.mp H
      obtain ⟨t196,A110,H⟩:=H
      replace H:(if 0≤x21_1 then (if x21_1<(l0_1.length:Int) then (Ae.l0 k1 l1 (mx x5_1 (wrap64 (t196-((AM l0_1 x21_1).f2)))) (l1.length:Int) (wrap64 (x21_1+1)) A8 l0_1) else (none)) else (none))=some r:=H
      have A11:=yA A110
      clear A110
      by_cases c12:0≤x21_1
      ·rw [if_pos c12] at H
       have c12b0:decide (0≤x21_1)=true:=decide_eq_true c12
       clear c12
       by_cases c13:x21_1<(l0_1.length:Int)
       ·rw [if_pos c13] at H
        have c13b0:decide (x21_1<(l0_1.length:Int))=true:=decide_eq_true c13
        clear c13
        obtain ⟨ji14,hji14⟩:∃j_:Int,(mx x5_1 (wrap64 (t196-((AM l0_1 x21_1).f2))))=j_:=⟨_,rfl⟩
        replace H:(Ae.l0 k1 l1 ji14 (l1.length:Int) (wrap64 (x21_1+1)) A8 l0_1)=some r:=by first|(rw [hji14] at H; exact H)|(simp only [hji14] at H ⊢; exact H)
        (try rw [hji14] at A11)
        have hji14_:(if x5_1<(wrap64 (t196-((AM l0_1 x21_1).f2))) then (wrap64 (t196-((AM l0_1 x21_1).f2))) else x5_1)=ji14:=hji14
        have H':=yA H
        clear H
        try go_wp2
        have n0_:=yA (AH BK193.out)
        have n1_:=yA (AD HB.out)
        clear BK193
        clear HB
        have BK193:=n0_
        have HB:=n1_
        clear n0_ n1_
        have p197:0≤(x21_1:Int):=yD
        have q197:x21_1<(l0_1.length:Int):=yD
        obtain ⟨ad197,A197_3,c197_3,e197,hx197_0,hx197_1,hx197_2,hx197_3,hl197_3,hi197_3⟩:=C9 HR0_1.out x21_1 p197 q197
        have hw197_3:=hx197_3
        have hw197_2:=hx197_2
        have hw197_1:=hx197_1
        have hw197_0:=hx197_0
        obtain rfl:ad195=ad197:=(by injection e197)
        replace hx197_0:=yC HB.out hx197_0
        replace hx197_1:=yC HB.out hx197_1
        replace hx197_2:=yC HB.out hx197_2
        replace hx197_3:=yC HB.out hx197_3
        have HR197_3:=yA hi197_3
        have HC197_3:=yA hl197_3
        clear hi197_3 hl197_3
        replace p197:=eq_true p197
        replace q197:=eq_true q197
        refine Bp (n:=14) (S:=fun w'=>w'.cell? ⟨gb193,0,none⟩=some (.int .i64 A8)∧w'.cell? ⟨gb193,1,none⟩=some (.slice (some ad195) l0_1.length c0_1)∧w'.cell? (ad195.add ((x21_1).toNat*4))=some (.string ((AM l0_1 x21_1).f0))∧w'.cell? ⟨(ad195.add ((x21_1).toNat*4)).block,(ad195.add ((x21_1).toNat*4)).off+1,none⟩=some (.int .i64 ((AM l0_1 x21_1).f1))∧w'.cell? ⟨(ad195.add ((x21_1).toNat*4)).block,(ad195.add ((x21_1).toNat*4)).off+2,none⟩=some (.int .i64 ((AM l0_1 x21_1).f2))∧w'.cell? ⟨(ad195.add ((x21_1).toNat*4)).block,(ad195.add ((x21_1).toNat*4)).off+3,none⟩=some (.slice A197_3 ((AM l0_1 x21_1).f3).length c197_3)) (ds:=[]) #[false,false,false,false,false,false,false,false,false,false,false,false,false,false] zE rfl rfl ⟨(AK BK193.out 0).trans rfl,(AK BK193.out 1).trans rfl,(yC HB.out hw197_0),(yC HB.out hw197_1),(yC HB.out hw197_2),(yC HB.out hw197_3)⟩ (fun hHeld=> ?_); refine BU Ae.tab7 Ae.bits7 (fun HT_ HW_=> ?_)
        generalize wr.drew=w15 at BK193 HB HR197_3 hx197_0 hx197_1 hx197_2 hx197_3 hHeld ⊢
        refine AX (i:=0) (N:=some 24) (v:= ?_) (a':= ?_) #[true,false,false,false,false,false,false,false,false,false,false,false,false,false] rfl rfl (AQ HT_.out zE) (fun _ _ _ h=>h) (Or.inl ⟨by rfl,?_⟩) ?_ ?_; rotate_left; intro w'; go_simp; with_reducible rfl; rotate_left; exact yB
        refine AX (i:=2) (N:=some 26) (v:= ?_) (a':= ?_) #[true,false,true,false,false,false,false,false,false,false,false,false,false,false] rfl rfl (AQ HT_.out zE) (fun _ _ _ h=>h) (Or.inl ⟨by rfl,?_⟩) ?_ ?_; rotate_left; intro w'; go_simp; with_reducible rfl; rotate_left; exact yB
        refine AX (i:=3) (N:=some 27) (v:= ?_) (a':= ?_) #[true,false,true,true,false,false,false,false,false,false,false,false,false,false] rfl rfl (AQ HT_.out zE) (fun _ _ _ h=>h) (Or.inl ⟨by rfl,?_⟩) ?_ ?_; rotate_left; intro w'; go_simp; with_reducible rfl; rotate_left; exact yB
        refine AX (i:=5) (N:=some 29) (v:= ?_) (a':= ?_) #[true,false,true,true,false,true,false,false,false,false,false,false,false,false] rfl rfl (AQ HT_.out zE) (fun _ _ _ h=>h) (Or.inl ⟨by rfl,?_⟩) ?_ ?_; rotate_left; intro w'; go_simp; with_reducible rfl; rotate_left; exact yB
        refine AX (i:=7) (N:=some 31) (v:= ?_) (a':= ?_) #[true,false,true,true,false,true,false,true,false,false,false,false,false,false] rfl rfl (AQ HT_.out zE) (fun _ _ _ h=>h) (Or.inl ⟨by rfl,?_⟩) ?_ ?_; rotate_left; intro w'; go_simp; with_reducible rfl; rotate_left; exact yB
        refine BK (i:=1) (N:=some 25) (v:= ?_) (a':= ?_) #[true,true,true,true,false,true,false,true,false,false,false,false,false,false] rfl rfl (B4 HT_.out HW_.out zE) (fun _ _ _ h=>h) (Or.inl ⟨by rfl,?_⟩) hHeld ?_ ?_; rotate_left; rintro w' ⟨s0,s1,s2,s3,s4,s5⟩; go_simp; with_reducible rfl; rotate_left; exact yB
        refine BK (i:=6) (N:=some 30) (v:= ?_) (a':= ?_) #[true,true,true,true,false,true,true,true,false,false,false,false,false,false] rfl rfl (B4 HT_.out HW_.out zE) (fun _ _ _ h=>h) (Or.inl ⟨by rfl,?_⟩) hHeld ?_ ?_; rotate_left; rintro w' ⟨s0,s1,s2,s3,s4,s5⟩; go_simp; with_reducible rfl; rotate_left; exact yB
        refine AX (i:=8) (N:=some 32) (v:= ?_) (a':= ?_) #[true,true,true,true,false,true,true,true,true,false,false,false,false,false] rfl rfl (AQ HT_.out zE) (fun _ _ _ h=>h) (Or.inl ⟨by rfl,?_⟩) ?_ ?_; rotate_left; intro w'; go_simp; with_reducible rfl; rotate_left; exact yB
        refine AX (i:=9) (N:=some 33) (v:= ?_) (a':= ?_) #[true,true,true,true,false,true,true,true,true,true,false,false,false,false] rfl rfl (AQ HT_.out zE) (fun _ _ _ h=>h) (Or.inl ⟨by rfl,?_⟩) ?_ ?_; rotate_left; intro w'; go_simp; with_reducible rfl; rotate_left; exact yB
        refine BK (i:=10) (N:=some 34) (v:= ?_) (a':= ?_) #[true,true,true,true,false,true,true,true,true,true,true,false,false,false] rfl rfl (B4 HT_.out HW_.out zE) (fun _ _ _ h=>h) (Or.inl ⟨by rfl,?_⟩) hHeld ?_ ?_; rotate_left; rintro w' ⟨s0,s1,s2,s3,s4,s5⟩; go_simp; with_reducible rfl; rotate_left; exact yB
        refine one_ (i:=4) (N:=some 28) #[true,true,true,true,true,true,true,true,true,true,true,false,false,false] rfl rfl (Bi HT_.out zE) zA2 (fun K hK=> ?_)
        refine C1 Tryd.func22 zE rfl #[.agg #[.int .i64 A8,.slice (some ad195) l0_1.length c0_1],.slice A1 l1.length c1,.int .i64 x21_1] (by rfl) rfl rfl zD ?_
        with_reducible refine (BC.calls A8 _ _ l0_1 _ _ l1 x21_1 t196 _ ?side1 ?side2 ?side3 ?side4 A11.out).mono ?_
        (case side1=>repeat (first|exact (Kd.C_below HR0_1.out HB.out)|(with_reducible refine Kd.C_alloc ?_ _)|(with_reducible refine Kd.C_drewN ?_ _)|(with_reducible refine Kd.C_drew ?_)))
        (case side2=>exact HC0_1.out)
        (case side3=>repeat (first|exact (Kd.C_below HR1.out HB.out)|(with_reducible refine Kd.C_alloc ?_ _)|(with_reducible refine Kd.C_drewN ?_ _)|(with_reducible refine Kd.C_drew ?_)))
        (case side4=>exact HC1.out)
        rintro e w16 ⟨rfl,hb⟩
        refine ⟨_,rfl,?_⟩
        have n0_:=yA (AP (g:=gb193) (o:= .cells #[.int .i64 A8,.slice (some ad195) l0_1.length c0_1] 33 (0,0)) (by (with_reducible repeat (first|refine AG ?_ _|refine AH ?_|refine AF ?_ _)); exact BK193.out) hb)
        have n1_:=yA (AO (by repeat (first|(with_reducible first|exact HB.out|apply AE|apply AC|apply AD|refine AI ?_ GE193.out)|exact HB.out)) hb)
        clear BK193
        clear HB
        have BK193:=n0_
        have HB:=n1_
        clear n0_ n1_
        (try clear hb)
        (try clear hb2)
        (try clear hk)
        (try clear hi)
        refine hK.out _ _ ⟨(AK BK193.out 0).trans rfl,(AK BK193.out 1).trans rfl,(yC HB.out hw197_0),(yC HB.out hw197_1),(yC HB.out hw197_2),(yC HB.out hw197_3)⟩ (fun hHeld=> ?_)
        clear hK K
        refine Bq (a':= ?_) ?_ ?_; rotate_left; show Act.put _ (some 28) _=_; exact yB
        refine AX (i:=11) (N:=some 35) (v:= ?_) (a':= ?_) #[true,true,true,true,true,true,true,true,true,true,true,true,false,false] rfl rfl (AQ HT_.out zE) (fun _ _ _ h=>h) (Or.inl ⟨by rfl,?_⟩) ?_ ?_; rotate_left; intro w'; go_simp; with_reducible rfl; rotate_left; exact yB
        refine AX (i:=12) (N:=some 36) (v:= ?_) (a':= ?_) #[true,true,true,true,true,true,true,true,true,true,true,true,true,false] rfl rfl (AQ HT_.out zE) (fun _ _ _ h=>h) (Or.inl ⟨by rfl,?_⟩) ?_ ?_; rotate_left; intro w'; go_simp; with_reducible rfl; rotate_left; exact yB
        refine AX (i:=13) (N:=some 5) (v:= ?_) (a':= ?_) #[true,true,true,true,true,true,true,true,true,true,true,true,true,true] rfl rfl (AQ HT_.out zE) (fun _ _ _ h=>h) (Or.inl ⟨by rfl,?_⟩) ?_ ?_; rotate_left; intro w'; go_simp; with_reducible rfl; rotate_left; exact yB
        refine C7 (Bm HT_.out zE) ?_
        try go_wp2
        go_roundg k1
        case measure=>have:=HK1.out; omega
        case rel=>exact ⟨(ji14),(wrap64 (x21_1+1)),(by first|rfl|(simp; done)|(simp only [←hji14]<;>(first|rfl|simp))|(simp [*]; done)),zG,H',⟨by have:=HK1.out; omega⟩,⟨by (with_reducible repeat (first|refine AG ?_ _|refine AH ?_|refine AF ?_ _)); exact BK193.out⟩,⟨by repeat (first|(with_reducible first|exact HB.out|apply AE|apply AC|apply AD|refine AI ?_ GE193.out)|exact HB.out)⟩⟩
       ·rw [if_neg c13] at H
        exact absurd H zA6
      ·rw [if_neg c12] at H
       exact absurd H zA6
     ·rw [if_neg c10] at H
      have c10b0:decide (x21_1<(l1.length:Int))=false:=decide_eq_false c10
      clear c10
      obtain rfl:=Option.some.inj H
      go_wp2
      go_ret
      exact ⟨by first|rfl|(simp [AZ,AY]<;>rfl)|(simp [*,AZ,AY]<;>rfl),by repeat (first|(with_reducible first|exact HB.out|apply AE|apply AC|apply AD|refine AI ?_ GE193.out)|exact HB.out)⟩
  ·rw [if_neg c6] at H
   exact absurd H zA6
def BV.f (l0:List Int):Option (List Int):=if (l0.length:Int)=0 then (some ([]:List Int)) else ((some (([]:List Int):List Int)).bind fun y198=>(if y198.length+l0.length<17592186044416 then (some (y198++l0)) else (none)))
set_option maxHeartbeats 8000000 in
theorem BV.calls (A0:Option Addr) (c0:Nat) (l0:List Int) (r:List Int) (w:World) (hr0:Kd.C (Kd.int .i64) w A0 l0.length l0) (hc0:l0.length≤c0) (h:BV.f l0=some r) (hz:l0.length=0→A0=none):
  Calls Tryd.prog 41 #[.slice A0 l0.length c0] w fun e w'=>∃v0_:Value,e= .returned (v0_)∧Kd.R (Kd.int .i64) 3 w' w.heap.size (fun _=>True) v0_ r∧Below w.heap.size w w':=by
 have HR0:=yA hr0
 have HC0:=yA hc0
 clear hr0 hc0
 have HB:=yA (Below.refl w.heap.size w)
 have H:(if (l0.length:Int)=0 then (some ([]:List Int)) else ((some (([]:List Int):List Int)).bind fun y198=>(if y198.length+l0.length<17592186044416 then (some (y198++l0)) else (none))))=some r:=h
 clear h
 by_cases c2:(l0.length:Int)=0
 ·rw [if_pos c2] at H
  obtain rfl:=hz zI
  have hen:=fun w=>Lib.run_eql_slice_nil (P:=Tryd.prog) w 47 3 none l0.length c0 0 0 Tryd.underlying47
  simp only [Option.isNone_none] at hen
  have c2b0:((l0.length:Int)==0)=true:=beq_iff_eq.mpr c2
  have c2b1:((l0.length:Int) !=0)=false:=bne_eq_false_iff_eq.mpr c2
  clear c2
  obtain rfl:=Option.some.inj H
  go_enter Tryd.func41,Tryd.ntmps41
  go_wp2
  go_ret
  exact ⟨_,by first|rfl|(simp [AZ,AY]<;>rfl)|(simp [*,AZ,AY]<;>rfl),by first|exact Kd.R_nil _ _ _ _ _|exact Kd.N_nil _ _ _ _ _|exact Kd.V_nil _ _ _ _ _|exact Kd.Q_nil _ _ _ _ _|exact Kd.S_nil _ _ _ _ _,by repeat (first|(with_reducible first|exact HB.out|apply AE|apply AC|apply AD)|exact HB.out)⟩
 ·rw [if_neg c2] at H
  obtain ⟨ad_,rfl,_⟩:=HR0.out.2.2 zI
  clear hz
  have hen:=fun w=>Lib.run_eql_slice_nil (P:=Tryd.prog) w 47 3 (some ad_) l0.length c0 0 0 Tryd.underlying47
  simp only [Option.isNone_some] at hen
  have c2b0:((l0.length:Int)==0)=false:=beq_eq_false_iff_ne.mpr c2
  have c2b1:((l0.length:Int) !=0)=true:=bne_iff_ne.mpr c2
  have c2b2:¬(l0=[]):=fun h_=>c2 (by rw [h_]; rfl)
  obtain ⟨y198,hy198⟩:∃y_:List Int,y_=(([]:List Int)):=⟨_,rfl⟩
  replace H:(if y198.length+l0.length<17592186044416 then (some (y198++l0)) else (none))=some r:=by first|(rw [hy198]; with_reducible exact H)|(have H2_:=(Option.bind_some _ _).symm.trans H; rw [hy198]; with_reducible exact H2_)|(have H2_:=(Option.bind_some _ _).symm.trans H; with_reducible exact H2_)|with_reducible exact H|(rw [hy198]; exact H)|exact H
  have Ny198:=yA hy198
  clear hy198
  by_cases c3:y198.length+l0.length<17592186044416
  ·rw [if_pos c3] at H
   have LMc3:=yA c3
   clear c3
   obtain ⟨y201,hy201⟩:∃y_:List Int,y_=(y198++l0):=⟨_,rfl⟩
   replace H:(some y201)=some r:=by first|(rw [hy201]; with_reducible exact H)|(have H2_:=(Option.bind_some _ _).symm.trans H; rw [hy201]; with_reducible exact H2_)|(have H2_:=(Option.bind_some _ _).symm.trans H; with_reducible exact H2_)|with_reducible exact H|(rw [hy201]; exact H)|exact H
   have Ny201:=yA hy201
   clear hy201
   obtain rfl:=Option.some.inj H
   go_enter Tryd.func41,Tryd.ntmps41
   go_wp2_with (first|((with_reducible refine Ar (N:=5) rfl ?_); refine Kd.R_lit (Kd.int .i64) _ 3 ?hg (N:=5) ?hd (xs:=([]:List Int)) (inner:=[]) (ok:=fun _=>True) (okp:=fun _=>True) ?hr ?hp (fun _ hk=>hk) trivial (Below.refl _ _) (Nat.le_refl _) zA6 ?_; (case hd=>rfl); (case hg=>rfl); (case hr=>first|(go_simp; done)|(go_simp; rfl)); (case hp=>exact (Reps.none _ _)); intro v199 w4 ho5 hb hg_ hnew_; clear hg_ hnew_; (first|rw [←Ny198.out] at ho5|(simp only [Int.reduceToNat] at ho5; rw [←Ny198.out] at ho5)); have n0_:=yA (Kd.R_lower ho5 (AT zB)); have n1_:=yA (AO zB hb); clear HB; have HO200:=n0_; have HB:=n1_; clear n0_ n1_; clear hb ho5)|((with_reducible refine Bs (b:= .append) (xs:= #[.tmp 5,.tmp 6]) rfl ?_); at_builtin; refine Kd.R_append_rows (Kd.int .i64) (w0:=w) w.heap.size rfl (.tmp 5) (.tmp 6) 47 3 (.int .i64 0) 8 rfl Tryd.underlying47 info3 rfl zA2 zI v199 y198 l0 _ _ _ (fun _=>True) (fun _=>False) rfl rfl ?aO ?aR (fun _ _ h=>h) (fun _ h=>h.elim) ?aF ?aB ?aS ?aL ?_; (case aR=>repeat (first|exact (Kd.C_below HR0.out HB.out)|(with_reducible refine Kd.C_alloc ?_ _)|(with_reducible refine Kd.C_drewN ?_ _)|(with_reducible refine Kd.C_drew ?_))); (case aB=>exact zB); (case aF=>exact (fun _ _=>trivial)); (case aO=>exact (by (with_reducible repeat (first|apply Kd.R_alloc|apply Kd.R_drewN|apply Kd.R_drew)); exact HO200.out)); (case aS=>exact (AT zB)); (case aL=>have:=LMc3.out; omega); intro v202 w6 ho hb hg hat; rw [←Ny201.out] at ho; have n0_:=yA (hb); have n1_:=yA (ho); clear HB; clear HO200; have HB:=n0_; have HO203:=n1_; clear n0_ n1_; clear ho hb hg hat))
   go_ret
   exact ⟨_,by first|rfl|(simp [AZ,AY]<;>rfl)|(simp [*,AZ,AY]<;>rfl),by (with_reducible repeat (first|apply Kd.R_alloc|apply Kd.R_drewN|apply Kd.R_drew)); exact HO203.out,by repeat (first|(with_reducible first|exact HB.out|apply AE|apply AC|apply AD)|exact HB.out)⟩
  ·rw [if_neg c3] at H
   exact absurd H zA6
def BD.f (k:Nat) (l0:List Int) (a1:Int):Option (Bool):=(Ak.f k l0 a1).bind fun t204=>(some (decide (t204≥0)))
theorem BD.mono:∀a0 a1 k,LeO (BD.f k a0 a1) (BD.f (k+1) a0 a1):=by
 intro a0 a1 k
 unfold BD.f
 repeat' first
  |(with_reducible exact Ak.mono _ _ _)
  |(with_reducible exact LeO.refl _)
  |(with_reducible exact LeO.none _)
  |(with_reducible refine LeO.ite ?_ ?_)
  |(with_reducible refine LeO.bind ?_ (fun _=> ?_))
  |exact Ak.mono _ _ _
  |exact LeO.none _
  |refine LeO.ite ?_ ?_
  |refine LeO.bind ?_ (fun _=> ?_)
set_option maxHeartbeats 8000000 in
theorem BD.calls (k:Nat) (A0:Option Addr) (c0:Nat) (l0:List Int) (a1:Int) (r:Bool) (w:World) (hr0:Kd.C (Kd.int .i64) w A0 l0.length l0) (hc0:l0.length≤c0) (h:BD.f k l0 a1=some r):
  Calls Tryd.prog 42 #[.slice A0 l0.length c0,.int .i64 a1] w fun e w'=>e= .returned (.bool r)∧Drawn0 w w':=by
 have HR0:=yA hr0
 have HC0:=yA hc0
 clear hr0 hc0
 have H:((Ak.f k l0 a1).bind fun t204=>(some (decide (t204≥0))))=some r:=h
 clear h
 replace H:=Option.bind_eq_some_iff.mp H
 obtain ⟨t204,A30,H⟩:=H
 replace H:(some (decide (t204≥0)))=some r:=H
 have A3:=yA A30
 clear A30
 obtain rfl:=Option.some.inj H
 go_enter Tryd.func42,Tryd.ntmps42
 go_wp2_with (first|((with_reducible refine Ah (f:=58) rfl ?_); refine BB (some 7) rfl rfl Tryd.func58 zE rfl #[.slice A0 l0.length c0,.int .i64 a1] rfl zD ?_; (with_reducible refine (Ak.calls k _ _ l0 a1 t204 _ ?side1 ?side2 A3.out).mono ?_); (case side1=>repeat (first|exact HR0.out|(with_reducible refine Kd.C_alloc ?_ _)|(with_reducible refine Kd.C_drewN ?_ _)|(with_reducible refine Kd.C_drew ?_))); (case side2=>exact HC0.out); rintro e w' ⟨rfl,⟨nd,rfl⟩⟩; refine ⟨_,rfl,?_⟩))
 go_ret
 exact ⟨by first|rfl|(simp; done)|(simp [*]; done),by repeat (first|exact Drawn0.refl _|apply Drawn0.step)⟩
end Go.Proofs.YtdadecjefafflaaDoor.PChk
end
