/- A part of what the law's proof leans on. PACKED BY pack.py of this repo. -/
import Derived.Test.YtdadecjefafflaaDoorC0
set_option linter.unusedVariables false
set_option linter.unusedSimpArgs false
set_option linter.defProp false
set_option linter.unusedSectionVars false
section
namespace Go.Proofs.YtdadecjefafflaaDoor.PChk
set_option maxRecDepth 100000
open Go.RowKit Go.Proofs.YtdadecjefafflaaDoorW.PrintWords Go.Proofs.YtdadecjefafflaaDoorW.PrintLast Go.Proofs.YtdadecjefafflaaDoorW.PrintMore
attribute [local go_sem] Ba BX Be Bd BS BR BZ BW
def BC.f (A8:Int) (l0_1:List (S49)) (l1:List (S56)) (a2:Int):Option (Int):=if 0≤a2 then (if a2<(l1.length:Int) then (if a2<(l0_1.length:Int) then (some (wrap64 (((An l1 a2).f1)+((AM l0_1 a2).f1)))) else (none)) else (none)) else (none)
set_option maxHeartbeats 8000000 in
theorem BC.calls (A8:Int) (A0_1:Option Addr) (c0_1:Nat) (l0_1:List (S49)) (A1:Option Addr) (c1:Nat) (l1:List (S56)) (a2:Int) (r:Int) (w:World) (hr0_1:Kd.C k49 w A0_1 l0_1.length l0_1) (hc0_1:l0_1.length≤c0_1) (hr1:Kd.C k56 w A1 l1.length l1) (hc1:l1.length≤c1) (h:BC.f A8 l0_1 l1 a2=some r):
  Calls Tryd.prog 22 #[.agg #[.int .i64 A8,.slice A0_1 l0_1.length c0_1],.slice A1 l1.length c1,.int .i64 a2] w fun e w'=>e= .returned (.int .i64 r)∧Below w.heap.size w w':=by
 have hu33:=Tryd.underlying33
 have HR0_1:=yA hr0_1
 have HC0_1:=yA hc0_1
 clear hr0_1 hc0_1
 have HR1:=yA hr1
 have HC1:=yA hc1
 clear hr1 hc1
 have HB:=yA (Below.refl w.heap.size w)
 have H:(if 0≤a2 then (if a2<(l1.length:Int) then (if a2<(l0_1.length:Int) then (some (wrap64 (((An l1 a2).f1)+((AM l0_1 a2).f1)))) else (none)) else (none)) else (none))=some r:=h
 clear h
 by_cases c4:0≤a2
 ·rw [if_pos c4] at H
  have c4b0:decide (0≤a2)=true:=decide_eq_true c4
  clear c4
  by_cases c5:a2<(l1.length:Int)
  ·rw [if_pos c5] at H
   have c5b0:decide (a2<(l1.length:Int))=true:=decide_eq_true c5
   clear c5
   by_cases c6:a2<(l0_1.length:Int)
   ·rw [if_pos c6] at H
    have c6b0:decide (a2<(l0_1.length:Int))=true:=decide_eq_true c6
    clear c6
    obtain rfl:=Option.some.inj H
    go_enter Tryd.func22,Tryd.ntmps22
    go_wp2_with (first|((with_reducible refine Ar (N:=3) rfl ?_); refine Ap ?hg (N:=3) ?hd (cs:= #[.int .i64 A8,.slice A0_1 l0_1.length c0_1]) (t:=33) ?hr ?_; (case hd=>rfl); (case hg=>rfl); (case hr=>first|(go_simp; done)|(go_simp; rfl)); intro gb114 hg w7 hbox hb; have n0_:=yA (AO zB hb); have n1_:=yA (hbox); have n2_:=yA ((by rw [hg]; exact (AT zB):w.heap.size≤gb114)); have n3_:=yA ((by rw [hg]; exact (AT zB):w.heap.size≤gb114)); clear HB; have HB:=n0_; have BK114:=n1_; have GW114:=n2_; have GE114:=n3_; clear n0_ n1_ n2_ n3_; clear hb hbox hg; have p115:0≤(a2:Int):=yD; have q115:a2<(l1.length:Int):=yD; obtain ⟨ad115,e115,hx115_0,hx115_1⟩:=Bh HR1.out a2 p115 q115; cases e115; replace hx115_0:=yC HB.out hx115_0; replace hx115_1:=yC HB.out hx115_1; replace p115:=eq_true p115; replace q115:=eq_true q115; have hcz8_0:w7.cell? ⟨gb114,0,none⟩=some (.int .i64 A8):=(AK BK114.out 0).trans rfl; have hcz8_1:w7.cell? ⟨gb114,1,none⟩=some (.slice A0_1 l0_1.length c0_1):=(AK BK114.out 1).trans rfl; have hfz8_0:=AJ BK114.out 0; have hfz8_1:=AJ BK114.out 1; have p116:0≤(a2:Int):=yD; have q116:a2<(l0_1.length:Int):=yD; obtain ⟨ad116,A116_3,c116_3,e116,hx116_0,hx116_1,hx116_2,hx116_3,hl116_3,hi116_3⟩:=C9 HR0_1.out a2 p116 q116; cases e116; replace hx116_0:=yC HB.out hx116_0; replace hx116_1:=yC HB.out hx116_1; replace hx116_2:=yC HB.out hx116_2; replace hx116_3:=yC HB.out hx116_3; have HR116_3:=yA hi116_3; have HC116_3:=yA hl116_3; clear hi116_3 hl116_3; replace p116:=eq_true p116; replace q116:=eq_true q116))
    repeat (go_quiet (first|((with_reducible refine Ar (N:=3) rfl ?_); refine Ap ?hg (N:=3) ?hd (cs:= #[.int .i64 A8,.slice A0_1 l0_1.length c0_1]) (t:=33) ?hr ?_; (case hd=>rfl); (case hg=>rfl); (case hr=>first|(go_simp; done)|(go_simp; rfl)); intro gb114 hg w7 hbox hb; have n0_:=yA (AO zB hb); have n1_:=yA (hbox); have n2_:=yA ((by rw [hg]; exact (AT zB):w.heap.size≤gb114)); have n3_:=yA ((by rw [hg]; exact (AT zB):w.heap.size≤gb114)); clear HB; have HB:=n0_; have BK114:=n1_; have GW114:=n2_; have GE114:=n3_; clear n0_ n1_ n2_ n3_; clear hb hbox hg; have p115:0≤(a2:Int):=yD; have q115:a2<(l1.length:Int):=yD; obtain ⟨ad115,e115,hx115_0,hx115_1⟩:=Bh HR1.out a2 p115 q115; cases e115; replace hx115_0:=yC HB.out hx115_0; replace hx115_1:=yC HB.out hx115_1; replace p115:=eq_true p115; replace q115:=eq_true q115; have hcz8_0:w7.cell? ⟨gb114,0,none⟩=some (.int .i64 A8):=(AK BK114.out 0).trans rfl; have hcz8_1:w7.cell? ⟨gb114,1,none⟩=some (.slice A0_1 l0_1.length c0_1):=(AK BK114.out 1).trans rfl; have hfz8_0:=AJ BK114.out 0; have hfz8_1:=AJ BK114.out 1; have p116:0≤(a2:Int):=yD; have q116:a2<(l0_1.length:Int):=yD; obtain ⟨ad116,A116_3,c116_3,e116,hx116_0,hx116_1,hx116_2,hx116_3,hl116_3,hi116_3⟩:=C9 HR0_1.out a2 p116 q116; cases e116; replace hx116_0:=yC HB.out hx116_0; replace hx116_1:=yC HB.out hx116_1; replace hx116_2:=yC HB.out hx116_2; replace hx116_3:=yC HB.out hx116_3; have HR116_3:=yA hi116_3; have HC116_3:=yA hl116_3; clear hi116_3 hl116_3; replace p116:=eq_true p116; replace q116:=eq_true q116)); try go_wp2_with (first|((with_reducible refine Ar (N:=3) rfl ?_); refine Ap ?hg (N:=3) ?hd (cs:= #[.int .i64 A8,.slice A0_1 l0_1.length c0_1]) (t:=33) ?hr ?_; (case hd=>rfl); (case hg=>rfl); (case hr=>first|(go_simp; done)|(go_simp; rfl)); intro gb114 hg w7 hbox hb; have n0_:=yA (AO zB hb); have n1_:=yA (hbox); have n2_:=yA ((by rw [hg]; exact (AT zB):w.heap.size≤gb114)); have n3_:=yA ((by rw [hg]; exact (AT zB):w.heap.size≤gb114)); clear HB; have HB:=n0_; have BK114:=n1_; have GW114:=n2_; have GE114:=n3_; clear n0_ n1_ n2_ n3_; clear hb hbox hg; have p115:0≤(a2:Int):=yD; have q115:a2<(l1.length:Int):=yD; obtain ⟨ad115,e115,hx115_0,hx115_1⟩:=Bh HR1.out a2 p115 q115; cases e115; replace hx115_0:=yC HB.out hx115_0; replace hx115_1:=yC HB.out hx115_1; replace p115:=eq_true p115; replace q115:=eq_true q115; have hcz8_0:w7.cell? ⟨gb114,0,none⟩=some (.int .i64 A8):=(AK BK114.out 0).trans rfl; have hcz8_1:w7.cell? ⟨gb114,1,none⟩=some (.slice A0_1 l0_1.length c0_1):=(AK BK114.out 1).trans rfl; have hfz8_0:=AJ BK114.out 0; have hfz8_1:=AJ BK114.out 1; have p116:0≤(a2:Int):=yD; have q116:a2<(l0_1.length:Int):=yD; obtain ⟨ad116,A116_3,c116_3,e116,hx116_0,hx116_1,hx116_2,hx116_3,hl116_3,hi116_3⟩:=C9 HR0_1.out a2 p116 q116; cases e116; replace hx116_0:=yC HB.out hx116_0; replace hx116_1:=yC HB.out hx116_1; replace hx116_2:=yC HB.out hx116_2; replace hx116_3:=yC HB.out hx116_3; have HR116_3:=yA hi116_3; have HC116_3:=yA hl116_3; clear hi116_3 hl116_3; replace p116:=eq_true p116; replace q116:=eq_true q116)))
    go_ret
    exact ⟨by first|rfl|(simp [AZ,AY]<;>rfl)|(simp [*,AZ,AY]<;>rfl),by repeat (first|(with_reducible first|exact HB.out|apply AE|apply AC|apply AD|refine AI ?_ GE114.out)|exact HB.out)⟩
   ·rw [if_neg c6] at H
    exact absurd H zA6
  ·rw [if_neg c5] at H
   exact absurd H zA6
 ·rw [if_neg c4] at H
  exact absurd H zA6
end Go.Proofs.YtdadecjefafflaaDoor.PChk
end
section
namespace Go.Proofs.YtdadecjefafflaaDoor.PChk
set_option maxRecDepth 100000
open Go.RowKit Go.Proofs.YtdadecjefafflaaDoorW.PrintWords Go.Proofs.YtdadecjefafflaaDoorW.PrintLast Go.Proofs.YtdadecjefafflaaDoorW.PrintMore
attribute [local go_sem] Ba BX Be Bd BS BR BZ BW
mutual
def Ac.l0:Nat→List (S56)→Int→Int→Int→List (S49)→Option (Bool)
 |0,_,_,_,_,_=>none
 |k+1,x1,x8,x9,x118000,x118001=>if x9<x8 then (Ac.l1 k x1 x9 x8 x9 x9 0 x118000 x118001) else (some false)
def Ac.l1:Nat→List (S56)→Int→Int→Int→Int→Int→Int→List (S49)→Option (Bool)
 |0,_,_,_,_,_,_,_,_=>none
 |k+1,x1,x5,x8,x9,x12,x13,x118000,x118001=>if x13<x12 then (if 0≤x5 then (if x5<(x1.length:Int) then (if 0≤x13 then (if x13<(x1.length:Int) then (if ((An x1 x5).f0)=((An x1 x13).f0) then ((BC.f x118000 x118001 x1 x13).bind fun t121=>(if ((An x1 x5).f1)<t121 then ((BC.f x118000 x118001 x1 x5).bind fun t123=>(if ((An x1 x13).f1)<t123 then (some true) else (Ac.l1 k x1 x5 x8 x9 x12 (wrap64 (x13+1)) x118000 x118001))) else (Ac.l1 k x1 x5 x8 x9 x12 (wrap64 (x13+1)) x118000 x118001))) else (Ac.l1 k x1 x5 x8 x9 x12 (wrap64 (x13+1)) x118000 x118001)) else (none)) else (none)) else (none)) else (none)) else (Ac.l0 k x1 x8 (wrap64 (x9+1)) x118000 x118001)
end
def Ac.f (k:Nat) (A8:Int) (l0_1:List (S49)) (l1:List (S56)):Option (Bool):=Ac.l0 k l1 (l1.length:Int) 0 A8 l0_1
theorem Ac.mono_l:∀k,(∀y0 y1 y2 y3 y4,LeO (Ac.l0 k y0 y1 y2 y3 y4) (Ac.l0 (k+1) y0 y1 y2 y3 y4))∧(∀y0 y1 y2 y3 y4 y5 y6 y7,LeO (Ac.l1 k y0 y1 y2 y3 y4 y5 y6 y7) (Ac.l1 (k+1) y0 y1 y2 y3 y4 y5 y6 y7))
 |0=>⟨fun _ _ _ _ _ r h=>by simp [Ac.l0] at h,fun _ _ _ _ _ _ _ _ r h=>by simp [Ac.l1] at h⟩
 | k +1=>by
  obtain ⟨ih0,ih1⟩:=Ac.mono_l k
  refine ⟨?_,?_⟩
  ·intro y0 y1 y2 y3 y4
   unfold Ac.l0
   repeat' first
   |(with_reducible exact ih0 _ _ _ _ _)
   |(with_reducible exact ih1 _ _ _ _ _ _ _ _)
   |(with_reducible exact LeO.refl _)
   |(with_reducible exact LeO.none _)
   |(with_reducible refine LeO.ite ?_ ?_)
   |(with_reducible refine LeO.bind ?_ (fun _=> ?_))
   |exact ih0 _ _ _ _ _
   |exact ih1 _ _ _ _ _ _ _ _
   |exact LeO.none _
   |refine LeO.ite ?_ ?_
   |refine LeO.bind ?_ (fun _=> ?_)
  ·intro y0 y1 y2 y3 y4 y5 y6 y7
   unfold Ac.l1
   repeat' first
   |(with_reducible exact ih0 _ _ _ _ _)
   |(with_reducible exact ih1 _ _ _ _ _ _ _ _)
   |(with_reducible exact LeO.refl _)
   |(with_reducible exact LeO.none _)
   |(with_reducible refine LeO.ite ?_ ?_)
   |(with_reducible refine LeO.bind ?_ (fun _=> ?_))
   |exact ih0 _ _ _ _ _
   |exact ih1 _ _ _ _ _ _ _ _
   |exact LeO.none _
   |refine LeO.ite ?_ ?_
   |refine LeO.bind ?_ (fun _=> ?_)
theorem Ac.mono:∀a0 a1 a2 k,LeO (Ac.f k a0 a1 a2) (Ac.f (k+1) a0 a1 a2):=by
 intro a0 a1 a2 k
 obtain ⟨ih0,ih1⟩:=Ac.mono_l k
 unfold Ac.f
 repeat' first
  |(with_reducible exact ih0 _ _ _ _ _)
  |(with_reducible exact ih1 _ _ _ _ _ _ _ _)
  |(with_reducible exact LeO.refl _)
  |(with_reducible exact LeO.none _)
  |(with_reducible refine LeO.ite ?_ ?_)
  |(with_reducible refine LeO.bind ?_ (fun _=> ?_))
  |exact ih0 _ _ _ _ _
  |exact ih1 _ _ _ _ _ _ _ _
  |exact LeO.none _
  |refine LeO.ite ?_ ?_
  |refine LeO.bind ?_ (fun _=> ?_)
def Ac.T7:Bool×List (List Nat×List Nat):=(true,[([],[]),([],[]),([0,1],[0,1]),([2],[2]),([3],[3]),([],[]),([],[]),([5,6],[5,6]),([7],[7]),([8],[8]),([4,9],[4,9]),([10],[10]),([11],[11]),([11],[11]),([12,13,11],[11,12,13]),([14,11],[11,14]),([15,11],[11,15]),([11],[11]),([11],[11]),([11],[11]),([17,18,19,11,11],[11,17,18,19]),([16,20,11],[11,16,20]),([11,21],[11,21]),([22,20],[22]),([23],[23]),([23],[23]),([24,25,23],[23,24,25]),([26,23],[23,26]),([27,23],[23,27]),([23],[23]),([23],[23]),([23],[23]),([29,30,31,23,23],[23,29,30,31]),([28,32,23],[23,28,32]),([23,33],[23,33])])
def Ac.B7:List Nat:=[0,0,3,7,15,0,0,96,224,480,1023,2047,4095,4095,16383,32767,65535,4095,4095,4095,921599,2097151,4194303,8388607,16777215,16777215,67108863,134217727,268435455,16777215,16777215,16777215,3774873599,8589934591,17179869183]
theorem Ac.tab7:rtab .any (Cq Tryd.f35 7)=Ac.T7:=by kernel_rfl
theorem Ac.bits7:Bz Ac.T7.2 Ac.B7=true:=by kernel_rfl
set_option maxHeartbeats 8000000 in
theorem Ac.calls (k:Nat) (A8:Int) (A0_1:Option Addr) (c0_1:Nat) (l0_1:List (S49)) (A1:Option Addr) (c1:Nat) (l1:List (S56)) (r:Bool) (w:World) (hr0_1:Kd.C k49 w A0_1 l0_1.length l0_1) (hc0_1:l0_1.length≤c0_1) (hr1:Kd.C k56 w A1 l1.length l1) (hc1:l1.length≤c1) (h:Ac.f k A8 l0_1 l1=some r):
  Calls Tryd.prog 35 #[.agg #[.int .i64 A8,.slice A0_1 l0_1.length c0_1],.slice A1 l1.length c1] w fun e w'=>e= .returned (.bool r)∧Below w.heap.size w w':=by
 have hu33:=Tryd.underlying33
 have HR0_1:=yA hr0_1
 have HC0_1:=yA hc0_1
 clear hr0_1 hc0_1
 have HR1:=yA hr1
 have HC1:=yA hc1
 clear hr1 hc1
 have HB:=yA (Below.refl w.heap.size w)
 have H:(Ac.l0 k l1 (l1.length:Int) 0 A8 l0_1)=some r:=h
 clear h
 have H':=yA H
 clear H
 go_enter Tryd.func35,Tryd.ntmps35
 go_wp2_with (first|((with_reducible refine Ar (N:=2) rfl ?_); refine Ap ?hg (N:=2) ?hd (cs:= #[.int .i64 A8,.slice A0_1 l0_1.length c0_1]) (t:=33) ?hr ?_; (case hd=>rfl); (case hg=>rfl); (case hr=>first|(go_simp; done)|(go_simp; rfl)); intro gb117 hg w3 hbox hb; have n0_:=yA (AO zB hb); have n1_:=yA (hbox); have n2_:=yA ((by rw [hg]; exact (AT zB):w.heap.size≤gb117)); have n3_:=yA ((by rw [hg]; exact (AT zB):w.heap.size≤gb117)); clear HB; have HB:=n0_; have BK117:=n1_; have GW117:=n2_; have GE117:=n3_; clear n0_ n1_ n2_ n3_; clear hb hbox hg))
 go_loopg [9] k (fun kq v9 w'=>∃(x9_1:Int),v9= .int .i64 x9_1∧Aside0 (Ac.l0 kq l1 (l1.length:Int) x9_1 A8 l0_1=some r)∧Aside0 (kq≤k)∧Aside0 (w'.heap[gb117]? =some (.cells #[.int .i64 A8,(.slice A0_1 l0_1.length c0_1)] 33 (0,0)))∧Aside0 (Below w.heap.size w w'))
 case atStart=>exact ⟨(0),zG,H',⟨Nat.le_refl _⟩,⟨by (with_reducible repeat (first|refine AG ?_ _|refine AH ?_|refine AF ?_ _)); exact BK117.out⟩,⟨by repeat (first|(with_reducible first|exact HB.out|apply AE|apply AC|apply AD|refine AI ?_ GE117.out)|exact HB.out)⟩⟩
 case round=>
  clear H'
  try clear c1
  try clear p2
  try clear c3
  obtain ⟨x9_1,rfl,HA,HK1,BK117,HB⟩:=hrel
  cases gk with
  |zero=>exact absurd HA.out (by simp [Ac.l0])
  | succ k1 =>
   have H:=HA.out
   clear HA
   simp only [Ac.l0] at H
   by_cases c4:x9_1<(l1.length:Int)
   ·rw [if_pos c4] at H
    have c4b0:decide (x9_1<(l1.length:Int))=true:=decide_eq_true c4
    clear c4
    have H':=yA H
    clear H
    go_wp2
    go_loopg [13] k1 (fun kq v13 w'=>∃(x13_2:Int),v13= .int .i64 x13_2∧Aside0 (Ac.l1 kq l1 x9_1 (l1.length:Int) x9_1 x9_1 x13_2 A8 l0_1=some r)∧Aside0 (kq≤k1)∧Aside0 (w'.heap[gb117]? =some (.cells #[.int .i64 A8,(.slice A0_1 l0_1.length c0_1)] 33 (0,0)))∧Aside0 (Below w.heap.size w w'))
    case atStart=>exact ⟨(0),zG,H',⟨Nat.le_refl _⟩,⟨by (with_reducible repeat (first|refine AG ?_ _|refine AH ?_|refine AF ?_ _)); exact BK117.out⟩,⟨by repeat (first|(with_reducible first|exact HB.out|apply AE|apply AC|apply AD|refine AI ?_ GE117.out)|exact HB.out)⟩⟩
    case round=>
     clear H'
     try clear c1
     try clear p2
     try clear c3
     try clear c4
     try clear c4b0
     try clear p2
     obtain ⟨x13_2,rfl,HA,HK2,BK117,HB⟩:=hrel
     cases gk with
     |zero=>exact absurd HA.out (by simp [Ac.l1])
     | succ k2 =>
      have H:=HA.out
      clear HA
      simp only [Ac.l1] at H
      by_cases c5:x13_2<x9_1
      ·rw [if_pos c5] at H
       have c5b0:decide (x13_2<x9_1)=true:=decide_eq_true c5
       clear c5
       by_cases c6:0≤x9_1
       ·rw [if_pos c6] at H
        have c6b0:decide (0≤x9_1)=true:=decide_eq_true c6
        clear c6
        by_cases c7:x9_1<(l1.length:Int)
        ·rw [if_pos c7] at H
         have c7b0:decide (x9_1<(l1.length:Int))=true:=decide_eq_true c7
         clear c7
         by_cases c8:0≤x13_2
         ·rw [if_pos c8] at H
          have c8b0:decide (0≤x13_2)=true:=decide_eq_true c8
          clear c8
          by_cases c9:x13_2<(l1.length:Int)
          ·rw [if_pos c9] at H
           have c9b0:decide (x13_2<(l1.length:Int))=true:=decide_eq_true c9
           clear c9
           by_cases c10:((An l1 x9_1).f0)=((An l1 x13_2).f0)
           ·rw [if_pos c10] at H
            have c10b0:(((An l1 x9_1).f0)==((An l1 x13_2).f0))=true:=beq_iff_eq.mpr c10
            have c10b1:(((An l1 x9_1).f0) !=((An l1 x13_2).f0))=false:=bne_eq_false_iff_eq.mpr c10
            clear c10
            replace H:=Option.bind_eq_some_iff.mp H
            obtain ⟨t121,A110,H⟩:=H
            replace H:(if ((An l1 x9_1).f1)<t121 then ((BC.f A8 l0_1 l1 x9_1).bind fun t123=>(if ((An l1 x13_2).f1)<t123 then (some true) else (Ac.l1 k2 l1 x9_1 (l1.length:Int) x9_1 x9_1 (wrap64 (x13_2+1)) A8 l0_1))) else (Ac.l1 k2 l1 x9_1 (l1.length:Int) x9_1 x9_1 (wrap64 (x13_2+1)) A8 l0_1))=some r:=H
            have A11:=yA A110
            clear A110
            by_cases c12:((An l1 x9_1).f1)<t121
            ·rw [if_pos c12] at H
             have c12b0:decide (((An l1 x9_1).f1)<t121)=true:=decide_eq_true c12
             clear c12
             replace H:=Option.bind_eq_some_iff.mp H
             obtain ⟨t123,A130,H⟩:=H
             replace H:(if ((An l1 x13_2).f1)<t123 then (some true) else (Ac.l1 k2 l1 x9_1 (l1.length:Int) x9_1 x9_1 (wrap64 (x13_2+1)) A8 l0_1))=some r:=H
             have A13:=yA A130
             clear A130
             by_cases c14:((An l1 x13_2).f1)<t123
             ·rw [if_pos c14] at H
              have c14b0:decide (((An l1 x13_2).f1)<t123)=true:=decide_eq_true c14
              clear c14
              obtain rfl:=Option.some.inj H
              try go_wp2
              have n0_:=yA (AH BK117.out)
              have n1_:=yA (AD HB.out)
              clear BK117
              clear HB
              have BK117:=n0_
              have HB:=n1_
              clear n0_ n1_
              have p118:0≤(x9_1:Int):=yD
              have q118:x9_1<(l1.length:Int):=yD
              obtain ⟨ad118,e118,hx118_0,hx118_1⟩:=Bh HR1.out x9_1 p118 q118
              have hw118_1:=hx118_1
              have hw118_0:=hx118_0
              cases e118
              replace hx118_0:=yC HB.out hx118_0
              replace hx118_1:=yC HB.out hx118_1
              replace p118:=eq_true p118
              replace q118:=eq_true q118
              have p119:0≤(x13_2:Int):=yD
              have q119:x13_2<(l1.length:Int):=yD
              obtain ⟨ad119,e119,hx119_0,hx119_1⟩:=Bh HR1.out x13_2 p119 q119
              have hw119_1:=hx119_1
              have hw119_0:=hx119_0
              obtain rfl:ad118=ad119:=(by injection e119)
              replace hx119_0:=yC HB.out hx119_0
              replace hx119_1:=yC HB.out hx119_1
              replace p119:=eq_true p119
              replace q119:=eq_true q119
              have p120:0≤(x9_1:Int):=yD
              have q120:x9_1<(l1.length:Int):=yD
              obtain ⟨ad120,e120,hx120_0,hx120_1⟩:=Bh HR1.out x9_1 p120 q120
              have hw120_1:=hx120_1
              have hw120_0:=hx120_0
              obtain rfl:ad118=ad120:=(by injection e120)
              replace hx120_0:=yC HB.out hx120_0
              replace hx120_1:=yC HB.out hx120_1
              replace p120:=eq_true p120
              replace q120:=eq_true q120
              have p122:0≤(x13_2:Int):=yD
              have q122:x13_2<(l1.length:Int):=yD
              obtain ⟨ad122,e122,hx122_0,hx122_1⟩:=Bh HR1.out x13_2 p122 q122
              have hw122_1:=hx122_1
              have hw122_0:=hx122_0
              obtain rfl:ad118=ad122:=(by injection e122)
              replace hx122_0:=yC HB.out hx122_0
              replace hx122_1:=yC HB.out hx122_1
              replace p122:=eq_true p122
              replace q122:=eq_true q122
              refine Bp (n:=35) (S:=fun w'=>w'.cell? ⟨gb117,0,none⟩=some (.int .i64 A8)∧w'.cell? ⟨gb117,1,none⟩=some (.slice A0_1 l0_1.length c0_1)∧w'.cell? (ad118.add ((x9_1).toNat*2))=some (.int .i64 ((An l1 x9_1).f0))∧w'.cell? ⟨(ad118.add ((x9_1).toNat*2)).block,(ad118.add ((x9_1).toNat*2)).off+1,none⟩=some (.int .i64 ((An l1 x9_1).f1))∧w'.cell? (ad118.add ((x13_2).toNat*2))=some (.int .i64 ((An l1 x13_2).f0))∧w'.cell? ⟨(ad118.add ((x13_2).toNat*2)).block,(ad118.add ((x13_2).toNat*2)).off+1,none⟩=some (.int .i64 ((An l1 x13_2).f1))∧w'.cell? (ad118.add ((x9_1).toNat*2))=some (.int .i64 ((An l1 x9_1).f0))∧w'.cell? ⟨(ad118.add ((x9_1).toNat*2)).block,(ad118.add ((x9_1).toNat*2)).off+1,none⟩=some (.int .i64 ((An l1 x9_1).f1))∧w'.cell? (ad118.add ((x13_2).toNat*2))=some (.int .i64 ((An l1 x13_2).f0))∧w'.cell? ⟨(ad118.add ((x13_2).toNat*2)).block,(ad118.add ((x13_2).toNat*2)).off+1,none⟩=some (.int .i64 ((An l1 x13_2).f1))) (ds:=[]) #[false,false,false,false,false,false,false,false,false,false,false,false,false,false,false,false,false,false,false,false,false,false,false,false,false,false,false,false,false,false,false,false,false,false,false] zE rfl rfl ⟨(AK BK117.out 0).trans rfl,(AK BK117.out 1).trans rfl,(yC HB.out hw118_0),(yC HB.out hw118_1),(yC HB.out hw119_0),(yC HB.out hw119_1),(yC HB.out hw120_0),(yC HB.out hw120_1),(yC HB.out hw122_0),(yC HB.out hw122_1)⟩ (fun hHeld=> ?_); refine BU Ac.tab7 Ac.bits7 (fun HT_ HW_=> ?_)
              generalize wr.drew=w15 at BK117 HB hx118_0 hx118_1 hx119_0 hx119_1 hx120_0 hx120_1 hx122_0 hx122_1 hHeld ⊢
              refine AX (i:=0) (N:=some 16) (v:= ?_) (a':= ?_) #[true,false,false,false,false,false,false,false,false,false,false,false,false,false,false,false,false,false,false,false,false,false,false,false,false,false,false,false,false,false,false,false,false,false,false] rfl rfl (AQ HT_.out zE) (fun _ _ _ h=>h) (Or.inl ⟨by rfl,?_⟩) ?_ ?_; rotate_left; intro w'; go_simp; with_reducible rfl; rotate_left; exact yB
              refine AX (i:=1) (N:=some 17) (v:= ?_) (a':= ?_) #[true,true,false,false,false,false,false,false,false,false,false,false,false,false,false,false,false,false,false,false,false,false,false,false,false,false,false,false,false,false,false,false,false,false,false] rfl rfl (AQ HT_.out zE) (fun _ _ _ h=>h) (Or.inl ⟨by rfl,?_⟩) ?_ ?_; rotate_left; intro w'; go_simp; with_reducible rfl; rotate_left; exact yB
              refine AX (i:=2) (N:=some 18) (v:= ?_) (a':= ?_) #[true,true,true,false,false,false,false,false,false,false,false,false,false,false,false,false,false,false,false,false,false,false,false,false,false,false,false,false,false,false,false,false,false,false,false] rfl rfl (AQ HT_.out zE) (fun _ _ _ h=>h) (Or.inl ⟨by rfl,?_⟩) ?_ ?_; rotate_left; intro w'; go_simp; with_reducible rfl; rotate_left; exact yB
              refine AX (i:=3) (N:=some 19) (v:= ?_) (a':= ?_) #[true,true,true,true,false,false,false,false,false,false,false,false,false,false,false,false,false,false,false,false,false,false,false,false,false,false,false,false,false,false,false,false,false,false,false] rfl rfl (AQ HT_.out zE) (fun _ _ _ h=>h) (Or.inl ⟨by rfl,?_⟩) ?_ ?_; rotate_left; intro w'; go_simp; with_reducible rfl; rotate_left; exact yB
              refine AX (i:=5) (N:=some 21) (v:= ?_) (a':= ?_) #[true,true,true,true,false,true,false,false,false,false,false,false,false,false,false,false,false,false,false,false,false,false,false,false,false,false,false,false,false,false,false,false,false,false,false] rfl rfl (AQ HT_.out zE) (fun _ _ _ h=>h) (Or.inl ⟨by rfl,?_⟩) ?_ ?_; rotate_left; intro w'; go_simp; with_reducible rfl; rotate_left; exact yB
              refine AX (i:=6) (N:=some 22) (v:= ?_) (a':= ?_) #[true,true,true,true,false,true,true,false,false,false,false,false,false,false,false,false,false,false,false,false,false,false,false,false,false,false,false,false,false,false,false,false,false,false,false] rfl rfl (AQ HT_.out zE) (fun _ _ _ h=>h) (Or.inl ⟨by rfl,?_⟩) ?_ ?_; rotate_left; intro w'; go_simp; with_reducible rfl; rotate_left; exact yB
              refine AX (i:=7) (N:=some 23) (v:= ?_) (a':= ?_) #[true,true,true,true,false,true,true,true,false,false,false,false,false,false,false,false,false,false,false,false,false,false,false,false,false,false,false,false,false,false,false,false,false,false,false] rfl rfl (AQ HT_.out zE) (fun _ _ _ h=>h) (Or.inl ⟨by rfl,?_⟩) ?_ ?_; rotate_left; intro w'; go_simp; with_reducible rfl; rotate_left; exact yB
              refine AX (i:=8) (N:=some 24) (v:= ?_) (a':= ?_) #[true,true,true,true,false,true,true,true,true,false,false,false,false,false,false,false,false,false,false,false,false,false,false,false,false,false,false,false,false,false,false,false,false,false,false] rfl rfl (AQ HT_.out zE) (fun _ _ _ h=>h) (Or.inl ⟨by rfl,?_⟩) ?_ ?_; rotate_left; intro w'; go_simp; with_reducible rfl; rotate_left; exact yB
              refine BK (i:=4) (N:=some 20) (v:= ?_) (a':= ?_) #[true,true,true,true,true,true,true,true,true,false,false,false,false,false,false,false,false,false,false,false,false,false,false,false,false,false,false,false,false,false,false,false,false,false,false] rfl rfl (B4 HT_.out HW_.out zE) (fun _ _ _ h=>h) (Or.inl ⟨by rfl,?_⟩) hHeld ?_ ?_; rotate_left; rintro w' ⟨s0,s1,s2,s3,s4,s5,s6,s7,s8,s9⟩; go_simp; with_reducible rfl; rotate_left; exact yB
              refine BK (i:=9) (N:=some 25) (v:= ?_) (a':= ?_) #[true,true,true,true,true,true,true,true,true,true,false,false,false,false,false,false,false,false,false,false,false,false,false,false,false,false,false,false,false,false,false,false,false,false,false] rfl rfl (B4 HT_.out HW_.out zE) (fun _ _ _ h=>h) (Or.inl ⟨by rfl,?_⟩) hHeld ?_ ?_; rotate_left; rintro w' ⟨s0,s1,s2,s3,s4,s5,s6,s7,s8,s9⟩; go_simp; with_reducible rfl; rotate_left; exact yB
              refine AX (i:=10) (N:=some 26) (v:= ?_) (a':= ?_) #[true,true,true,true,true,true,true,true,true,true,true,false,false,false,false,false,false,false,false,false,false,false,false,false,false,false,false,false,false,false,false,false,false,false,false] rfl rfl (AQ HT_.out zE) (fun _ _ _ h=>h) (Or.inl ⟨by rfl,?_⟩) ?_ ?_; rotate_left; intro w'; go_simp; with_reducible rfl; rotate_left; exact yB
              refine AX (i:=11) (N:=some 27) (v:= ?_) (a':= ?_) #[true,true,true,true,true,true,true,true,true,true,true,true,false,false,false,false,false,false,false,false,false,false,false,false,false,false,false,false,false,false,false,false,false,false,false] rfl rfl (AQ HT_.out zE) (fun _ _ _ h=>h) (Or.inl ⟨by rfl,?_⟩) ?_ ?_; rotate_left; intro w'; go_simp; with_reducible rfl; rotate_left; exact yB
              refine AX (i:=12) (N:=some 28) (v:= ?_) (a':= ?_) #[true,true,true,true,true,true,true,true,true,true,true,true,true,false,false,false,false,false,false,false,false,false,false,false,false,false,false,false,false,false,false,false,false,false,false] rfl rfl (AQ HT_.out zE) (fun _ _ _ h=>h) (Or.inl ⟨by rfl,?_⟩) ?_ ?_; rotate_left; intro w'; go_simp; with_reducible rfl; rotate_left; exact yB
              refine AX (i:=13) (N:=some 29) (v:= ?_) (a':= ?_) #[true,true,true,true,true,true,true,true,true,true,true,true,true,true,false,false,false,false,false,false,false,false,false,false,false,false,false,false,false,false,false,false,false,false,false] rfl rfl (AQ HT_.out zE) (fun _ _ _ h=>h) (Or.inl ⟨by rfl,?_⟩) ?_ ?_; rotate_left; intro w'; go_simp; with_reducible rfl; rotate_left; exact yB
              refine AX (i:=14) (N:=some 30) (v:= ?_) (a':= ?_) #[true,true,true,true,true,true,true,true,true,true,true,true,true,true,true,false,false,false,false,false,false,false,false,false,false,false,false,false,false,false,false,false,false,false,false] rfl rfl (AQ HT_.out zE) (fun _ _ _ h=>h) (Or.inl ⟨by rfl,?_⟩) ?_ ?_; rotate_left; intro w'; go_simp; with_reducible rfl; rotate_left; exact yB
              refine AX (i:=15) (N:=some 31) (v:= ?_) (a':= ?_) #[true,true,true,true,true,true,true,true,true,true,true,true,true,true,true,true,false,false,false,false,false,false,false,false,false,false,false,false,false,false,false,false,false,false,false] rfl rfl (AQ HT_.out zE) (fun _ _ _ h=>h) (Or.inl ⟨by rfl,?_⟩) ?_ ?_; rotate_left; intro w'; go_simp; with_reducible rfl; rotate_left; exact yB
              refine AX (i:=18) (N:=some 34) (v:= ?_) (a':= ?_) #[true,true,true,true,true,true,true,true,true,true,true,true,true,true,true,true,false,false,true,false,false,false,false,false,false,false,false,false,false,false,false,false,false,false,false] rfl rfl (AQ HT_.out zE) (fun _ _ _ h=>h) (Or.inl ⟨by rfl,?_⟩) ?_ ?_; rotate_left; intro w'; go_simp; with_reducible rfl; rotate_left; exact yB
              refine AX (i:=19) (N:=some 35) (v:= ?_) (a':= ?_) #[true,true,true,true,true,true,true,true,true,true,true,true,true,true,true,true,false,false,true,true,false,false,false,false,false,false,false,false,false,false,false,false,false,false,false] rfl rfl (AQ HT_.out zE) (fun _ _ _ h=>h) (Or.inl ⟨by rfl,?_⟩) ?_ ?_; rotate_left; intro w'; go_simp; with_reducible rfl; rotate_left; exact yB
              refine BK (i:=16) (N:=some 32) (v:= ?_) (a':= ?_) #[true,true,true,true,true,true,true,true,true,true,true,true,true,true,true,true,true,false,true,true,false,false,false,false,false,false,false,false,false,false,false,false,false,false,false] rfl rfl (B4 HT_.out HW_.out zE) (fun _ _ _ h=>h) (Or.inl ⟨by rfl,?_⟩) hHeld ?_ ?_; rotate_left; rintro w' ⟨s0,s1,s2,s3,s4,s5,s6,s7,s8,s9⟩; go_simp; with_reducible rfl; rotate_left; exact yB
              refine BK (i:=17) (N:=some 33) (v:= ?_) (a':= ?_) #[true,true,true,true,true,true,true,true,true,true,true,true,true,true,true,true,true,true,true,true,false,false,false,false,false,false,false,false,false,false,false,false,false,false,false] rfl rfl (B4 HT_.out HW_.out zE) (fun _ _ _ h=>h) (Or.inl ⟨by rfl,?_⟩) hHeld ?_ ?_; rotate_left; rintro w' ⟨s0,s1,s2,s3,s4,s5,s6,s7,s8,s9⟩; go_simp; with_reducible rfl; rotate_left; exact yB
              refine one_ (i:=20) (N:=some 36) #[true,true,true,true,true,true,true,true,true,true,true,true,true,true,true,true,true,true,true,true,true,false,false,false,false,false,false,false,false,false,false,false,false,false,false] rfl rfl (Bi HT_.out zE) zA2 (fun K hK=> ?_)
              refine C1 Tryd.func22 zE rfl #[.agg #[.int .i64 A8,.slice A0_1 l0_1.length c0_1],.slice (some ad118) l1.length c1,.int .i64 x13_2] (by rfl) rfl rfl zD ?_
              with_reducible refine (BC.calls A8 _ _ l0_1 _ _ l1 x13_2 t121 _ ?side1 ?side2 ?side3 ?side4 A11.out).mono ?_
              (case side1=>repeat (first|exact (Kd.C_below HR0_1.out HB.out)|(with_reducible refine Kd.C_alloc ?_ _)|(with_reducible refine Kd.C_drewN ?_ _)|(with_reducible refine Kd.C_drew ?_)))
              (case side2=>exact HC0_1.out)
              (case side3=>repeat (first|exact (Kd.C_below HR1.out HB.out)|(with_reducible refine Kd.C_alloc ?_ _)|(with_reducible refine Kd.C_drewN ?_ _)|(with_reducible refine Kd.C_drew ?_)))
              (case side4=>exact HC1.out)
              rintro e w16 ⟨rfl,hb⟩
              refine ⟨_,rfl,?_⟩
              have n0_:=yA (AP (g:=gb117) (o:= .cells #[.int .i64 A8,.slice A0_1 l0_1.length c0_1] 33 (0,0)) (by (with_reducible repeat (first|refine AG ?_ _|refine AH ?_|refine AF ?_ _)); exact BK117.out) hb)
              have n1_:=yA (AO zD5 hb)
              clear BK117
              clear HB
              have BK117:=n0_
              have HB:=n1_
              clear n0_ n1_
              (try clear hb)
              (try clear hb2)
              (try clear hk)
              (try clear hi)
              refine hK.out _ _ ⟨(AK BK117.out 0).trans rfl,(AK BK117.out 1).trans rfl,(yC HB.out hw118_0),(yC HB.out hw118_1),(yC HB.out hw119_0),(yC HB.out hw119_1),(yC HB.out hw120_0),(yC HB.out hw120_1),(yC HB.out hw122_0),(yC HB.out hw122_1)⟩ (fun hHeld=> ?_)
              clear hK K
              refine Bq (a':= ?_) ?_ ?_; rotate_left; show Act.put _ (some 36) _=_; exact yB
              refine AX (i:=21) (N:=some 37) (v:= ?_) (a':= ?_) #[true,true,true,true,true,true,true,true,true,true,true,true,true,true,true,true,true,true,true,true,true,true,false,false,false,false,false,false,false,false,false,false,false,false,false] rfl rfl (AQ HT_.out zE) (fun _ _ _ h=>h) (Or.inl ⟨by rfl,?_⟩) ?_ ?_; rotate_left; intro w'; go_simp; with_reducible rfl; rotate_left; exact yB
              refine AX (i:=22) (N:=some 38) (v:= ?_) (a':= ?_) #[true,true,true,true,true,true,true,true,true,true,true,true,true,true,true,true,true,true,true,true,true,true,true,false,false,false,false,false,false,false,false,false,false,false,false] rfl rfl (AQ HT_.out zE) (fun _ _ _ h=>h) (Or.inl ⟨by rfl,?_⟩) ?_ ?_; rotate_left; intro w'; go_simp; with_reducible rfl; rotate_left; exact yB
              refine AX (i:=23) (N:=some 39) (v:= ?_) (a':= ?_) #[true,true,true,true,true,true,true,true,true,true,true,true,true,true,true,true,true,true,true,true,true,true,true,true,false,false,false,false,false,false,false,false,false,false,false] rfl rfl (AQ HT_.out zE) (fun _ _ _ h=>h) (Or.inl ⟨by rfl,?_⟩) ?_ ?_; rotate_left; intro w'; go_simp; with_reducible rfl; rotate_left; exact yB
              refine AX (i:=24) (N:=some 40) (v:= ?_) (a':= ?_) #[true,true,true,true,true,true,true,true,true,true,true,true,true,true,true,true,true,true,true,true,true,true,true,true,true,false,false,false,false,false,false,false,false,false,false] rfl rfl (AQ HT_.out zE) (fun _ _ _ h=>h) (Or.inl ⟨by rfl,?_⟩) ?_ ?_; rotate_left; intro w'; go_simp; with_reducible rfl; rotate_left; exact yB
              refine AX (i:=25) (N:=some 41) (v:= ?_) (a':= ?_) #[true,true,true,true,true,true,true,true,true,true,true,true,true,true,true,true,true,true,true,true,true,true,true,true,true,true,false,false,false,false,false,false,false,false,false] rfl rfl (AQ HT_.out zE) (fun _ _ _ h=>h) (Or.inl ⟨by rfl,?_⟩) ?_ ?_; rotate_left; intro w'; go_simp; with_reducible rfl; rotate_left; exact yB
              refine AX (i:=26) (N:=some 42) (v:= ?_) (a':= ?_) #[true,true,true,true,true,true,true,true,true,true,true,true,true,true,true,true,true,true,true,true,true,true,true,true,true,true,true,false,false,false,false,false,false,false,false] rfl rfl (AQ HT_.out zE) (fun _ _ _ h=>h) (Or.inl ⟨by rfl,?_⟩) ?_ ?_; rotate_left; intro w'; go_simp; with_reducible rfl; rotate_left; exact yB
              refine AX (i:=27) (N:=some 43) (v:= ?_) (a':= ?_) #[true,true,true,true,true,true,true,true,true,true,true,true,true,true,true,true,true,true,true,true,true,true,true,true,true,true,true,true,false,false,false,false,false,false,false] rfl rfl (AQ HT_.out zE) (fun _ _ _ h=>h) (Or.inl ⟨by rfl,?_⟩) ?_ ?_; rotate_left; intro w'; go_simp; with_reducible rfl; rotate_left; exact yB
              refine AX (i:=30) (N:=some 46) (v:= ?_) (a':= ?_) #[true,true,true,true,true,true,true,true,true,true,true,true,true,true,true,true,true,true,true,true,true,true,true,true,true,true,true,true,false,false,true,false,false,false,false] rfl rfl (AQ HT_.out zE) (fun _ _ _ h=>h) (Or.inl ⟨by rfl,?_⟩) ?_ ?_; rotate_left; intro w'; go_simp; with_reducible rfl; rotate_left; exact yB
              refine AX (i:=31) (N:=some 47) (v:= ?_) (a':= ?_) #[true,true,true,true,true,true,true,true,true,true,true,true,true,true,true,true,true,true,true,true,true,true,true,true,true,true,true,true,false,false,true,true,false,false,false] rfl rfl (AQ HT_.out zE) (fun _ _ _ h=>h) (Or.inl ⟨by rfl,?_⟩) ?_ ?_; rotate_left; intro w'; go_simp; with_reducible rfl; rotate_left; exact yB
              refine BK (i:=28) (N:=some 44) (v:= ?_) (a':= ?_) #[true,true,true,true,true,true,true,true,true,true,true,true,true,true,true,true,true,true,true,true,true,true,true,true,true,true,true,true,true,false,true,true,false,false,false] rfl rfl (B4 HT_.out HW_.out zE) (fun _ _ _ h=>h) (Or.inl ⟨by rfl,?_⟩) hHeld ?_ ?_; rotate_left; rintro w' ⟨s0,s1,s2,s3,s4,s5,s6,s7,s8,s9⟩; go_simp; with_reducible rfl; rotate_left; exact yB
              refine BK (i:=29) (N:=some 45) (v:= ?_) (a':= ?_) #[true,true,true,true,true,true,true,true,true,true,true,true,true,true,true,true,true,true,true,true,true,true,true,true,true,true,true,true,true,true,true,true,false,false,false] rfl rfl (B4 HT_.out HW_.out zE) (fun _ _ _ h=>h) (Or.inl ⟨by rfl,?_⟩) hHeld ?_ ?_; rotate_left; rintro w' ⟨s0,s1,s2,s3,s4,s5,s6,s7,s8,s9⟩; go_simp; with_reducible rfl; rotate_left; exact yB
              refine one_ (i:=32) (N:=some 48) #[true,true,true,true,true,true,true,true,true,true,true,true,true,true,true,true,true,true,true,true,true,true,true,true,true,true,true,true,true,true,true,true,true,false,false] rfl rfl (Bi HT_.out zE) zA2 (fun K hK=> ?_)
              refine C1 Tryd.func22 zE rfl #[.agg #[.int .i64 A8,.slice A0_1 l0_1.length c0_1],.slice (some ad118) l1.length c1,.int .i64 x9_1] (by rfl) rfl rfl zD ?_
              with_reducible refine (BC.calls A8 _ _ l0_1 _ _ l1 x9_1 t123 _ ?side1 ?side2 ?side3 ?side4 A13.out).mono ?_
              (case side1=>repeat (first|exact (Kd.C_below HR0_1.out HB.out)|(with_reducible refine Kd.C_alloc ?_ _)|(with_reducible refine Kd.C_drewN ?_ _)|(with_reducible refine Kd.C_drew ?_)))
              (case side2=>exact HC0_1.out)
              (case side3=>repeat (first|exact (Kd.C_below HR1.out HB.out)|(with_reducible refine Kd.C_alloc ?_ _)|(with_reducible refine Kd.C_drewN ?_ _)|(with_reducible refine Kd.C_drew ?_)))
              (case side4=>exact HC1.out)
              rintro e w17 ⟨rfl,hb⟩
              refine ⟨_,rfl,?_⟩
              have n0_:=yA (AP (g:=gb117) (o:= .cells #[.int .i64 A8,.slice A0_1 l0_1.length c0_1] 33 (0,0)) (by (with_reducible repeat (first|refine AG ?_ _|refine AH ?_|refine AF ?_ _)); exact BK117.out) hb)
              have n1_:=yA (AO zD5 hb)
              clear BK117
              clear HB
              have BK117:=n0_
              have HB:=n1_
              clear n0_ n1_
              (try clear hb)
              (try clear hb2)
              (try clear hk)
              (try clear hi)
              refine hK.out _ _ ⟨(AK BK117.out 0).trans rfl,(AK BK117.out 1).trans rfl,(yC HB.out hw118_0),(yC HB.out hw118_1),(yC HB.out hw119_0),(yC HB.out hw119_1),(yC HB.out hw120_0),(yC HB.out hw120_1),(yC HB.out hw122_0),(yC HB.out hw122_1)⟩ (fun hHeld=> ?_)
              clear hK K
              refine Bq (a':= ?_) ?_ ?_; rotate_left; show Act.put _ (some 48) _=_; exact yB
              refine AX (i:=33) (N:=some 49) (v:= ?_) (a':= ?_) #[true,true,true,true,true,true,true,true,true,true,true,true,true,true,true,true,true,true,true,true,true,true,true,true,true,true,true,true,true,true,true,true,true,true,false] rfl rfl (AQ HT_.out zE) (fun _ _ _ h=>h) (Or.inl ⟨by rfl,?_⟩) ?_ ?_; rotate_left; intro w'; go_simp; with_reducible rfl; rotate_left; exact yB
              refine AX (i:=34) (N:=some 50) (v:= ?_) (a':= ?_) #[true,true,true,true,true,true,true,true,true,true,true,true,true,true,true,true,true,true,true,true,true,true,true,true,true,true,true,true,true,true,true,true,true,true,true] rfl rfl (AQ HT_.out zE) (fun _ _ _ h=>h) (Or.inl ⟨by rfl,?_⟩) ?_ ?_; rotate_left; intro w'; go_simp; with_reducible rfl; rotate_left; exact yB
              refine C7 (Bm HT_.out zE) ?_
              try go_wp2
              go_ret
              exact ⟨by first|rfl|(simp [AZ,AY]<;>rfl)|(simp [*,AZ,AY]<;>rfl),by repeat (first|(with_reducible first|exact HB.out|apply AE|apply AC|apply AD|refine AI ?_ GE117.out)|exact HB.out)⟩
             ·rw [if_neg c14] at H
              have c14b0:decide (((An l1 x13_2).f1)<t123)=false:=decide_eq_false c14
              clear c14
              have H':=yA H
              clear H
              try go_wp2
              have n0_:=yA (AH BK117.out)
              have n1_:=yA (AD HB.out)
              clear BK117
              clear HB
              have BK117:=n0_
              have HB:=n1_
              clear n0_ n1_
              have p118:0≤(x9_1:Int):=yD
              have q118:x9_1<(l1.length:Int):=yD
              obtain ⟨ad118,e118,hx118_0,hx118_1⟩:=Bh HR1.out x9_1 p118 q118
              have hw118_1:=hx118_1
              have hw118_0:=hx118_0
              cases e118
              replace hx118_0:=yC HB.out hx118_0
              replace hx118_1:=yC HB.out hx118_1
              replace p118:=eq_true p118
              replace q118:=eq_true q118
              have p119:0≤(x13_2:Int):=yD
              have q119:x13_2<(l1.length:Int):=yD
              obtain ⟨ad119,e119,hx119_0,hx119_1⟩:=Bh HR1.out x13_2 p119 q119
              have hw119_1:=hx119_1
              have hw119_0:=hx119_0
              obtain rfl:ad118=ad119:=(by injection e119)
              replace hx119_0:=yC HB.out hx119_0
              replace hx119_1:=yC HB.out hx119_1
              replace p119:=eq_true p119
              replace q119:=eq_true q119
              have p120:0≤(x9_1:Int):=yD
              have q120:x9_1<(l1.length:Int):=yD
              obtain ⟨ad120,e120,hx120_0,hx120_1⟩:=Bh HR1.out x9_1 p120 q120
              have hw120_1:=hx120_1
              have hw120_0:=hx120_0
              obtain rfl:ad118=ad120:=(by injection e120)
              replace hx120_0:=yC HB.out hx120_0
              replace hx120_1:=yC HB.out hx120_1
              replace p120:=eq_true p120
              replace q120:=eq_true q120
              have p122:0≤(x13_2:Int):=yD
              have q122:x13_2<(l1.length:Int):=yD
              obtain ⟨ad122,e122,hx122_0,hx122_1⟩:=Bh HR1.out x13_2 p122 q122
              have hw122_1:=hx122_1
              have hw122_0:=hx122_0
              obtain rfl:ad118=ad122:=(by injection e122)
              replace hx122_0:=yC HB.out hx122_0
              replace hx122_1:=yC HB.out hx122_1
              replace p122:=eq_true p122
              replace q122:=eq_true q122
              refine Bp (n:=35) (S:=fun w'=>w'.cell? ⟨gb117,0,none⟩=some (.int .i64 A8)∧w'.cell? ⟨gb117,1,none⟩=some (.slice A0_1 l0_1.length c0_1)∧w'.cell? (ad118.add ((x9_1).toNat*2))=some (.int .i64 ((An l1 x9_1).f0))∧w'.cell? ⟨(ad118.add ((x9_1).toNat*2)).block,(ad118.add ((x9_1).toNat*2)).off+1,none⟩=some (.int .i64 ((An l1 x9_1).f1))∧w'.cell? (ad118.add ((x13_2).toNat*2))=some (.int .i64 ((An l1 x13_2).f0))∧w'.cell? ⟨(ad118.add ((x13_2).toNat*2)).block,(ad118.add ((x13_2).toNat*2)).off+1,none⟩=some (.int .i64 ((An l1 x13_2).f1))∧w'.cell? (ad118.add ((x9_1).toNat*2))=some (.int .i64 ((An l1 x9_1).f0))∧w'.cell? ⟨(ad118.add ((x9_1).toNat*2)).block,(ad118.add ((x9_1).toNat*2)).off+1,none⟩=some (.int .i64 ((An l1 x9_1).f1))∧w'.cell? (ad118.add ((x13_2).toNat*2))=some (.int .i64 ((An l1 x13_2).f0))∧w'.cell? ⟨(ad118.add ((x13_2).toNat*2)).block,(ad118.add ((x13_2).toNat*2)).off+1,none⟩=some (.int .i64 ((An l1 x13_2).f1))) (ds:=[]) #[false,false,false,false,false,false,false,false,false,false,false,false,false,false,false,false,false,false,false,false,false,false,false,false,false,false,false,false,false,false,false,false,false,false,false] zE rfl rfl ⟨(AK BK117.out 0).trans rfl,(AK BK117.out 1).trans rfl,(yC HB.out hw118_0),(yC HB.out hw118_1),(yC HB.out hw119_0),(yC HB.out hw119_1),(yC HB.out hw120_0),(yC HB.out hw120_1),(yC HB.out hw122_0),(yC HB.out hw122_1)⟩ (fun hHeld=> ?_); refine BU Ac.tab7 Ac.bits7 (fun HT_ HW_=> ?_)
              generalize wr.drew=w18 at BK117 HB hx118_0 hx118_1 hx119_0 hx119_1 hx120_0 hx120_1 hx122_0 hx122_1 hHeld ⊢
              refine AX (i:=0) (N:=some 16) (v:= ?_) (a':= ?_) #[true,false,false,false,false,false,false,false,false,false,false,false,false,false,false,false,false,false,false,false,false,false,false,false,false,false,false,false,false,false,false,false,false,false,false] rfl rfl (AQ HT_.out zE) (fun _ _ _ h=>h) (Or.inl ⟨by rfl,?_⟩) ?_ ?_; rotate_left; intro w'; go_simp; with_reducible rfl; rotate_left; exact yB
              refine AX (i:=1) (N:=some 17) (v:= ?_) (a':= ?_) #[true,true,false,false,false,false,false,false,false,false,false,false,false,false,false,false,false,false,false,false,false,false,false,false,false,false,false,false,false,false,false,false,false,false,false] rfl rfl (AQ HT_.out zE) (fun _ _ _ h=>h) (Or.inl ⟨by rfl,?_⟩) ?_ ?_; rotate_left; intro w'; go_simp; with_reducible rfl; rotate_left; exact yB
              refine AX (i:=2) (N:=some 18) (v:= ?_) (a':= ?_) #[true,true,true,false,false,false,false,false,false,false,false,false,false,false,false,false,false,false,false,false,false,false,false,false,false,false,false,false,false,false,false,false,false,false,false] rfl rfl (AQ HT_.out zE) (fun _ _ _ h=>h) (Or.inl ⟨by rfl,?_⟩) ?_ ?_; rotate_left; intro w'; go_simp; with_reducible rfl; rotate_left; exact yB
              refine AX (i:=3) (N:=some 19) (v:= ?_) (a':= ?_) #[true,true,true,true,false,false,false,false,false,false,false,false,false,false,false,false,false,false,false,false,false,false,false,false,false,false,false,false,false,false,false,false,false,false,false] rfl rfl (AQ HT_.out zE) (fun _ _ _ h=>h) (Or.inl ⟨by rfl,?_⟩) ?_ ?_; rotate_left; intro w'; go_simp; with_reducible rfl; rotate_left; exact yB
              refine AX (i:=5) (N:=some 21) (v:= ?_) (a':= ?_) #[true,true,true,true,false,true,false,false,false,false,false,false,false,false,false,false,false,false,false,false,false,false,false,false,false,false,false,false,false,false,false,false,false,false,false] rfl rfl (AQ HT_.out zE) (fun _ _ _ h=>h) (Or.inl ⟨by rfl,?_⟩) ?_ ?_; rotate_left; intro w'; go_simp; with_reducible rfl; rotate_left; exact yB
              refine AX (i:=6) (N:=some 22) (v:= ?_) (a':= ?_) #[true,true,true,true,false,true,true,false,false,false,false,false,false,false,false,false,false,false,false,false,false,false,false,false,false,false,false,false,false,false,false,false,false,false,false] rfl rfl (AQ HT_.out zE) (fun _ _ _ h=>h) (Or.inl ⟨by rfl,?_⟩) ?_ ?_; rotate_left; intro w'; go_simp; with_reducible rfl; rotate_left; exact yB
              refine AX (i:=7) (N:=some 23) (v:= ?_) (a':= ?_) #[true,true,true,true,false,true,true,true,false,false,false,false,false,false,false,false,false,false,false,false,false,false,false,false,false,false,false,false,false,false,false,false,false,false,false] rfl rfl (AQ HT_.out zE) (fun _ _ _ h=>h) (Or.inl ⟨by rfl,?_⟩) ?_ ?_; rotate_left; intro w'; go_simp; with_reducible rfl; rotate_left; exact yB
              refine AX (i:=8) (N:=some 24) (v:= ?_) (a':= ?_) #[true,true,true,true,false,true,true,true,true,false,false,false,false,false,false,false,false,false,false,false,false,false,false,false,false,false,false,false,false,false,false,false,false,false,false] rfl rfl (AQ HT_.out zE) (fun _ _ _ h=>h) (Or.inl ⟨by rfl,?_⟩) ?_ ?_; rotate_left; intro w'; go_simp; with_reducible rfl; rotate_left; exact yB
              refine BK (i:=4) (N:=some 20) (v:= ?_) (a':= ?_) #[true,true,true,true,true,true,true,true,true,false,false,false,false,false,false,false,false,false,false,false,false,false,false,false,false,false,false,false,false,false,false,false,false,false,false] rfl rfl (B4 HT_.out HW_.out zE) (fun _ _ _ h=>h) (Or.inl ⟨by rfl,?_⟩) hHeld ?_ ?_; rotate_left; rintro w' ⟨s0,s1,s2,s3,s4,s5,s6,s7,s8,s9⟩; go_simp; with_reducible rfl; rotate_left; exact yB
              refine BK (i:=9) (N:=some 25) (v:= ?_) (a':= ?_) #[true,true,true,true,true,true,true,true,true,true,false,false,false,false,false,false,false,false,false,false,false,false,false,false,false,false,false,false,false,false,false,false,false,false,false] rfl rfl (B4 HT_.out HW_.out zE) (fun _ _ _ h=>h) (Or.inl ⟨by rfl,?_⟩) hHeld ?_ ?_; rotate_left; rintro w' ⟨s0,s1,s2,s3,s4,s5,s6,s7,s8,s9⟩; go_simp; with_reducible rfl; rotate_left; exact yB
              refine AX (i:=10) (N:=some 26) (v:= ?_) (a':= ?_) #[true,true,true,true,true,true,true,true,true,true,true,false,false,false,false,false,false,false,false,false,false,false,false,false,false,false,false,false,false,false,false,false,false,false,false] rfl rfl (AQ HT_.out zE) (fun _ _ _ h=>h) (Or.inl ⟨by rfl,?_⟩) ?_ ?_; rotate_left; intro w'; go_simp; with_reducible rfl; rotate_left; exact yB
              refine AX (i:=11) (N:=some 27) (v:= ?_) (a':= ?_) #[true,true,true,true,true,true,true,true,true,true,true,true,false,false,false,false,false,false,false,false,false,false,false,false,false,false,false,false,false,false,false,false,false,false,false] rfl rfl (AQ HT_.out zE) (fun _ _ _ h=>h) (Or.inl ⟨by rfl,?_⟩) ?_ ?_; rotate_left; intro w'; go_simp; with_reducible rfl; rotate_left; exact yB
              refine AX (i:=12) (N:=some 28) (v:= ?_) (a':= ?_) #[true,true,true,true,true,true,true,true,true,true,true,true,true,false,false,false,false,false,false,false,false,false,false,false,false,false,false,false,false,false,false,false,false,false,false] rfl rfl (AQ HT_.out zE) (fun _ _ _ h=>h) (Or.inl ⟨by rfl,?_⟩) ?_ ?_; rotate_left; intro w'; go_simp; with_reducible rfl; rotate_left; exact yB
              refine AX (i:=13) (N:=some 29) (v:= ?_) (a':= ?_) #[true,true,true,true,true,true,true,true,true,true,true,true,true,true,false,false,false,false,false,false,false,false,false,false,false,false,false,false,false,false,false,false,false,false,false] rfl rfl (AQ HT_.out zE) (fun _ _ _ h=>h) (Or.inl ⟨by rfl,?_⟩) ?_ ?_; rotate_left; intro w'; go_simp; with_reducible rfl; rotate_left; exact yB
              refine AX (i:=14) (N:=some 30) (v:= ?_) (a':= ?_) #[true,true,true,true,true,true,true,true,true,true,true,true,true,true,true,false,false,false,false,false,false,false,false,false,false,false,false,false,false,false,false,false,false,false,false] rfl rfl (AQ HT_.out zE) (fun _ _ _ h=>h) (Or.inl ⟨by rfl,?_⟩) ?_ ?_; rotate_left; intro w'; go_simp; with_reducible rfl; rotate_left; exact yB
              refine AX (i:=15) (N:=some 31) (v:= ?_) (a':= ?_) #[true,true,true,true,true,true,true,true,true,true,true,true,true,true,true,true,false,false,false,false,false,false,false,false,false,false,false,false,false,false,false,false,false,false,false] rfl rfl (AQ HT_.out zE) (fun _ _ _ h=>h) (Or.inl ⟨by rfl,?_⟩) ?_ ?_; rotate_left; intro w'; go_simp; with_reducible rfl; rotate_left; exact yB
              refine AX (i:=18) (N:=some 34) (v:= ?_) (a':= ?_) #[true,true,true,true,true,true,true,true,true,true,true,true,true,true,true,true,false,false,true,false,false,false,false,false,false,false,false,false,false,false,false,false,false,false,false] rfl rfl (AQ HT_.out zE) (fun _ _ _ h=>h) (Or.inl ⟨by rfl,?_⟩) ?_ ?_; rotate_left; intro w'; go_simp; with_reducible rfl; rotate_left; exact yB
              refine AX (i:=19) (N:=some 35) (v:= ?_) (a':= ?_) #[true,true,true,true,true,true,true,true,true,true,true,true,true,true,true,true,false,false,true,true,false,false,false,false,false,false,false,false,false,false,false,false,false,false,false] rfl rfl (AQ HT_.out zE) (fun _ _ _ h=>h) (Or.inl ⟨by rfl,?_⟩) ?_ ?_; rotate_left; intro w'; go_simp; with_reducible rfl; rotate_left; exact yB
              refine BK (i:=16) (N:=some 32) (v:= ?_) (a':= ?_) #[true,true,true,true,true,true,true,true,true,true,true,true,true,true,true,true,true,false,true,true,false,false,false,false,false,false,false,false,false,false,false,false,false,false,false] rfl rfl (B4 HT_.out HW_.out zE) (fun _ _ _ h=>h) (Or.inl ⟨by rfl,?_⟩) hHeld ?_ ?_; rotate_left; rintro w' ⟨s0,s1,s2,s3,s4,s5,s6,s7,s8,s9⟩; go_simp; with_reducible rfl; rotate_left; exact yB
              refine BK (i:=17) (N:=some 33) (v:= ?_) (a':= ?_) #[true,true,true,true,true,true,true,true,true,true,true,true,true,true,true,true,true,true,true,true,false,false,false,false,false,false,false,false,false,false,false,false,false,false,false] rfl rfl (B4 HT_.out HW_.out zE) (fun _ _ _ h=>h) (Or.inl ⟨by rfl,?_⟩) hHeld ?_ ?_; rotate_left; rintro w' ⟨s0,s1,s2,s3,s4,s5,s6,s7,s8,s9⟩; go_simp; with_reducible rfl; rotate_left; exact yB
              refine one_ (i:=20) (N:=some 36) #[true,true,true,true,true,true,true,true,true,true,true,true,true,true,true,true,true,true,true,true,true,false,false,false,false,false,false,false,false,false,false,false,false,false,false] rfl rfl (Bi HT_.out zE) zA2 (fun K hK=> ?_)
              refine C1 Tryd.func22 zE rfl #[.agg #[.int .i64 A8,.slice A0_1 l0_1.length c0_1],.slice (some ad118) l1.length c1,.int .i64 x13_2] (by rfl) rfl rfl zD ?_
              with_reducible refine (BC.calls A8 _ _ l0_1 _ _ l1 x13_2 t121 _ ?side1 ?side2 ?side3 ?side4 A11.out).mono ?_
              (case side1=>repeat (first|exact (Kd.C_below HR0_1.out HB.out)|(with_reducible refine Kd.C_alloc ?_ _)|(with_reducible refine Kd.C_drewN ?_ _)|(with_reducible refine Kd.C_drew ?_)))
              (case side2=>exact HC0_1.out)
              (case side3=>repeat (first|exact (Kd.C_below HR1.out HB.out)|(with_reducible refine Kd.C_alloc ?_ _)|(with_reducible refine Kd.C_drewN ?_ _)|(with_reducible refine Kd.C_drew ?_)))
              (case side4=>exact HC1.out)
              rintro e w19 ⟨rfl,hb⟩
              refine ⟨_,rfl,?_⟩
              have n0_:=yA (AP (g:=gb117) (o:= .cells #[.int .i64 A8,.slice A0_1 l0_1.length c0_1] 33 (0,0)) (by (with_reducible repeat (first|refine AG ?_ _|refine AH ?_|refine AF ?_ _)); exact BK117.out) hb)
              have n1_:=yA (AO zD5 hb)
              clear BK117
              clear HB
              have BK117:=n0_
              have HB:=n1_
              clear n0_ n1_
              (try clear hb)
              (try clear hb2)
              (try clear hk)
              (try clear hi)
              refine hK.out _ _ ⟨(AK BK117.out 0).trans rfl,(AK BK117.out 1).trans rfl,(yC HB.out hw118_0),(yC HB.out hw118_1),(yC HB.out hw119_0),(yC HB.out hw119_1),(yC HB.out hw120_0),(yC HB.out hw120_1),(yC HB.out hw122_0),(yC HB.out hw122_1)⟩ (fun hHeld=> ?_)
              clear hK K
              refine Bq (a':= ?_) ?_ ?_; rotate_left; show Act.put _ (some 36) _=_; exact yB
              refine AX (i:=21) (N:=some 37) (v:= ?_) (a':= ?_) #[true,true,true,true,true,true,true,true,true,true,true,true,true,true,true,true,true,true,true,true,true,true,false,false,false,false,false,false,false,false,false,false,false,false,false] rfl rfl (AQ HT_.out zE) (fun _ _ _ h=>h) (Or.inl ⟨by rfl,?_⟩) ?_ ?_; rotate_left; intro w'; go_simp; with_reducible rfl; rotate_left; exact yB
              refine AX (i:=22) (N:=some 38) (v:= ?_) (a':= ?_) #[true,true,true,true,true,true,true,true,true,true,true,true,true,true,true,true,true,true,true,true,true,true,true,false,false,false,false,false,false,false,false,false,false,false,false] rfl rfl (AQ HT_.out zE) (fun _ _ _ h=>h) (Or.inl ⟨by rfl,?_⟩) ?_ ?_; rotate_left; intro w'; go_simp; with_reducible rfl; rotate_left; exact yB
              refine AX (i:=23) (N:=some 39) (v:= ?_) (a':= ?_) #[true,true,true,true,true,true,true,true,true,true,true,true,true,true,true,true,true,true,true,true,true,true,true,true,false,false,false,false,false,false,false,false,false,false,false] rfl rfl (AQ HT_.out zE) (fun _ _ _ h=>h) (Or.inl ⟨by rfl,?_⟩) ?_ ?_; rotate_left; intro w'; go_simp; with_reducible rfl; rotate_left; exact yB
              refine AX (i:=24) (N:=some 40) (v:= ?_) (a':= ?_) #[true,true,true,true,true,true,true,true,true,true,true,true,true,true,true,true,true,true,true,true,true,true,true,true,true,false,false,false,false,false,false,false,false,false,false] rfl rfl (AQ HT_.out zE) (fun _ _ _ h=>h) (Or.inl ⟨by rfl,?_⟩) ?_ ?_; rotate_left; intro w'; go_simp; with_reducible rfl; rotate_left; exact yB
              refine AX (i:=25) (N:=some 41) (v:= ?_) (a':= ?_) #[true,true,true,true,true,true,true,true,true,true,true,true,true,true,true,true,true,true,true,true,true,true,true,true,true,true,false,false,false,false,false,false,false,false,false] rfl rfl (AQ HT_.out zE) (fun _ _ _ h=>h) (Or.inl ⟨by rfl,?_⟩) ?_ ?_; rotate_left; intro w'; go_simp; with_reducible rfl; rotate_left; exact yB
              refine AX (i:=26) (N:=some 42) (v:= ?_) (a':= ?_) #[true,true,true,true,true,true,true,true,true,true,true,true,true,true,true,true,true,true,true,true,true,true,true,true,true,true,true,false,false,false,false,false,false,false,false] rfl rfl (AQ HT_.out zE) (fun _ _ _ h=>h) (Or.inl ⟨by rfl,?_⟩) ?_ ?_; rotate_left; intro w'; go_simp; with_reducible rfl; rotate_left; exact yB
              refine AX (i:=27) (N:=some 43) (v:= ?_) (a':= ?_) #[true,true,true,true,true,true,true,true,true,true,true,true,true,true,true,true,true,true,true,true,true,true,true,true,true,true,true,true,false,false,false,false,false,false,false] rfl rfl (AQ HT_.out zE) (fun _ _ _ h=>h) (Or.inl ⟨by rfl,?_⟩) ?_ ?_; rotate_left; intro w'; go_simp; with_reducible rfl; rotate_left; exact yB
              refine AX (i:=30) (N:=some 46) (v:= ?_) (a':= ?_) #[true,true,true,true,true,true,true,true,true,true,true,true,true,true,true,true,true,true,true,true,true,true,true,true,true,true,true,true,false,false,true,false,false,false,false] rfl rfl (AQ HT_.out zE) (fun _ _ _ h=>h) (Or.inl ⟨by rfl,?_⟩) ?_ ?_; rotate_left; intro w'; go_simp; with_reducible rfl; rotate_left; exact yB
              refine AX (i:=31) (N:=some 47) (v:= ?_) (a':= ?_) #[true,true,true,true,true,true,true,true,true,true,true,true,true,true,true,true,true,true,true,true,true,true,true,true,true,true,true,true,false,false,true,true,false,false,false] rfl rfl (AQ HT_.out zE) (fun _ _ _ h=>h) (Or.inl ⟨by rfl,?_⟩) ?_ ?_; rotate_left; intro w'; go_simp; with_reducible rfl; rotate_left; exact yB
              refine BK (i:=28) (N:=some 44) (v:= ?_) (a':= ?_) #[true,true,true,true,true,true,true,true,true,true,true,true,true,true,true,true,true,true,true,true,true,true,true,true,true,true,true,true,true,false,true,true,false,false,false] rfl rfl (B4 HT_.out HW_.out zE) (fun _ _ _ h=>h) (Or.inl ⟨by rfl,?_⟩) hHeld ?_ ?_; rotate_left; rintro w' ⟨s0,s1,s2,s3,s4,s5,s6,s7,s8,s9⟩; go_simp; with_reducible rfl; rotate_left; exact yB
              refine BK (i:=29) (N:=some 45) (v:= ?_) (a':= ?_) #[true,true,true,true,true,true,true,true,true,true,true,true,true,true,true,true,true,true,true,true,true,true,true,true,true,true,true,true,true,true,true,true,false,false,false] rfl rfl (B4 HT_.out HW_.out zE) (fun _ _ _ h=>h) (Or.inl ⟨by rfl,?_⟩) hHeld ?_ ?_; rotate_left; rintro w' ⟨s0,s1,s2,s3,s4,s5,s6,s7,s8,s9⟩; go_simp; with_reducible rfl; rotate_left; exact yB
              refine one_ (i:=32) (N:=some 48) #[true,true,true,true,true,true,true,true,true,true,true,true,true,true,true,true,true,true,true,true,true,true,true,true,true,true,true,true,true,true,true,true,true,false,false] rfl rfl (Bi HT_.out zE) zA2 (fun K hK=> ?_)
              refine C1 Tryd.func22 zE rfl #[.agg #[.int .i64 A8,.slice A0_1 l0_1.length c0_1],.slice (some ad118) l1.length c1,.int .i64 x9_1] (by rfl) rfl rfl zD ?_
              with_reducible refine (BC.calls A8 _ _ l0_1 _ _ l1 x9_1 t123 _ ?side1 ?side2 ?side3 ?side4 A13.out).mono ?_
              (case side1=>repeat (first|exact (Kd.C_below HR0_1.out HB.out)|(with_reducible refine Kd.C_alloc ?_ _)|(with_reducible refine Kd.C_drewN ?_ _)|(with_reducible refine Kd.C_drew ?_)))
              (case side2=>exact HC0_1.out)
              (case side3=>repeat (first|exact (Kd.C_below HR1.out HB.out)|(with_reducible refine Kd.C_alloc ?_ _)|(with_reducible refine Kd.C_drewN ?_ _)|(with_reducible refine Kd.C_drew ?_)))
              (case side4=>exact HC1.out)
              rintro e w20 ⟨rfl,hb⟩
              refine ⟨_,rfl,?_⟩
              have n0_:=yA (AP (g:=gb117) (o:= .cells #[.int .i64 A8,.slice A0_1 l0_1.length c0_1] 33 (0,0)) (by (with_reducible repeat (first|refine AG ?_ _|refine AH ?_|refine AF ?_ _)); exact BK117.out) hb)
              have n1_:=yA (AO zD5 hb)
              clear BK117
              clear HB
              have BK117:=n0_
              have HB:=n1_
              clear n0_ n1_
              (try clear hb)
              (try clear hb2)
              (try clear hk)
              (try clear hi)
              refine hK.out _ _ ⟨(AK BK117.out 0).trans rfl,(AK BK117.out 1).trans rfl,(yC HB.out hw118_0),(yC HB.out hw118_1),(yC HB.out hw119_0),(yC HB.out hw119_1),(yC HB.out hw120_0),(yC HB.out hw120_1),(yC HB.out hw122_0),(yC HB.out hw122_1)⟩ (fun hHeld=> ?_)
              clear hK K
              refine Bq (a':= ?_) ?_ ?_; rotate_left; show Act.put _ (some 48) _=_; exact yB
              refine AX (i:=33) (N:=some 49) (v:= ?_) (a':= ?_) #[true,true,true,true,true,true,true,true,true,true,true,true,true,true,true,true,true,true,true,true,true,true,true,true,true,true,true,true,true,true,true,true,true,true,false] rfl rfl (AQ HT_.out zE) (fun _ _ _ h=>h) (Or.inl ⟨by rfl,?_⟩) ?_ ?_; rotate_left; intro w'; go_simp; with_reducible rfl; rotate_left; exact yB
              refine AX (i:=34) (N:=some 50) (v:= ?_) (a':= ?_) #[true,true,true,true,true,true,true,true,true,true,true,true,true,true,true,true,true,true,true,true,true,true,true,true,true,true,true,true,true,true,true,true,true,true,true] rfl rfl (AQ HT_.out zE) (fun _ _ _ h=>h) (Or.inl ⟨by rfl,?_⟩) ?_ ?_; rotate_left; intro w'; go_simp; with_reducible rfl; rotate_left; exact yB
              refine C7 (Bm HT_.out zE) ?_
              try go_wp2
              go_roundg k2
              case measure=>have:=HK1.out; have:=HK2.out; omega
              case rel=>exact ⟨(wrap64 (x13_2+1)),zG,H',⟨by have:=HK1.out; have:=HK2.out; omega⟩,⟨by (with_reducible repeat (first|refine AG ?_ _|refine AH ?_|refine AF ?_ _)); exact BK117.out⟩,⟨by repeat (first|(with_reducible first|exact HB.out|apply AE|apply AC|apply AD|refine AI ?_ GE117.out)|exact HB.out)⟩⟩
            ·rw [if_neg c12] at H
             have c12b0:decide (((An l1 x9_1).f1)<t121)=false:=decide_eq_false c12
             clear c12
             have H':=yA H
             clear H
             try go_wp2
             have n0_:=yA (AH BK117.out)
             have n1_:=yA (AD HB.out)
             clear BK117
             clear HB
             have BK117:=n0_
             have HB:=n1_
             clear n0_ n1_
             have p118:0≤(x9_1:Int):=yD
             have q118:x9_1<(l1.length:Int):=yD
             obtain ⟨ad118,e118,hx118_0,hx118_1⟩:=Bh HR1.out x9_1 p118 q118
             have hw118_1:=hx118_1
             have hw118_0:=hx118_0
             cases e118
             replace hx118_0:=yC HB.out hx118_0
             replace hx118_1:=yC HB.out hx118_1
             replace p118:=eq_true p118
             replace q118:=eq_true q118
             have p119:0≤(x13_2:Int):=yD
             have q119:x13_2<(l1.length:Int):=yD
             obtain ⟨ad119,e119,hx119_0,hx119_1⟩:=Bh HR1.out x13_2 p119 q119
             have hw119_1:=hx119_1
             have hw119_0:=hx119_0
             obtain rfl:ad118=ad119:=(by injection e119)
             replace hx119_0:=yC HB.out hx119_0
             replace hx119_1:=yC HB.out hx119_1
             replace p119:=eq_true p119
             replace q119:=eq_true q119
             have p120:0≤(x9_1:Int):=yD
             have q120:x9_1<(l1.length:Int):=yD
             obtain ⟨ad120,e120,hx120_0,hx120_1⟩:=Bh HR1.out x9_1 p120 q120
             have hw120_1:=hx120_1
             have hw120_0:=hx120_0
             obtain rfl:ad118=ad120:=(by injection e120)
             replace hx120_0:=yC HB.out hx120_0
             replace hx120_1:=yC HB.out hx120_1
             replace p120:=eq_true p120
             replace q120:=eq_true q120
             refine Bp (n:=35) (S:=fun w'=>w'.cell? ⟨gb117,0,none⟩=some (.int .i64 A8)∧w'.cell? ⟨gb117,1,none⟩=some (.slice A0_1 l0_1.length c0_1)∧w'.cell? (ad118.add ((x9_1).toNat*2))=some (.int .i64 ((An l1 x9_1).f0))∧w'.cell? ⟨(ad118.add ((x9_1).toNat*2)).block,(ad118.add ((x9_1).toNat*2)).off+1,none⟩=some (.int .i64 ((An l1 x9_1).f1))∧w'.cell? (ad118.add ((x13_2).toNat*2))=some (.int .i64 ((An l1 x13_2).f0))∧w'.cell? ⟨(ad118.add ((x13_2).toNat*2)).block,(ad118.add ((x13_2).toNat*2)).off+1,none⟩=some (.int .i64 ((An l1 x13_2).f1))∧w'.cell? (ad118.add ((x9_1).toNat*2))=some (.int .i64 ((An l1 x9_1).f0))∧w'.cell? ⟨(ad118.add ((x9_1).toNat*2)).block,(ad118.add ((x9_1).toNat*2)).off+1,none⟩=some (.int .i64 ((An l1 x9_1).f1))) (ds:=[]) #[false,false,false,false,false,false,false,false,false,false,false,false,false,false,false,false,false,false,false,false,false,false,false,false,false,false,false,false,false,false,false,false,false,false,false] zE rfl rfl ⟨(AK BK117.out 0).trans rfl,(AK BK117.out 1).trans rfl,(yC HB.out hw118_0),(yC HB.out hw118_1),(yC HB.out hw119_0),(yC HB.out hw119_1),(yC HB.out hw120_0),(yC HB.out hw120_1)⟩ (fun hHeld=> ?_); refine BU Ac.tab7 Ac.bits7 (fun HT_ HW_=> ?_)
             generalize wr.drew=w21 at BK117 HB hx118_0 hx118_1 hx119_0 hx119_1 hx120_0 hx120_1 hHeld ⊢
             refine AX (i:=0) (N:=some 16) (v:= ?_) (a':= ?_) #[true,false,false,false,false,false,false,false,false,false,false,false,false,false,false,false,false,false,false,false,false,false,false,false,false,false,false,false,false,false,false,false,false,false,false] rfl rfl (AQ HT_.out zE) (fun _ _ _ h=>h) (Or.inl ⟨by rfl,?_⟩) ?_ ?_; rotate_left; intro w'; go_simp; with_reducible rfl; rotate_left; exact yB
             refine AX (i:=1) (N:=some 17) (v:= ?_) (a':= ?_) #[true,true,false,false,false,false,false,false,false,false,false,false,false,false,false,false,false,false,false,false,false,false,false,false,false,false,false,false,false,false,false,false,false,false,false] rfl rfl (AQ HT_.out zE) (fun _ _ _ h=>h) (Or.inl ⟨by rfl,?_⟩) ?_ ?_; rotate_left; intro w'; go_simp; with_reducible rfl; rotate_left; exact yB
             refine AX (i:=2) (N:=some 18) (v:= ?_) (a':= ?_) #[true,true,true,false,false,false,false,false,false,false,false,false,false,false,false,false,false,false,false,false,false,false,false,false,false,false,false,false,false,false,false,false,false,false,false] rfl rfl (AQ HT_.out zE) (fun _ _ _ h=>h) (Or.inl ⟨by rfl,?_⟩) ?_ ?_; rotate_left; intro w'; go_simp; with_reducible rfl; rotate_left; exact yB
             refine AX (i:=3) (N:=some 19) (v:= ?_) (a':= ?_) #[true,true,true,true,false,false,false,false,false,false,false,false,false,false,false,false,false,false,false,false,false,false,false,false,false,false,false,false,false,false,false,false,false,false,false] rfl rfl (AQ HT_.out zE) (fun _ _ _ h=>h) (Or.inl ⟨by rfl,?_⟩) ?_ ?_; rotate_left; intro w'; go_simp; with_reducible rfl; rotate_left; exact yB
             refine AX (i:=5) (N:=some 21) (v:= ?_) (a':= ?_) #[true,true,true,true,false,true,false,false,false,false,false,false,false,false,false,false,false,false,false,false,false,false,false,false,false,false,false,false,false,false,false,false,false,false,false] rfl rfl (AQ HT_.out zE) (fun _ _ _ h=>h) (Or.inl ⟨by rfl,?_⟩) ?_ ?_; rotate_left; intro w'; go_simp; with_reducible rfl; rotate_left; exact yB
             refine AX (i:=6) (N:=some 22) (v:= ?_) (a':= ?_) #[true,true,true,true,false,true,true,false,false,false,false,false,false,false,false,false,false,false,false,false,false,false,false,false,false,false,false,false,false,false,false,false,false,false,false] rfl rfl (AQ HT_.out zE) (fun _ _ _ h=>h) (Or.inl ⟨by rfl,?_⟩) ?_ ?_; rotate_left; intro w'; go_simp; with_reducible rfl; rotate_left; exact yB
             refine AX (i:=7) (N:=some 23) (v:= ?_) (a':= ?_) #[true,true,true,true,false,true,true,true,false,false,false,false,false,false,false,false,false,false,false,false,false,false,false,false,false,false,false,false,false,false,false,false,false,false,false] rfl rfl (AQ HT_.out zE) (fun _ _ _ h=>h) (Or.inl ⟨by rfl,?_⟩) ?_ ?_; rotate_left; intro w'; go_simp; with_reducible rfl; rotate_left; exact yB
             refine AX (i:=8) (N:=some 24) (v:= ?_) (a':= ?_) #[true,true,true,true,false,true,true,true,true,false,false,false,false,false,false,false,false,false,false,false,false,false,false,false,false,false,false,false,false,false,false,false,false,false,false] rfl rfl (AQ HT_.out zE) (fun _ _ _ h=>h) (Or.inl ⟨by rfl,?_⟩) ?_ ?_; rotate_left; intro w'; go_simp; with_reducible rfl; rotate_left; exact yB
             refine BK (i:=4) (N:=some 20) (v:= ?_) (a':= ?_) #[true,true,true,true,true,true,true,true,true,false,false,false,false,false,false,false,false,false,false,false,false,false,false,false,false,false,false,false,false,false,false,false,false,false,false] rfl rfl (B4 HT_.out HW_.out zE) (fun _ _ _ h=>h) (Or.inl ⟨by rfl,?_⟩) hHeld ?_ ?_; rotate_left; rintro w' ⟨s0,s1,s2,s3,s4,s5,s6,s7⟩; go_simp; with_reducible rfl; rotate_left; exact yB
             refine BK (i:=9) (N:=some 25) (v:= ?_) (a':= ?_) #[true,true,true,true,true,true,true,true,true,true,false,false,false,false,false,false,false,false,false,false,false,false,false,false,false,false,false,false,false,false,false,false,false,false,false] rfl rfl (B4 HT_.out HW_.out zE) (fun _ _ _ h=>h) (Or.inl ⟨by rfl,?_⟩) hHeld ?_ ?_; rotate_left; rintro w' ⟨s0,s1,s2,s3,s4,s5,s6,s7⟩; go_simp; with_reducible rfl; rotate_left; exact yB
             refine AX (i:=10) (N:=some 26) (v:= ?_) (a':= ?_) #[true,true,true,true,true,true,true,true,true,true,true,false,false,false,false,false,false,false,false,false,false,false,false,false,false,false,false,false,false,false,false,false,false,false,false] rfl rfl (AQ HT_.out zE) (fun _ _ _ h=>h) (Or.inl ⟨by rfl,?_⟩) ?_ ?_; rotate_left; intro w'; go_simp; with_reducible rfl; rotate_left; exact yB
             refine AX (i:=11) (N:=some 27) (v:= ?_) (a':= ?_) #[true,true,true,true,true,true,true,true,true,true,true,true,false,false,false,false,false,false,false,false,false,false,false,false,false,false,false,false,false,false,false,false,false,false,false] rfl rfl (AQ HT_.out zE) (fun _ _ _ h=>h) (Or.inl ⟨by rfl,?_⟩) ?_ ?_; rotate_left; intro w'; go_simp; with_reducible rfl; rotate_left; exact yB
             refine AX (i:=12) (N:=some 28) (v:= ?_) (a':= ?_) #[true,true,true,true,true,true,true,true,true,true,true,true,true,false,false,false,false,false,false,false,false,false,false,false,false,false,false,false,false,false,false,false,false,false,false] rfl rfl (AQ HT_.out zE) (fun _ _ _ h=>h) (Or.inl ⟨by rfl,?_⟩) ?_ ?_; rotate_left; intro w'; go_simp; with_reducible rfl; rotate_left; exact yB
             refine AX (i:=13) (N:=some 29) (v:= ?_) (a':= ?_) #[true,true,true,true,true,true,true,true,true,true,true,true,true,true,false,false,false,false,false,false,false,false,false,false,false,false,false,false,false,false,false,false,false,false,false] rfl rfl (AQ HT_.out zE) (fun _ _ _ h=>h) (Or.inl ⟨by rfl,?_⟩) ?_ ?_; rotate_left; intro w'; go_simp; with_reducible rfl; rotate_left; exact yB
             refine AX (i:=14) (N:=some 30) (v:= ?_) (a':= ?_) #[true,true,true,true,true,true,true,true,true,true,true,true,true,true,true,false,false,false,false,false,false,false,false,false,false,false,false,false,false,false,false,false,false,false,false] rfl rfl (AQ HT_.out zE) (fun _ _ _ h=>h) (Or.inl ⟨by rfl,?_⟩) ?_ ?_; rotate_left; intro w'; go_simp; with_reducible rfl; rotate_left; exact yB
             refine AX (i:=15) (N:=some 31) (v:= ?_) (a':= ?_) #[true,true,true,true,true,true,true,true,true,true,true,true,true,true,true,true,false,false,false,false,false,false,false,false,false,false,false,false,false,false,false,false,false,false,false] rfl rfl (AQ HT_.out zE) (fun _ _ _ h=>h) (Or.inl ⟨by rfl,?_⟩) ?_ ?_; rotate_left; intro w'; go_simp; with_reducible rfl; rotate_left; exact yB
             refine AX (i:=18) (N:=some 34) (v:= ?_) (a':= ?_) #[true,true,true,true,true,true,true,true,true,true,true,true,true,true,true,true,false,false,true,false,false,false,false,false,false,false,false,false,false,false,false,false,false,false,false] rfl rfl (AQ HT_.out zE) (fun _ _ _ h=>h) (Or.inl ⟨by rfl,?_⟩) ?_ ?_; rotate_left; intro w'; go_simp; with_reducible rfl; rotate_left; exact yB
             refine AX (i:=19) (N:=some 35) (v:= ?_) (a':= ?_) #[true,true,true,true,true,true,true,true,true,true,true,true,true,true,true,true,false,false,true,true,false,false,false,false,false,false,false,false,false,false,false,false,false,false,false] rfl rfl (AQ HT_.out zE) (fun _ _ _ h=>h) (Or.inl ⟨by rfl,?_⟩) ?_ ?_; rotate_left; intro w'; go_simp; with_reducible rfl; rotate_left; exact yB
             refine BK (i:=16) (N:=some 32) (v:= ?_) (a':= ?_) #[true,true,true,true,true,true,true,true,true,true,true,true,true,true,true,true,true,false,true,true,false,false,false,false,false,false,false,false,false,false,false,false,false,false,false] rfl rfl (B4 HT_.out HW_.out zE) (fun _ _ _ h=>h) (Or.inl ⟨by rfl,?_⟩) hHeld ?_ ?_; rotate_left; rintro w' ⟨s0,s1,s2,s3,s4,s5,s6,s7⟩; go_simp; with_reducible rfl; rotate_left; exact yB
             refine BK (i:=17) (N:=some 33) (v:= ?_) (a':= ?_) #[true,true,true,true,true,true,true,true,true,true,true,true,true,true,true,true,true,true,true,true,false,false,false,false,false,false,false,false,false,false,false,false,false,false,false] rfl rfl (B4 HT_.out HW_.out zE) (fun _ _ _ h=>h) (Or.inl ⟨by rfl,?_⟩) hHeld ?_ ?_; rotate_left; rintro w' ⟨s0,s1,s2,s3,s4,s5,s6,s7⟩; go_simp; with_reducible rfl; rotate_left; exact yB
             refine one_ (i:=20) (N:=some 36) #[true,true,true,true,true,true,true,true,true,true,true,true,true,true,true,true,true,true,true,true,true,false,false,false,false,false,false,false,false,false,false,false,false,false,false] rfl rfl (Bi HT_.out zE) zA2 (fun K hK=> ?_)
             refine C1 Tryd.func22 zE rfl #[.agg #[.int .i64 A8,.slice A0_1 l0_1.length c0_1],.slice (some ad118) l1.length c1,.int .i64 x13_2] (by rfl) rfl rfl zD ?_
             with_reducible refine (BC.calls A8 _ _ l0_1 _ _ l1 x13_2 t121 _ ?side1 ?side2 ?side3 ?side4 A11.out).mono ?_
             (case side1=>repeat (first|exact (Kd.C_below HR0_1.out HB.out)|(with_reducible refine Kd.C_alloc ?_ _)|(with_reducible refine Kd.C_drewN ?_ _)|(with_reducible refine Kd.C_drew ?_)))
             (case side2=>exact HC0_1.out)
             (case side3=>repeat (first|exact (Kd.C_below HR1.out HB.out)|(with_reducible refine Kd.C_alloc ?_ _)|(with_reducible refine Kd.C_drewN ?_ _)|(with_reducible refine Kd.C_drew ?_)))
             (case side4=>exact HC1.out)
             rintro e w22 ⟨rfl,hb⟩
             refine ⟨_,rfl,?_⟩
             have n0_:=yA (AP (g:=gb117) (o:= .cells #[.int .i64 A8,.slice A0_1 l0_1.length c0_1] 33 (0,0)) (by (with_reducible repeat (first|refine AG ?_ _|refine AH ?_|refine AF ?_ _)); exact BK117.out) hb)
             have n1_:=yA (AO zD5 hb)
             clear BK117
             clear HB
             have BK117:=n0_
             have HB:=n1_
             clear n0_ n1_
             (try clear hb)
             (try clear hb2)
             (try clear hk)
             (try clear hi)
             refine hK.out _ _ ⟨(AK BK117.out 0).trans rfl,(AK BK117.out 1).trans rfl,(yC HB.out hw118_0),(yC HB.out hw118_1),(yC HB.out hw119_0),(yC HB.out hw119_1),(yC HB.out hw120_0),(yC HB.out hw120_1)⟩ (fun hHeld=> ?_)
             clear hK K
             refine Bq (a':= ?_) ?_ ?_; rotate_left; show Act.put _ (some 36) _=_; exact yB
             refine AX (i:=21) (N:=some 37) (v:= ?_) (a':= ?_) #[true,true,true,true,true,true,true,true,true,true,true,true,true,true,true,true,true,true,true,true,true,true,false,false,false,false,false,false,false,false,false,false,false,false,false] rfl rfl (AQ HT_.out zE) (fun _ _ _ h=>h) (Or.inl ⟨by rfl,?_⟩) ?_ ?_; rotate_left; intro w'; go_simp; with_reducible rfl; rotate_left; exact yB
             refine AX (i:=22) (N:=some 38) (v:= ?_) (a':= ?_) #[true,true,true,true,true,true,true,true,true,true,true,true,true,true,true,true,true,true,true,true,true,true,true,false,false,false,false,false,false,false,false,false,false,false,false] rfl rfl (AQ HT_.out zE) (fun _ _ _ h=>h) (Or.inl ⟨by rfl,?_⟩) ?_ ?_; rotate_left; intro w'; go_simp; with_reducible rfl; rotate_left; exact yB
             refine AX (i:=23) (N:=some 39) (v:= ?_) (a':= ?_) #[true,true,true,true,true,true,true,true,true,true,true,true,true,true,true,true,true,true,true,true,true,true,true,true,false,false,false,false,false,false,false,false,false,false,false] rfl rfl (AQ HT_.out zE) (fun _ _ _ h=>h) (Or.inl ⟨by rfl,?_⟩) ?_ ?_; rotate_left; intro w'; go_simp; with_reducible rfl; rotate_left; exact yB
             refine AX (i:=24) (N:=some 40) (v:=undef) (a':= ?_) #[true,true,true,true,true,true,true,true,true,true,true,true,true,true,true,true,true,true,true,true,true,true,true,true,true,false,false,false,false,false,false,false,false,false,false] rfl rfl (AQ HT_.out zE) (fun _ _ _ h=>h) (Or.inr ⟨by rfl,rfl⟩) ?_ ?_
             rotate_left
             ·exact yB
             refine AX (i:=25) (N:=some 41) (v:=undef) (a':= ?_) #[true,true,true,true,true,true,true,true,true,true,true,true,true,true,true,true,true,true,true,true,true,true,true,true,true,true,false,false,false,false,false,false,false,false,false] rfl rfl (AQ HT_.out zE) (fun _ _ _ h=>h) (Or.inr ⟨by rfl,rfl⟩) ?_ ?_
             rotate_left
             ·exact yB
             refine AX (i:=26) (N:=some 42) (v:=undef) (a':= ?_) #[true,true,true,true,true,true,true,true,true,true,true,true,true,true,true,true,true,true,true,true,true,true,true,true,true,true,true,false,false,false,false,false,false,false,false] rfl rfl (AQ HT_.out zE) (fun _ _ _ h=>h) (Or.inr ⟨by rfl,rfl⟩) ?_ ?_
             rotate_left
             ·exact yB
             refine AX (i:=27) (N:=some 43) (v:=undef) (a':= ?_) #[true,true,true,true,true,true,true,true,true,true,true,true,true,true,true,true,true,true,true,true,true,true,true,true,true,true,true,true,false,false,false,false,false,false,false] rfl rfl (AQ HT_.out zE) (fun _ _ _ h=>h) (Or.inr ⟨by rfl,rfl⟩) ?_ ?_
             rotate_left
             ·exact yB
             refine AX (i:=28) (N:=some 44) (v:=undef) (a':= ?_) #[true,true,true,true,true,true,true,true,true,true,true,true,true,true,true,true,true,true,true,true,true,true,true,true,true,true,true,true,true,false,false,false,false,false,false] rfl rfl (AQ HT_.out zE) (fun _ _ _ h=>h) (Or.inr ⟨by rfl,rfl⟩) ?_ ?_
             rotate_left
             ·exact yB
             refine AX (i:=29) (N:=some 45) (v:=undef) (a':= ?_) #[true,true,true,true,true,true,true,true,true,true,true,true,true,true,true,true,true,true,true,true,true,true,true,true,true,true,true,true,true,true,false,false,false,false,false] rfl rfl (AQ HT_.out zE) (fun _ _ _ h=>h) (Or.inr ⟨by rfl,rfl⟩) ?_ ?_
             rotate_left
             ·exact yB
             refine AX (i:=30) (N:=some 46) (v:=undef) (a':= ?_) #[true,true,true,true,true,true,true,true,true,true,true,true,true,true,true,true,true,true,true,true,true,true,true,true,true,true,true,true,true,true,true,false,false,false,false] rfl rfl (AQ HT_.out zE) (fun _ _ _ h=>h) (Or.inr ⟨by rfl,rfl⟩) ?_ ?_
             rotate_left
             ·exact yB
             refine AX (i:=31) (N:=some 47) (v:=undef) (a':= ?_) #[true,true,true,true,true,true,true,true,true,true,true,true,true,true,true,true,true,true,true,true,true,true,true,true,true,true,true,true,true,true,true,true,false,false,false] rfl rfl (AQ HT_.out zE) (fun _ _ _ h=>h) (Or.inr ⟨by rfl,rfl⟩) ?_ ?_
             rotate_left
             ·exact yB
             refine AX (i:=32) (N:=some 48) (v:=undef) (a':= ?_) #[true,true,true,true,true,true,true,true,true,true,true,true,true,true,true,true,true,true,true,true,true,true,true,true,true,true,true,true,true,true,true,true,true,false,false] rfl rfl (AQ HT_.out zE) (fun _ _ _ h=>h) (Or.inr ⟨by rfl,rfl⟩) ?_ ?_
             rotate_left
             ·exact yB
             refine AX (i:=33) (N:=some 49) (v:=undef) (a':= ?_) #[true,true,true,true,true,true,true,true,true,true,true,true,true,true,true,true,true,true,true,true,true,true,true,true,true,true,true,true,true,true,true,true,true,true,false] rfl rfl (AQ HT_.out zE) (fun _ _ _ h=>h) (Or.inr ⟨by rfl,rfl⟩) ?_ ?_
             rotate_left
             ·exact yB
             refine AX (i:=34) (N:=some 50) (v:= ?_) (a':= ?_) #[true,true,true,true,true,true,true,true,true,true,true,true,true,true,true,true,true,true,true,true,true,true,true,true,true,true,true,true,true,true,true,true,true,true,true] rfl rfl (AQ HT_.out zE) (fun _ _ _ h=>h) (Or.inl ⟨by rfl,?_⟩) ?_ ?_; rotate_left; intro w'; go_simp; with_reducible rfl; rotate_left; exact yB
             refine C7 (Bm HT_.out zE) ?_
             try go_wp2
             go_roundg k2
             case measure=>have:=HK1.out; have:=HK2.out; omega
             case rel=>exact ⟨(wrap64 (x13_2+1)),zG,H',⟨by have:=HK1.out; have:=HK2.out; omega⟩,⟨by (with_reducible repeat (first|refine AG ?_ _|refine AH ?_|refine AF ?_ _)); exact BK117.out⟩,⟨by repeat (first|(with_reducible first|exact HB.out|apply AE|apply AC|apply AD|refine AI ?_ GE117.out)|exact HB.out)⟩⟩
           ·rw [if_neg c10] at H
            have c10b0:(((An l1 x9_1).f0)==((An l1 x13_2).f0))=false:=beq_eq_false_iff_ne.mpr c10
            have c10b1:(((An l1 x9_1).f0) !=((An l1 x13_2).f0))=true:=bne_iff_ne.mpr c10
            have H':=yA H
            clear H
            try go_wp2
            have n0_:=yA (AH BK117.out)
            have n1_:=yA (AD HB.out)
            clear BK117
            clear HB
            have BK117:=n0_
            have HB:=n1_
            clear n0_ n1_
            have p118:0≤(x9_1:Int):=yD
            have q118:x9_1<(l1.length:Int):=yD
            obtain ⟨ad118,e118,hx118_0,hx118_1⟩:=Bh HR1.out x9_1 p118 q118
            have hw118_1:=hx118_1
            have hw118_0:=hx118_0
            cases e118
            replace hx118_0:=yC HB.out hx118_0
            replace hx118_1:=yC HB.out hx118_1
            replace p118:=eq_true p118
            replace q118:=eq_true q118
            have p119:0≤(x13_2:Int):=yD
            have q119:x13_2<(l1.length:Int):=yD
            obtain ⟨ad119,e119,hx119_0,hx119_1⟩:=Bh HR1.out x13_2 p119 q119
            have hw119_1:=hx119_1
            have hw119_0:=hx119_0
            obtain rfl:ad118=ad119:=(by injection e119)
            replace hx119_0:=yC HB.out hx119_0
            replace hx119_1:=yC HB.out hx119_1
            replace p119:=eq_true p119
            replace q119:=eq_true q119
            refine Bp (n:=35) (S:=fun w'=>w'.cell? (ad118.add ((x9_1).toNat*2))=some (.int .i64 ((An l1 x9_1).f0))∧w'.cell? ⟨(ad118.add ((x9_1).toNat*2)).block,(ad118.add ((x9_1).toNat*2)).off+1,none⟩=some (.int .i64 ((An l1 x9_1).f1))∧w'.cell? (ad118.add ((x13_2).toNat*2))=some (.int .i64 ((An l1 x13_2).f0))∧w'.cell? ⟨(ad118.add ((x13_2).toNat*2)).block,(ad118.add ((x13_2).toNat*2)).off+1,none⟩=some (.int .i64 ((An l1 x13_2).f1))) (ds:=[]) #[false,false,false,false,false,false,false,false,false,false,false,false,false,false,false,false,false,false,false,false,false,false,false,false,false,false,false,false,false,false,false,false,false,false,false] zE rfl rfl ⟨(yC HB.out hw118_0),(yC HB.out hw118_1),(yC HB.out hw119_0),(yC HB.out hw119_1)⟩ (fun hHeld=> ?_); refine BU Ac.tab7 Ac.bits7 (fun HT_ HW_=> ?_)
            generalize wr.drew=w23 at BK117 HB hx118_0 hx118_1 hx119_0 hx119_1 hHeld ⊢
            refine AX (i:=0) (N:=some 16) (v:= ?_) (a':= ?_) #[true,false,false,false,false,false,false,false,false,false,false,false,false,false,false,false,false,false,false,false,false,false,false,false,false,false,false,false,false,false,false,false,false,false,false] rfl rfl (AQ HT_.out zE) (fun _ _ _ h=>h) (Or.inl ⟨by rfl,?_⟩) ?_ ?_; rotate_left; intro w'; go_simp; with_reducible rfl; rotate_left; exact yB
            refine AX (i:=1) (N:=some 17) (v:= ?_) (a':= ?_) #[true,true,false,false,false,false,false,false,false,false,false,false,false,false,false,false,false,false,false,false,false,false,false,false,false,false,false,false,false,false,false,false,false,false,false] rfl rfl (AQ HT_.out zE) (fun _ _ _ h=>h) (Or.inl ⟨by rfl,?_⟩) ?_ ?_; rotate_left; intro w'; go_simp; with_reducible rfl; rotate_left; exact yB
            refine AX (i:=2) (N:=some 18) (v:= ?_) (a':= ?_) #[true,true,true,false,false,false,false,false,false,false,false,false,false,false,false,false,false,false,false,false,false,false,false,false,false,false,false,false,false,false,false,false,false,false,false] rfl rfl (AQ HT_.out zE) (fun _ _ _ h=>h) (Or.inl ⟨by rfl,?_⟩) ?_ ?_; rotate_left; intro w'; go_simp; with_reducible rfl; rotate_left; exact yB
            refine AX (i:=3) (N:=some 19) (v:= ?_) (a':= ?_) #[true,true,true,true,false,false,false,false,false,false,false,false,false,false,false,false,false,false,false,false,false,false,false,false,false,false,false,false,false,false,false,false,false,false,false] rfl rfl (AQ HT_.out zE) (fun _ _ _ h=>h) (Or.inl ⟨by rfl,?_⟩) ?_ ?_; rotate_left; intro w'; go_simp; with_reducible rfl; rotate_left; exact yB
            refine AX (i:=5) (N:=some 21) (v:= ?_) (a':= ?_) #[true,true,true,true,false,true,false,false,false,false,false,false,false,false,false,false,false,false,false,false,false,false,false,false,false,false,false,false,false,false,false,false,false,false,false] rfl rfl (AQ HT_.out zE) (fun _ _ _ h=>h) (Or.inl ⟨by rfl,?_⟩) ?_ ?_; rotate_left; intro w'; go_simp; with_reducible rfl; rotate_left; exact yB
            refine AX (i:=6) (N:=some 22) (v:= ?_) (a':= ?_) #[true,true,true,true,false,true,true,false,false,false,false,false,false,false,false,false,false,false,false,false,false,false,false,false,false,false,false,false,false,false,false,false,false,false,false] rfl rfl (AQ HT_.out zE) (fun _ _ _ h=>h) (Or.inl ⟨by rfl,?_⟩) ?_ ?_; rotate_left; intro w'; go_simp; with_reducible rfl; rotate_left; exact yB
            refine AX (i:=7) (N:=some 23) (v:= ?_) (a':= ?_) #[true,true,true,true,false,true,true,true,false,false,false,false,false,false,false,false,false,false,false,false,false,false,false,false,false,false,false,false,false,false,false,false,false,false,false] rfl rfl (AQ HT_.out zE) (fun _ _ _ h=>h) (Or.inl ⟨by rfl,?_⟩) ?_ ?_; rotate_left; intro w'; go_simp; with_reducible rfl; rotate_left; exact yB
            refine AX (i:=8) (N:=some 24) (v:= ?_) (a':= ?_) #[true,true,true,true,false,true,true,true,true,false,false,false,false,false,false,false,false,false,false,false,false,false,false,false,false,false,false,false,false,false,false,false,false,false,false] rfl rfl (AQ HT_.out zE) (fun _ _ _ h=>h) (Or.inl ⟨by rfl,?_⟩) ?_ ?_; rotate_left; intro w'; go_simp; with_reducible rfl; rotate_left; exact yB
            refine BK (i:=4) (N:=some 20) (v:= ?_) (a':= ?_) #[true,true,true,true,true,true,true,true,true,false,false,false,false,false,false,false,false,false,false,false,false,false,false,false,false,false,false,false,false,false,false,false,false,false,false] rfl rfl (B4 HT_.out HW_.out zE) (fun _ _ _ h=>h) (Or.inl ⟨by rfl,?_⟩) hHeld ?_ ?_; rotate_left; rintro w' ⟨s0,s1,s2,s3⟩; go_simp; with_reducible rfl; rotate_left; exact yB
            refine BK (i:=9) (N:=some 25) (v:= ?_) (a':= ?_) #[true,true,true,true,true,true,true,true,true,true,false,false,false,false,false,false,false,false,false,false,false,false,false,false,false,false,false,false,false,false,false,false,false,false,false] rfl rfl (B4 HT_.out HW_.out zE) (fun _ _ _ h=>h) (Or.inl ⟨by rfl,?_⟩) hHeld ?_ ?_; rotate_left; rintro w' ⟨s0,s1,s2,s3⟩; go_simp; with_reducible rfl; rotate_left; exact yB
            refine AX (i:=10) (N:=some 26) (v:= ?_) (a':= ?_) #[true,true,true,true,true,true,true,true,true,true,true,false,false,false,false,false,false,false,false,false,false,false,false,false,false,false,false,false,false,false,false,false,false,false,false] rfl rfl (AQ HT_.out zE) (fun _ _ _ h=>h) (Or.inl ⟨by rfl,?_⟩) ?_ ?_; rotate_left; intro w'; go_simp; with_reducible rfl; rotate_left; exact yB
            refine AX (i:=11) (N:=some 27) (v:= ?_) (a':= ?_) #[true,true,true,true,true,true,true,true,true,true,true,true,false,false,false,false,false,false,false,false,false,false,false,false,false,false,false,false,false,false,false,false,false,false,false] rfl rfl (AQ HT_.out zE) (fun _ _ _ h=>h) (Or.inl ⟨by rfl,?_⟩) ?_ ?_; rotate_left; intro w'; go_simp; with_reducible rfl; rotate_left; exact yB
            refine AX (i:=12) (N:=some 28) (v:=undef) (a':= ?_) #[true,true,true,true,true,true,true,true,true,true,true,true,true,false,false,false,false,false,false,false,false,false,false,false,false,false,false,false,false,false,false,false,false,false,false] rfl rfl (AQ HT_.out zE) (fun _ _ _ h=>h) (Or.inr ⟨by rfl,rfl⟩) ?_ ?_
            rotate_left
            ·exact yB
            refine AX (i:=13) (N:=some 29) (v:=undef) (a':= ?_) #[true,true,true,true,true,true,true,true,true,true,true,true,true,true,false,false,false,false,false,false,false,false,false,false,false,false,false,false,false,false,false,false,false,false,false] rfl rfl (AQ HT_.out zE) (fun _ _ _ h=>h) (Or.inr ⟨by rfl,rfl⟩) ?_ ?_
            rotate_left
            ·exact yB
            refine AX (i:=14) (N:=some 30) (v:=undef) (a':= ?_) #[true,true,true,true,true,true,true,true,true,true,true,true,true,true,true,false,false,false,false,false,false,false,false,false,false,false,false,false,false,false,false,false,false,false,false] rfl rfl (AQ HT_.out zE) (fun _ _ _ h=>h) (Or.inr ⟨by rfl,rfl⟩) ?_ ?_
            rotate_left
            ·exact yB
            refine AX (i:=15) (N:=some 31) (v:=undef) (a':= ?_) #[true,true,true,true,true,true,true,true,true,true,true,true,true,true,true,true,false,false,false,false,false,false,false,false,false,false,false,false,false,false,false,false,false,false,false] rfl rfl (AQ HT_.out zE) (fun _ _ _ h=>h) (Or.inr ⟨by rfl,rfl⟩) ?_ ?_
            rotate_left
            ·exact yB
            refine AX (i:=16) (N:=some 32) (v:=undef) (a':= ?_) #[true,true,true,true,true,true,true,true,true,true,true,true,true,true,true,true,true,false,false,false,false,false,false,false,false,false,false,false,false,false,false,false,false,false,false] rfl rfl (AQ HT_.out zE) (fun _ _ _ h=>h) (Or.inr ⟨by rfl,rfl⟩) ?_ ?_
            rotate_left
            ·exact yB
            refine AX (i:=17) (N:=some 33) (v:=undef) (a':= ?_) #[true,true,true,true,true,true,true,true,true,true,true,true,true,true,true,true,true,true,false,false,false,false,false,false,false,false,false,false,false,false,false,false,false,false,false] rfl rfl (AQ HT_.out zE) (fun _ _ _ h=>h) (Or.inr ⟨by rfl,rfl⟩) ?_ ?_
            rotate_left
            ·exact yB
            refine AX (i:=18) (N:=some 34) (v:=undef) (a':= ?_) #[true,true,true,true,true,true,true,true,true,true,true,true,true,true,true,true,true,true,true,false,false,false,false,false,false,false,false,false,false,false,false,false,false,false,false] rfl rfl (AQ HT_.out zE) (fun _ _ _ h=>h) (Or.inr ⟨by rfl,rfl⟩) ?_ ?_
            rotate_left
            ·exact yB
            refine AX (i:=19) (N:=some 35) (v:=undef) (a':= ?_) #[true,true,true,true,true,true,true,true,true,true,true,true,true,true,true,true,true,true,true,true,false,false,false,false,false,false,false,false,false,false,false,false,false,false,false] rfl rfl (AQ HT_.out zE) (fun _ _ _ h=>h) (Or.inr ⟨by rfl,rfl⟩) ?_ ?_
            rotate_left
            ·exact yB
            refine AX (i:=20) (N:=some 36) (v:=undef) (a':= ?_) #[true,true,true,true,true,true,true,true,true,true,true,true,true,true,true,true,true,true,true,true,true,false,false,false,false,false,false,false,false,false,false,false,false,false,false] rfl rfl (AQ HT_.out zE) (fun _ _ _ h=>h) (Or.inr ⟨by rfl,rfl⟩) ?_ ?_
            rotate_left
            ·exact yB
            refine AX (i:=21) (N:=some 37) (v:=undef) (a':= ?_) #[true,true,true,true,true,true,true,true,true,true,true,true,true,true,true,true,true,true,true,true,true,true,false,false,false,false,false,false,false,false,false,false,false,false,false] rfl rfl (AQ HT_.out zE) (fun _ _ _ h=>h) (Or.inr ⟨by rfl,rfl⟩) ?_ ?_
            rotate_left
            ·exact yB
            refine AX (i:=22) (N:=some 38) (v:= ?_) (a':= ?_) #[true,true,true,true,true,true,true,true,true,true,true,true,true,true,true,true,true,true,true,true,true,true,true,false,false,false,false,false,false,false,false,false,false,false,false] rfl rfl (AQ HT_.out zE) (fun _ _ _ h=>h) (Or.inl ⟨by rfl,?_⟩) ?_ ?_; rotate_left; intro w'; go_simp; with_reducible rfl; rotate_left; exact yB
            refine AX (i:=23) (N:=some 39) (v:= ?_) (a':= ?_) #[true,true,true,true,true,true,true,true,true,true,true,true,true,true,true,true,true,true,true,true,true,true,true,true,false,false,false,false,false,false,false,false,false,false,false] rfl rfl (AQ HT_.out zE) (fun _ _ _ h=>h) (Or.inl ⟨by rfl,?_⟩) ?_ ?_; rotate_left; intro w'; go_simp; with_reducible rfl; rotate_left; exact yB
            refine AX (i:=24) (N:=some 40) (v:=undef) (a':= ?_) #[true,true,true,true,true,true,true,true,true,true,true,true,true,true,true,true,true,true,true,true,true,true,true,true,true,false,false,false,false,false,false,false,false,false,false] rfl rfl (AQ HT_.out zE) (fun _ _ _ h=>h) (Or.inr ⟨by rfl,rfl⟩) ?_ ?_
            rotate_left
            ·exact yB
            refine AX (i:=25) (N:=some 41) (v:=undef) (a':= ?_) #[true,true,true,true,true,true,true,true,true,true,true,true,true,true,true,true,true,true,true,true,true,true,true,true,true,true,false,false,false,false,false,false,false,false,false] rfl rfl (AQ HT_.out zE) (fun _ _ _ h=>h) (Or.inr ⟨by rfl,rfl⟩) ?_ ?_
            rotate_left
            ·exact yB
            refine AX (i:=26) (N:=some 42) (v:=undef) (a':= ?_) #[true,true,true,true,true,true,true,true,true,true,true,true,true,true,true,true,true,true,true,true,true,true,true,true,true,true,true,false,false,false,false,false,false,false,false] rfl rfl (AQ HT_.out zE) (fun _ _ _ h=>h) (Or.inr ⟨by rfl,rfl⟩) ?_ ?_
            rotate_left
            ·exact yB
            refine AX (i:=27) (N:=some 43) (v:=undef) (a':= ?_) #[true,true,true,true,true,true,true,true,true,true,true,true,true,true,true,true,true,true,true,true,true,true,true,true,true,true,true,true,false,false,false,false,false,false,false] rfl rfl (AQ HT_.out zE) (fun _ _ _ h=>h) (Or.inr ⟨by rfl,rfl⟩) ?_ ?_
            rotate_left
            ·exact yB
            refine AX (i:=28) (N:=some 44) (v:=undef) (a':= ?_) #[true,true,true,true,true,true,true,true,true,true,true,true,true,true,true,true,true,true,true,true,true,true,true,true,true,true,true,true,true,false,false,false,false,false,false] rfl rfl (AQ HT_.out zE) (fun _ _ _ h=>h) (Or.inr ⟨by rfl,rfl⟩) ?_ ?_
            rotate_left
            ·exact yB
            refine AX (i:=29) (N:=some 45) (v:=undef) (a':= ?_) #[true,true,true,true,true,true,true,true,true,true,true,true,true,true,true,true,true,true,true,true,true,true,true,true,true,true,true,true,true,true,false,false,false,false,false] rfl rfl (AQ HT_.out zE) (fun _ _ _ h=>h) (Or.inr ⟨by rfl,rfl⟩) ?_ ?_
            rotate_left
            ·exact yB
            refine AX (i:=30) (N:=some 46) (v:=undef) (a':= ?_) #[true,true,true,true,true,true,true,true,true,true,true,true,true,true,true,true,true,true,true,true,true,true,true,true,true,true,true,true,true,true,true,false,false,false,false] rfl rfl (AQ HT_.out zE) (fun _ _ _ h=>h) (Or.inr ⟨by rfl,rfl⟩) ?_ ?_
            rotate_left
            ·exact yB
            refine AX (i:=31) (N:=some 47) (v:=undef) (a':= ?_) #[true,true,true,true,true,true,true,true,true,true,true,true,true,true,true,true,true,true,true,true,true,true,true,true,true,true,true,true,true,true,true,true,false,false,false] rfl rfl (AQ HT_.out zE) (fun _ _ _ h=>h) (Or.inr ⟨by rfl,rfl⟩) ?_ ?_
            rotate_left
            ·exact yB
            refine AX (i:=32) (N:=some 48) (v:=undef) (a':= ?_) #[true,true,true,true,true,true,true,true,true,true,true,true,true,true,true,true,true,true,true,true,true,true,true,true,true,true,true,true,true,true,true,true,true,false,false] rfl rfl (AQ HT_.out zE) (fun _ _ _ h=>h) (Or.inr ⟨by rfl,rfl⟩) ?_ ?_
            rotate_left
            ·exact yB
            refine AX (i:=33) (N:=some 49) (v:=undef) (a':= ?_) #[true,true,true,true,true,true,true,true,true,true,true,true,true,true,true,true,true,true,true,true,true,true,true,true,true,true,true,true,true,true,true,true,true,true,false] rfl rfl (AQ HT_.out zE) (fun _ _ _ h=>h) (Or.inr ⟨by rfl,rfl⟩) ?_ ?_
            rotate_left
            ·exact yB
            refine AX (i:=34) (N:=some 50) (v:= ?_) (a':= ?_) #[true,true,true,true,true,true,true,true,true,true,true,true,true,true,true,true,true,true,true,true,true,true,true,true,true,true,true,true,true,true,true,true,true,true,true] rfl rfl (AQ HT_.out zE) (fun _ _ _ h=>h) (Or.inl ⟨by rfl,?_⟩) ?_ ?_; rotate_left; intro w'; go_simp; with_reducible rfl; rotate_left; exact yB
            refine C7 (Bm HT_.out zE) ?_
            try go_wp2
            go_roundg k2
            case measure=>have:=HK1.out; have:=HK2.out; omega
            case rel=>exact ⟨(wrap64 (x13_2+1)),zG,H',⟨by have:=HK1.out; have:=HK2.out; omega⟩,⟨by (with_reducible repeat (first|refine AG ?_ _|refine AH ?_|refine AF ?_ _)); exact BK117.out⟩,⟨by repeat (first|(with_reducible first|exact HB.out|apply AE|apply AC|apply AD|refine AI ?_ GE117.out)|exact HB.out)⟩⟩
          ·rw [if_neg c9] at H
           exact absurd H zA6
         ·rw [if_neg c8] at H
          exact absurd H zA6
        ·rw [if_neg c7] at H
         exact absurd H zA6
       ·rw [if_neg c6] at H
        exact absurd H zA6
      ·rw [if_neg c5] at H
       have c5b0:decide (x13_2<x9_1)=false:=decide_eq_false c5
       clear c5
       have H':=yA H
       clear H
       go_wp2
       go_roundg k2
       case measure=>have:=HK1.out; have:=HK2.out; omega
       case rel=>exact ⟨(wrap64 (x9_1+1)),zG,H',⟨by have:=HK1.out; have:=HK2.out; omega⟩,⟨by (with_reducible repeat (first|refine AG ?_ _|refine AH ?_|refine AF ?_ _)); exact BK117.out⟩,⟨by repeat (first|(with_reducible first|exact HB.out|apply AE|apply AC|apply AD|refine AI ?_ GE117.out)|exact HB.out)⟩⟩
   ·rw [if_neg c4] at H
    have c4b0:decide (x9_1<(l1.length:Int))=false:=decide_eq_false c4
    clear c4
    obtain rfl:=Option.some.inj H
    go_wp2
    go_ret
    exact ⟨by first|rfl|(simp [AZ,AY]<;>rfl)|(simp [*,AZ,AY]<;>rfl),by repeat (first|(with_reducible first|exact HB.out|apply AE|apply AC|apply AD|refine AI ?_ GE117.out)|exact HB.out)⟩
end Go.Proofs.YtdadecjefafflaaDoor.PChk
end
section
namespace Go.Proofs.YtdadecjefafflaaDoor.PChk
set_option maxRecDepth 100000
open Go.RowKit Go.Proofs.YtdadecjefafflaaDoorW.PrintWords Go.Proofs.YtdadecjefafflaaDoorW.PrintLast Go.Proofs.YtdadecjefafflaaDoorW.PrintMore
attribute [local go_sem] Ba BX Be Bd BS BR BZ BW
def PredS (w0:World) (g:Nat) (lb:Array Value) (p:S56→Bool):Prop:=
 ∀(W:World) (x:S56),Below w0.heap.size w0 W→Calls Tryd.prog g (#[.agg #[.int .i64 x.f0,.int .i64 x.f1]]++lb) W fun e w'=>e= .returned (.bool (p x))∧Below w0.heap.size w0 w'
open Go.Shelf in
theorem ixf_S (w0:World) (g:Nat) (lb:Array Value) (p:S56→Bool) (eg:∀args w,(callFunc g args).run Tryd.prog w= .ok (.enter g args) w) (hp:PredS w0 g lb p)
  (A:Option Addr) (c:Nat) (l:List S56) (hr:Kd.C k56 w0 A l.length l) (w:World) (hw:Below w0.heap.size w0 w):
  Calls Tryd.prog 54 #[.slice A l.length c,.func (.func g) #[] lb] w fun e w'=>e= .returned (.int .i64 (ixGo p l 0))∧Below w0.heap.size w0 w':=by
 have HL:=yA hr.2.1
 have HR:=yA hr
 have HW:=yA hw
 have HP:=yA hp
 clear hr hw hp
 go_enter Tryd.func54,Tryd.ntmps54
 go_wp2
 go_loopg [5,8] l.length (fun gg v5 v8 w'=>∃n:Nat,v8= .int .i64 (n:Int)∧Aside0 (n≤l.length)∧Aside0 (l.length-n≤gg)∧Aside0 (ixGo p (l.drop n) n=ixGo p l 0)∧Aside0 (Below w0.heap.size w0 w'))
 case atStart=>exact ⟨0,rfl,⟨Nat.zero_le _⟩,⟨by omega⟩,⟨by rw [List.drop_zero]⟩,⟨by repeat (first|exact HW.out|apply AC|apply AD)⟩⟩
 case round=>
  obtain ⟨n,rfl,H1,H2,H3,HB⟩:=hrel
  by_cases c1:n<l.length
  ·have c1b:decide ((n:Int)<(l.length:Int))=true:=decide_eq_true zI
   obtain ⟨ad,e1,hx0,hx1⟩:=Bh HR.out (n:Int) zI zI
   cases e1
   replace hx0:=(HB.out.cell (World.block_lt_of_cell? w0 _ hx0)).trans hx0
   replace hx1:=(HB.out.cell (World.block_lt_of_cell? w0 _ hx1)).trans hx1
   have hq:=HP.out wr (An l n) HB.out
   have h3:=yA (H3.out.symm.trans (Dk p l z56 n c1))
   have hy:l.getD n z56=An l n:=rfl
   rw [hy] at h3
   clear hy
   simp only [Int.toNat_natCast] at hx0 hx1
   cases c2:p (An l n) with
   | true=>
    rw [c2] at hq
    go_wp2_with (first|(go_at_fn g; (with_reducible refine hq.mono ?_); rintro e w' ⟨rfl,hb⟩))
    go_ret
    exact ⟨by rw [h3.out,if_pos c2]; rfl,hb⟩
   | false=>
    rw [c2] at hq
    go_wp2_with (first|(go_at_fn g; (with_reducible refine hq.mono ?_); rintro e w' ⟨rfl,hb⟩))
    go_roundg (l.length-(n+1))
    case measure=>have:=H2.out; omega
    case rel=>exact ⟨n+1,by have:=HL.out; rw [show wrap64 ((n:Int)+1)=((n+1:Nat):Int) from by unfold wrap64; omega],⟨by omega⟩,⟨by omega⟩,⟨by rw [h3.out,if_neg (by simp [c2])]⟩,⟨hb⟩⟩
  ·have c1b:decide ((n:Int)<(l.length:Int))=false:=decide_eq_false zI
   have h3:=yA H3.out
   go_wp2
   go_ret
   exact ⟨by rw [←h3.out,List.drop_eq_nil_of_le zI]; rfl,by repeat (first|exact HB.out|apply AC|apply AD)⟩
open Go.Shelf in
theorem ctf_S (w0:World) (g:Nat) (lb:Array Value) (p:S56→Bool) (eg:∀args w,(callFunc g args).run Tryd.prog w= .ok (.enter g args) w) (hp:PredS w0 g lb p)
  (A:Option Addr) (c:Nat) (l:List S56) (hr:Kd.C k56 w0 A l.length l):
  Calls Tryd.prog 34 #[.slice A l.length c,.func (.func g) #[] lb] w0 fun e w'=>e= .returned (.bool (l.any p))∧Below w0.heap.size w0 w':=by
 have hq:=fun w (hw:Below w0.heap.size w0 w)=>ixf_S w0 g lb p eg hp A c l hr w hw
 have ha:=yA (DP p l 0)
 clear hp hr
 go_enter Tryd.func34,Tryd.ntmps34
 go_wp2_with (first|(go_at_call 54; (with_reducible refine (hq _ (by repeat (first|exact Below.refl _ _|apply AC|apply AD))).mono ?_); rintro e w' ⟨rfl,hb⟩))
 go_ret
 exact ⟨by rw [←ha.out]; rfl,hb⟩
def Bg (m:Int) (x:S56):Bool:=((decide (x.f0<0)||decide (m≤x.f0))||decide (x.f1<0))||decide (1000000<x.f1)
theorem Fp (m:Int) (x:S56) (v1:Value) (g:Nat) (w:World) (hb:w.heap[g]? =some (.cells #[.int .i64 m,v1] 33 (0,0))):
  Calls Tryd.prog 33 #[.agg #[.int .i64 x.f0,.int .i64 x.f1],.pointer (some ⟨g,0,none⟩)] w fun e w'=>e= .returned (.bool (Bg m x))∧Below w.heap.size w w':=by
 have hc:w.cell? ⟨g,0,none⟩=some (.int .i64 m):=(AK hb 0).trans rfl
 have hf:=AJ hb 0
 have hlt:g<w.heap.size:=B0 hb
 have hne:g≠w.heap.size:=by omega
 clear hb
 unfold Bg
 cases h1:decide (x.f0<0) with
 | true=>
  go_enter Tryd.func33,Tryd.ntmps33
  go_wp2
  all_goals (go_ret; exact ⟨by first|rfl|(simp; done)|(simp [*]; done),(Below.refl _ _).alloc (Nat.le_refl _) _⟩)
 | false=>
  cases h2:decide (m≤x.f0) with
  | true=>
   go_enter Tryd.func33,Tryd.ntmps33
   go_wp2
   all_goals (go_ret; exact ⟨by first|rfl|(simp; done)|(simp [*]; done),(Below.refl _ _).alloc (Nat.le_refl _) _⟩)
  | false=>
   cases h3:decide (x.f1<0) with
   | true=>
    go_enter Tryd.func33,Tryd.ntmps33
    go_wp2
    all_goals (go_ret; exact ⟨by first|rfl|(simp; done)|(simp [*]; done),(Below.refl _ _).alloc (Nat.le_refl _) _⟩)
   | false=>
    go_enter Tryd.func33,Tryd.ntmps33
    go_wp2
    all_goals (go_ret; exact ⟨by first|rfl|(simp; done)|(simp [*]; done),(Below.refl _ _).alloc (Nat.le_refl _) _⟩)
def By.f (l0:List S56) (a1:Int):Option Bool:=some (l0.any (Bg a1))
open Go.Shelf in
theorem By.calls (A0:Option Addr) (c0:Nat) (l0:List S56) (a1:Int) (r:Bool) (w:World) (hr0:Kd.C k56 w A0 l0.length l0) (hc0:l0.length≤c0) (h:By.f l0 a1=some r)
  {g:Nat} {v1:Value} (hb:w.heap[g]? =some (.cells #[.int .i64 a1,v1] 33 (0,0))):
  Calls Tryd.prog 34 #[.slice A0 l0.length c0,.func (.func 33) #[] #[.pointer (some ⟨g,0,none⟩)]] w fun e w'=>e= .returned (.bool r)∧Below w.heap.size w w':=by
 obtain rfl:=Option.some.inj h
 have hp:PredS w 33 #[.pointer (some ⟨g,0,none⟩)] (Bg a1):=fun W x hW=>by
  show Calls Tryd.prog 33 #[.agg #[.int .i64 x.f0,.int .i64 x.f1],.pointer (some ⟨g,0,none⟩)] W _
  exact (Fp a1 x v1 g W (AP hb hW)).mono fun e w' h=>⟨h.1,C5 hW hW.size h.2⟩
 exact ctf_S w 33 _ _ (enters_of Tryd.func33 zE rfl) hp A0 c0 l0 hr0
def Bk.f (a0:Int) (AA:Int) (l1_1:List (S49)) (l2:List (S56)) (a3:Int):Option (Bool):=(BC.f AA l1_1 l2 a0).bind fun t127=>(if 0≤a3 then (if a3<(l2.length:Int) then (some (decide (t127>((An l2 a3).f1)))) else (none)) else (none))
def Bk.T1:Bool×List (List Nat×List Nat):=(true,[([],[]),([],[]),([],[]),([0,1,2],[0,1,2]),([],[]),([],[]),([4,5],[4,5]),([6],[6]),([7],[7]),([3,8],[3,8]),([9,3,0,1,2,3,4,5,6,7,8,9],[9])])
def Bk.B1:List Nat:=[0,0,0,7,0,0,48,112,240,511,1023]
theorem Bk.tab1:rtab .any (Cq Tryd.f37 1)=Bk.T1:=by kernel_rfl
theorem Bk.bits1:Bz Bk.T1.2 Bk.B1=true:=by kernel_rfl
set_option maxHeartbeats 8000000 in
theorem Bk.calls (a0:Int) (AA:Int) (A1_1:Option Addr) (c1_1:Nat) (l1_1:List (S49)) (A2:Option Addr) (c2:Nat) (l2:List (S56)) (a3:Int) (r:Bool) (w:World) (hr1_1:Kd.C k49 w A1_1 l1_1.length l1_1) (hc1_1:l1_1.length≤c1_1) (hr2:Kd.C k56 w A2 l2.length l2) (hc2:l2.length≤c2) (h:Bk.f a0 AA l1_1 l2 a3=some r) {gb124 gb125 gb126:Nat} (hb124:w.heap[gb124]? =some (.cells #[.int .i64 AA,.slice A1_1 l1_1.length c1_1] 33 (0,0))) (hb125:w.heap[gb125]? =some (.cells #[.slice A2 l2.length c2] 35 (0,0))) (hb126:w.heap[gb126]? =some (.cells #[.int .i64 a3] 3 (0,0))):
  Calls Tryd.prog 37 #[.int .i64 a0,.pointer (some ⟨gb124,0,none⟩),.pointer (some ⟨gb125,0,none⟩),.pointer (some ⟨gb126,0,none⟩)] w fun e w'=>e= .returned (.bool r)∧Below w.heap.size w w':=by
 have hu33:=Tryd.underlying33
 have HR1_1:=yA hr1_1
 have HC1_1:=yA hc1_1
 clear hr1_1 hc1_1
 have HR2:=yA hr2
 have HC2:=yA hc2
 clear hr2 hc2
 have HB:=yA (Below.refl w.heap.size w)
 have BK124:=yA hb124
 clear hb124
 have BK125:=yA hb125
 clear hb125
 have BK126:=yA hb126
 clear hb126
 have H:((BC.f AA l1_1 l2 a0).bind fun t127=>(if 0≤a3 then (if a3<(l2.length:Int) then (some (decide (t127>((An l2 a3).f1)))) else (none)) else (none)))=some r:=h
 clear h
 replace H:=Option.bind_eq_some_iff.mp H
 obtain ⟨t127,A50,H⟩:=H
 replace H:(if 0≤a3 then (if a3<(l2.length:Int) then (some (decide (t127>((An l2 a3).f1)))) else (none)) else (none))=some r:=H
 have A5:=yA A50
 clear A50
 by_cases c6:0≤a3
 ·rw [if_pos c6] at H
  have c6b0:decide (0≤a3)=true:=decide_eq_true c6
  clear c6
  by_cases c7:a3<(l2.length:Int)
  ·rw [if_pos c7] at H
   have c7b0:decide (a3<(l2.length:Int))=true:=decide_eq_true c7
   clear c7
   obtain rfl:=Option.some.inj H
   go_enter Tryd.func37,Tryd.ntmps37
   try go_wp2
   have n0_:=yA (AH BK124.out)
   have n1_:=yA (AH BK125.out)
   have n2_:=yA (AH BK126.out)
   have n3_:=yA (AD HB.out)
   clear BK124
   clear BK125
   clear BK126
   clear HB
   have BK124:=n0_
   have BK125:=n1_
   have BK126:=n2_
   have HB:=n3_
   clear n0_ n1_ n2_ n3_
   have p128:0≤(a3:Int):=yD
   have q128:a3<(l2.length:Int):=yD
   obtain ⟨ad128,e128,hx128_0,hx128_1⟩:=Bh HR2.out a3 p128 q128
   have hw128_1:=hx128_1
   have hw128_0:=hx128_0
   cases e128
   replace hx128_0:=yC HB.out hx128_0
   replace hx128_1:=yC HB.out hx128_1
   replace p128:=eq_true p128
   replace q128:=eq_true q128
   refine Bp (n:=11) (S:=fun w'=>w'.cell? ⟨gb124,0,none⟩=some (.int .i64 AA)∧w'.cell? ⟨gb124,1,none⟩=some (.slice A1_1 l1_1.length c1_1)∧w'.cell? ⟨gb125,0,none⟩=some (.slice (some ad128) l2.length c2)∧w'.cell? ⟨gb126,0,none⟩=some (.int .i64 a3)∧w'.cell? (ad128.add ((a3).toNat*2))=some (.int .i64 ((An l2 a3).f0))∧w'.cell? ⟨(ad128.add ((a3).toNat*2)).block,(ad128.add ((a3).toNat*2)).off+1,none⟩=some (.int .i64 ((An l2 a3).f1))) (ds:=[]) #[false,false,false,false,false,false,false,false,false,false,false] zE rfl rfl ⟨(AK BK124.out 0).trans rfl,(AK BK124.out 1).trans rfl,(AK BK125.out 0).trans rfl,(AK BK126.out 0).trans rfl,(yC HB.out hw128_0),(yC HB.out hw128_1)⟩ (fun hHeld=> ?_); refine BU Bk.tab1 Bk.bits1 (fun HT_ HW_=> ?_)
   generalize w.drew=w11 at BK124 BK125 BK126 HB hx128_0 hx128_1 hHeld ⊢
   refine AX (i:=2) (N:=some 8) (v:= ?_) (a':= ?_) #[false,false,true,false,false,false,false,false,false,false,false] rfl rfl (AQ HT_.out zE) (fun _ _ _ h=>h) (Or.inl ⟨by rfl,?_⟩) ?_ ?_; rotate_left; intro w'; go_simp; with_reducible rfl; rotate_left; exact yB
   refine BK (i:=0) (N:=some 6) (v:= ?_) (a':= ?_) #[true,false,true,false,false,false,false,false,false,false,false] rfl rfl (B4 HT_.out HW_.out zE) (fun _ _ _ h=>h) (Or.inl ⟨by rfl,?_⟩) hHeld ?_ ?_; rotate_left; rintro w' ⟨s0,s1,s2,s3,s4,s5⟩; go_simp; with_reducible rfl; rotate_left; exact yB
   refine BK (i:=1) (N:=some 7) (v:= ?_) (a':= ?_) #[true,true,true,false,false,false,false,false,false,false,false] rfl rfl (B4 HT_.out HW_.out zE) (fun _ _ _ h=>h) (Or.inl ⟨by rfl,?_⟩) hHeld ?_ ?_; rotate_left; rintro w' ⟨s0,s1,s2,s3,s4,s5⟩; go_simp; with_reducible rfl; rotate_left; exact yB
   refine BK (i:=4) (N:=some 10) (v:= ?_) (a':= ?_) #[true,true,true,false,true,false,false,false,false,false,false] rfl rfl (B4 HT_.out HW_.out zE) (fun _ _ _ h=>h) (Or.inl ⟨by rfl,?_⟩) hHeld ?_ ?_; rotate_left; rintro w' ⟨s0,s1,s2,s3,s4,s5⟩; go_simp; with_reducible rfl; rotate_left; exact yB
   refine BK (i:=5) (N:=some 11) (v:= ?_) (a':= ?_) #[true,true,true,false,true,true,false,false,false,false,false] rfl rfl (B4 HT_.out HW_.out zE) (fun _ _ _ h=>h) (Or.inl ⟨by rfl,?_⟩) hHeld ?_ ?_; rotate_left; rintro w' ⟨s0,s1,s2,s3,s4,s5⟩; go_simp; with_reducible rfl; rotate_left; exact yB
   refine AX (i:=6) (N:=some 12) (v:= ?_) (a':= ?_) #[true,true,true,false,true,true,true,false,false,false,false] rfl rfl (AQ HT_.out zE) (fun _ _ _ h=>h) (Or.inl ⟨by rfl,?_⟩) ?_ ?_; rotate_left; intro w'; go_simp; with_reducible rfl; rotate_left; exact yB
   refine AX (i:=7) (N:=some 13) (v:= ?_) (a':= ?_) #[true,true,true,false,true,true,true,true,false,false,false] rfl rfl (AQ HT_.out zE) (fun _ _ _ h=>h) (Or.inl ⟨by rfl,?_⟩) ?_ ?_; rotate_left; intro w'; go_simp; with_reducible rfl; rotate_left; exact yB
   refine BK (i:=8) (N:=some 14) (v:= ?_) (a':= ?_) #[true,true,true,false,true,true,true,true,true,false,false] rfl rfl (B4 HT_.out HW_.out zE) (fun _ _ _ h=>h) (Or.inl ⟨by rfl,?_⟩) hHeld ?_ ?_; rotate_left; rintro w' ⟨s0,s1,s2,s3,s4,s5⟩; go_simp; with_reducible rfl; rotate_left; exact yB
   refine one_ (i:=3) (N:=some 9) #[true,true,true,true,true,true,true,true,true,false,false] rfl rfl (Bi HT_.out zE) zA2 (fun K hK=> ?_)
   refine C1 Tryd.func22 zE rfl #[.agg #[.int .i64 AA,.slice A1_1 l1_1.length c1_1],.slice (some ad128) l2.length c2,.int .i64 a0] (by rfl) rfl rfl zD ?_
   with_reducible refine (BC.calls AA _ _ l1_1 _ _ l2 a0 t127 _ ?side1 ?side2 ?side3 ?side4 A5.out).mono ?_
   (case side1=>repeat (first|exact (Kd.C_below HR1_1.out HB.out)|(with_reducible refine Kd.C_alloc ?_ _)|(with_reducible refine Kd.C_drewN ?_ _)|(with_reducible refine Kd.C_drew ?_)))
   (case side2=>exact HC1_1.out)
   (case side3=>repeat (first|exact (Kd.C_below HR2.out HB.out)|(with_reducible refine Kd.C_alloc ?_ _)|(with_reducible refine Kd.C_drewN ?_ _)|(with_reducible refine Kd.C_drew ?_)))
   (case side4=>exact HC2.out)
   rintro e w12 ⟨rfl,hb⟩
   refine ⟨_,rfl,?_⟩
   have n0_:=yA (AP (g:=gb124) (o:= .cells #[.int .i64 AA,.slice A1_1 l1_1.length c1_1] 33 (0,0)) (by (with_reducible repeat (first|refine AG ?_ _|refine AH ?_|refine AF ?_ _)); exact BK124.out) hb)
   have n1_:=yA (AP (g:=gb125) (o:= .cells #[.slice (some ad128) l2.length c2] 35 (0,0)) (by (with_reducible repeat (first|refine AG ?_ _|refine AH ?_|refine AF ?_ _)); exact BK125.out) hb)
   have n2_:=yA (AP (g:=gb126) (o:= .cells #[.int .i64 a3] 3 (0,0)) (by (with_reducible repeat (first|refine AG ?_ _|refine AH ?_|refine AF ?_ _)); exact BK126.out) hb)
   have n3_:=yA (AO zB hb)
   clear BK124
   clear BK125
   clear BK126
   clear HB
   have BK124:=n0_
   have BK125:=n1_
   have BK126:=n2_
   have HB:=n3_
   clear n0_ n1_ n2_ n3_
   (try clear hb)
   (try clear hb2)
   (try clear hk)
   (try clear hi)
   refine hK.out _ _ ⟨(AK BK124.out 0).trans rfl,(AK BK124.out 1).trans rfl,(AK BK125.out 0).trans rfl,(AK BK126.out 0).trans rfl,(yC HB.out hw128_0),(yC HB.out hw128_1)⟩ (fun hHeld=> ?_)
   clear hK K
   refine Bq (a':= ?_) ?_ ?_; rotate_left; show Act.put _ (some 9) _=_; exact yB
   refine AX (i:=9) (N:=some 15) (v:= ?_) (a':= ?_) #[true,true,true,true,true,true,true,true,true,true,false] rfl rfl (AQ HT_.out zE) (fun _ _ _ h=>h) (Or.inl ⟨by rfl,?_⟩) ?_ ?_; rotate_left; intro w'; go_simp; with_reducible rfl; rotate_left; exact yB
   refine AX (i:=10) (N:=some 5) (v:= ?_) (a':= ?_) #[true,true,true,true,true,true,true,true,true,true,true] rfl rfl (AQ HT_.out zE) (fun _ _ _ h=>h) (Or.inl ⟨by rfl,?_⟩) ?_ ?_; rotate_left; intro w'; go_simp; with_reducible rfl; rotate_left; exact yB
   refine C7 (Bm HT_.out zE) ?_
   try go_wp2
   go_ret
   exact ⟨by first|rfl|(simp [AZ,AY]<;>rfl)|(simp [*,AZ,AY]<;>rfl),by repeat (first|(with_reducible first|exact HB.out|apply AE|apply AC|apply AD)|exact HB.out)⟩
  ·rw [if_neg c7] at H
   exact absurd H zA6
 ·rw [if_neg c6] at H
  exact absurd H zA6
def ixO (p:Int→Option Bool):List Int→Nat→Option Int
 |[],_=>some (-1)
 |x::r,i=>(p x).bind fun b=>if b=true then some (i:Int) else ixO p r (i+1)
theorem Ff (p:Int→Option Bool) (l:List Int) (n:Nat) (h:n<l.length):ixO p (l.drop n) n=(p (rd l n)).bind fun b=>if b=true then some (n:Int) else ixO p (l.drop (n+1)) (n+1):=by
 rw [List.drop_eq_getElem_cons h,ixO]
 unfold rd
 rw [List.getD_eq_getElem?_getD,Int.toNat_natCast,List.getElem?_eq_getElem h]; rfl
def anyO (p:Int→Option Bool):List Int→Option Bool
 |[]=>some false
 |x::r=>(p x).bind fun b=>if b=true then some true else anyO p r
theorem Es (p:Int→Option Bool):∀(l:List Int) (i:Nat) (b:Bool),anyO p l=some b→∃v,ixO p l i=some v∧decide (0≤v)=b
 |[],i,b,h=>⟨-1,rfl,by cases h; rfl⟩
 | x::r,i,b,h=>by
  rw [anyO,Option.bind_eq_some_iff] at h
  obtain ⟨c,h1,h2⟩:=h
  rw [ixO,h1,Option.bind_some]
  cases c with
  |true=>rw [if_pos rfl] at h2 ⊢; cases h2; exact ⟨_,rfl,by simp⟩
  |false=>rw [if_neg zA6] at h2 ⊢; exact Es p r (i+1) b h2
def PredI (w0:World) (g:Nat) (lb:Array Value) (p:Int→Option Bool):Prop:=
 ∀(W:World) (x:Int) (b:Bool),Below w0.heap.size w0 W→p x=some b→Calls Tryd.prog g (#[.int .i64 x]++lb) W fun e w'=>e= .returned (.bool b)∧Below w0.heap.size w0 w'
open Go.Shelf in
theorem ixf_I (w0:World) (g:Nat) (lb:Array Value) (p:Int→Option Bool) (eg:∀args w,(callFunc g args).run Tryd.prog w= .ok (.enter g args) w) (hp:PredI w0 g lb p)
  (A:Option Addr) (c:Nat) (l:List Int) (hr:Kd.C (Kd.int .i64) w0 A l.length l) (r:Int) (h:ixO p l 0=some r) (w:World) (hw:Below w0.heap.size w0 w):
  Calls Tryd.prog 55 #[.slice A l.length c,.func (.func g) #[] lb] w fun e w'=>e= .returned (.int .i64 r)∧Below w0.heap.size w0 w':=by
 have HL:=yA hr.2.1
 have HR:=yA hr
 have HW:=yA hw
 have HP:=yA hp
 have HH:=yA h
 clear hr hw hp h
 go_enter Tryd.func55,Tryd.ntmps55
 go_wp2
 go_loopg [5,8] l.length (fun gg v5 v8 w'=>∃n:Nat,v8= .int .i64 (n:Int)∧Aside0 (n≤l.length)∧Aside0 (l.length-n≤gg)∧Aside0 (ixO p (l.drop n) n=some r)∧Aside0 (Below w0.heap.size w0 w'))
 case atStart=>exact ⟨0,rfl,⟨Nat.zero_le _⟩,⟨by omega⟩,⟨by rw [List.drop_zero]; exact HH.out⟩,⟨by repeat (first|exact HW.out|apply AC|apply AD)⟩⟩
 case round=>
  obtain ⟨n,rfl,H1,H2,H3,HB⟩:=hrel
  clear HH
  by_cases c1:n<l.length
  ·have c1b:decide ((n:Int)<(l.length:Int))=true:=decide_eq_true zI
   obtain ⟨ad,e1,hx0⟩:=Kd.at_int HR.out (n:Int) zI zI
   cases e1
   replace hx0:=(HB.out.cell (World.block_lt_of_cell? w0 _ hx0)).trans hx0
   have h3:=H3.out
   rw [Ff p l n c1,Option.bind_eq_some_iff] at h3
   obtain ⟨b,hb1,hb2⟩:=h3
   have hq:=HP.out wr (rd l n) b HB.out hb1
   have hb2:=yA hb2
   have hb1:=yA hb1
   clear H3
   simp only [Int.toNat_natCast] at hx0
   cases b with
   | true=>
    go_wp2_with (first|(go_at_fn g; (with_reducible refine hq.mono ?_); rintro e w' ⟨rfl,hb⟩))
    go_ret
    exact ⟨by have:=hb2.out; simp at this; subst this; rfl,hb⟩
   | false=>
    go_wp2_with (first|(go_at_fn g; (with_reducible refine hq.mono ?_); rintro e w' ⟨rfl,hb⟩))
    go_roundg (l.length-(n+1))
    case measure=>have:=H2.out; omega
    case rel=>exact ⟨n+1,by have:=HL.out; rw [show wrap64 ((n:Int)+1)=((n+1:Nat):Int) from by unfold wrap64; omega],⟨by omega⟩,⟨by omega⟩,⟨by have:=hb2.out; simpa using this⟩,⟨hb⟩⟩
  ·have c1b:decide ((n:Int)<(l.length:Int))=false:=decide_eq_false zI
   have h3:=yA H3.out
   go_wp2
   go_ret
   exact ⟨by have:=h3.out; rw [List.drop_eq_nil_of_le zI] at this; cases this; rfl,by repeat (first|exact HB.out|apply AC|apply AD)⟩
open Go.Shelf in
theorem ctf_I (w0:World) (g:Nat) (lb:Array Value) (p:Int→Option Bool) (eg:∀args w,(callFunc g args).run Tryd.prog w= .ok (.enter g args) w) (hp:PredI w0 g lb p)
  (A:Option Addr) (c:Nat) (l:List Int) (hr:Kd.C (Kd.int .i64) w0 A l.length l) (r:Bool) (h:anyO p l=some r) (w:World) (hw:Below w0.heap.size w0 w):
  Calls Tryd.prog 36 #[.slice A l.length c,.func (.func g) #[] lb] w fun e w'=>e= .returned (.bool r)∧Below w0.heap.size w0 w':=by
 obtain ⟨v,hv,rfl⟩:=Es p l 0 r h
 have hq:=fun w (hw:Below w0.heap.size w0 w)=>ixf_I w0 g lb p eg hp A c l hr v hv w hw
 have HW:=yA hw
 clear hp hr h hv hw
 go_enter Tryd.func36,Tryd.ntmps36
 go_wp2_with (first|(go_at_call 55; (with_reducible refine (hq _ (by repeat (first|exact HW.out|apply AC|apply AD))).mono ?_); rintro e w' ⟨rfl,hb⟩))
 go_ret
 exact ⟨by first|rfl|(simp; done),hb⟩
def CD.f (l0:List Int) (AA:Int) (l1_1:List (S49)) (l2:List (S56)) (a3:Int):Option Bool:=anyO (fun a=>Bk.f a AA l1_1 l2 a3) l0
open Go.Shelf in
theorem CD.calls (A0:Option Addr) (c0:Nat) (l0:List Int) (AA:Int) (A1_1:Option Addr) (c1_1:Nat) (l1_1:List (S49)) (A2:Option Addr) (c2:Nat) (l2:List (S56)) (a3:Int) (r:Bool) (w:World) (hr0:Kd.C (Kd.int .i64) w A0 l0.length l0) (hc0:l0.length≤c0) (hr1_1:Kd.C k49 w A1_1 l1_1.length l1_1) (hc1_1:l1_1.length≤c1_1) (hr2:Kd.C k56 w A2 l2.length l2) (hc2:l2.length≤c2) (h:CD.f l0 AA l1_1 l2 a3=some r) {g1 g2 g3:Nat}
  (hb1:w.heap[g1]? =some (.cells #[.int .i64 AA,.slice A1_1 l1_1.length c1_1] 33 (0,0))) (hb2:w.heap[g2]? =some (.cells #[.slice A2 l2.length c2] 35 (0,0))) (hb3:w.heap[g3]? =some (.cells #[.int .i64 a3] 3 (0,0))):
  Calls Tryd.prog 36 #[.slice A0 l0.length c0,.func (.func 37) #[] #[.pointer (some ⟨g1,0,none⟩),.pointer (some ⟨g2,0,none⟩),.pointer (some ⟨g3,0,none⟩)]] w fun e w'=>e= .returned (.bool r)∧Below w.heap.size w w':=by
 have hp:PredI w 37 #[.pointer (some ⟨g1,0,none⟩),.pointer (some ⟨g2,0,none⟩),.pointer (some ⟨g3,0,none⟩)] (fun a=>Bk.f a AA l1_1 l2 a3):=fun W x b hW hx=>by
  show Calls Tryd.prog 37 #[.int .i64 x,.pointer (some ⟨g1,0,none⟩),.pointer (some ⟨g2,0,none⟩),.pointer (some ⟨g3,0,none⟩)] W _
  exact (Bk.calls x AA A1_1 c1_1 l1_1 A2 c2 l2 a3 b W (Kd.C_below hr1_1 hW) hc1_1 (Kd.C_below hr2 hW) hc2 hx (AP hb1 hW) (AP hb2 hW) (AP hb3 hW)).mono fun e w' h=>⟨h.1,C5 hW hW.size h.2⟩
 exact ctf_I w 37 _ _ (enters_of Tryd.func37 zE rfl) hp A0 c0 l0 hr0 r h w (Below.refl _ _)
mutual
def Ab.j0:Nat→Bool→Int→List (S49)→List (S56)→Option (Int)
 |0,_,_,_,_=>none
 |k+1,x9,x130000,x130001,x131000=>if x9=true then (some 1) else ((By.f x131000 x130000).bind fun t132=>(if t132=true then (some 2) else ((Ac.f k x130000 x130001 x131000).bind fun t133=>(if t133=true then (some 16) else (Ab.l0 k x130001 (x130001.length:Int) 0 x130000 x130001 x131000)))))
def Ab.l0:Nat→List (S49)→Int→Int→Int→List (S49)→List (S56)→Option (Int)
 |0,_,_,_,_,_,_=>none
 |k+1,x30,x31,x32,x130000,x130001,x131000=>if x32<x31 then (if 0≤x32 then (if x32<(x30.length:Int) then ((CD.f ((AM x30 x32).f3) x130000 x130001 x131000 x32).bind fun t137=>(if t137=true then (some 8) else (Ab.l0 k x30 x31 (wrap64 (x32+1)) x130000 x130001 x131000))) else (none)) else (none)) else (some 0)
end
def Ab.f (k:Nat) (A8:Int) (l0_1:List (S49)) (l1:List (S56)):Option (Int):=(AN.f k A8 l0_1).bind fun t131=>(if t131=true then (Ab.j0 k ((l1.length:Int) !=(l0_1.length:Int)) A8 l0_1 l1) else (Ab.j0 k true A8 l0_1 l1))
theorem Ab.mono_l:∀k,(∀y0 y1 y2 y3,LeO (Ab.j0 k y0 y1 y2 y3) (Ab.j0 (k+1) y0 y1 y2 y3))∧(∀y0 y1 y2 y3 y4 y5,LeO (Ab.l0 k y0 y1 y2 y3 y4 y5) (Ab.l0 (k+1) y0 y1 y2 y3 y4 y5))
 |0=>⟨fun _ _ _ _ r h=>by simp [Ab.j0] at h,fun _ _ _ _ _ _ r h=>by simp [Ab.l0] at h⟩
 | k +1=>by
  obtain ⟨ih0,ih1⟩:=Ab.mono_l k
  refine ⟨?_,?_⟩
  ·intro y0 y1 y2 y3
   unfold Ab.j0
   repeat' first
   |(with_reducible exact ih0 _ _ _ _)
   |(with_reducible exact ih1 _ _ _ _ _ _)
   |(with_reducible exact AN.mono _ _ _)
   |(with_reducible exact Ac.mono _ _ _ _)
   |(with_reducible exact LeO.refl _)
   |(with_reducible exact LeO.none _)
   |(with_reducible refine LeO.ite ?_ ?_)
   |(with_reducible refine LeO.bind ?_ (fun _=> ?_))
   |exact ih0 _ _ _ _
   |exact ih1 _ _ _ _ _ _
   |exact AN.mono _ _ _
   |exact Ac.mono _ _ _ _
   |exact LeO.none _
   |refine LeO.ite ?_ ?_
   |refine LeO.bind ?_ (fun _=> ?_)
  ·intro y0 y1 y2 y3 y4 y5
   unfold Ab.l0
   repeat' first
   |(with_reducible exact ih0 _ _ _ _)
   |(with_reducible exact ih1 _ _ _ _ _ _)
   |(with_reducible exact AN.mono _ _ _)
   |(with_reducible exact Ac.mono _ _ _ _)
   |(with_reducible exact LeO.refl _)
   |(with_reducible exact LeO.none _)
   |(with_reducible refine LeO.ite ?_ ?_)
   |(with_reducible refine LeO.bind ?_ (fun _=> ?_))
   |exact ih0 _ _ _ _
   |exact ih1 _ _ _ _ _ _
   |exact AN.mono _ _ _
   |exact Ac.mono _ _ _ _
   |exact LeO.none _
   |refine LeO.ite ?_ ?_
   |refine LeO.bind ?_ (fun _=> ?_)
theorem Ab.mono:∀a0 a1 a2 k,LeO (Ab.f k a0 a1 a2) (Ab.f (k+1) a0 a1 a2):=by
 intro a0 a1 a2 k
 obtain ⟨ih0,ih1⟩:=Ab.mono_l k
 unfold Ab.f
 repeat' first
  |(with_reducible exact ih0 _ _ _ _)
  |(with_reducible exact ih1 _ _ _ _ _ _)
  |(with_reducible exact AN.mono _ _ _)
  |(with_reducible exact Ac.mono _ _ _ _)
  |(with_reducible exact LeO.refl _)
  |(with_reducible exact LeO.none _)
  |(with_reducible refine LeO.ite ?_ ?_)
  |(with_reducible refine LeO.bind ?_ (fun _=> ?_))
  |exact ih0 _ _ _ _
  |exact ih1 _ _ _ _ _ _
  |exact AN.mono _ _ _
  |exact Ac.mono _ _ _ _
  |exact LeO.none _
  |refine LeO.ite ?_ ?_
  |refine LeO.bind ?_ (fun _=> ?_)
set_option maxHeartbeats 8000000 in
theorem Ab.calls (k:Nat) (A8:Int) (A0_1:Option Addr) (c0_1:Nat) (l0_1:List (S49)) (A1:Option Addr) (c1:Nat) (l1:List (S56)) (r:Int) (w:World) (hr0_1:Kd.C k49 w A0_1 l0_1.length l0_1) (hc0_1:l0_1.length≤c0_1) (hr1:Kd.C k56 w A1 l1.length l1) (hc1:l1.length≤c1) (h:Ab.f k A8 l0_1 l1=some r):
  Calls Tryd.prog 16 #[.agg #[.int .i64 A8,.slice A0_1 l0_1.length c0_1],.slice A1 l1.length c1] w fun e w'=>e= .returned (.int .i64 r)∧Below w.heap.size w w':=by
 have hu33:=Tryd.underlying33
 have hu49:=Tryd.underlying49
 have HR0_1:=yA hr0_1
 have HC0_1:=yA hc0_1
 clear hr0_1 hc0_1
 have HR1:=yA hr1
 have HC1:=yA hc1
 clear hr1 hc1
 have HB:=yA (Below.refl w.heap.size w)
 have H:((AN.f k A8 l0_1).bind fun t131=>(if t131=true then (Ab.j0 k ((l1.length:Int) !=(l0_1.length:Int)) A8 l0_1 l1) else (Ab.j0 k true A8 l0_1 l1)))=some r:=h
 clear h
 have HC3:=yA H
 clear H
 go_enter Tryd.func16,Tryd.ntmps16
 go_upto_region 2 with (first|((with_reducible refine Ar (N:=2) rfl ?_); (try (refine BI (by rfl) ?_; dsimp only)); refine Ap ?hg (N:=2) ?hd (cs:= #[.int .i64 A8,.slice A0_1 l0_1.length c0_1]) (t:=33) ?hr ?_; (case hd=>rfl); (case hg=>rfl); (case hr=>first|(go_simp; done)|(go_simp; rfl)); intro gb129 hg w4 hbox hb; have n0_:=yA (AO zB hb); have n1_:=yA (hbox); have n2_:=yA ((by rw [hg]; exact (AT zB):w.heap.size≤gb129)); have n3_:=yA ((by rw [hg]; exact (AT zB):w.heap.size≤gb129)); clear HB; have HB:=n0_; have BK129:=n1_; have GW129:=n2_; have GE129:=n3_; clear n0_ n1_ n2_ n3_; clear hb hbox hg)|((with_reducible refine Ar (N:=3) rfl ?_); (try (refine BI (by rfl) ?_; dsimp only)); refine Ap ?hg (N:=3) ?hd (cs:= #[.slice A1 l1.length c1]) (t:=35) ?hr ?_; (case hd=>rfl); (case hg=>rfl); (case hr=>first|(go_simp; done)|(go_simp; rfl)); intro gb130 hg w5 hbox hb; have n0_:=yA (AP (g:=gb129) (o:= .cells #[.int .i64 A8,.slice A0_1 l0_1.length c0_1] 33 (0,0)) zM hb); have n1_:=yA (AO (by repeat (first|(with_reducible first|exact HB.out|apply AE|apply AC|apply AD|refine AI ?_ GE129.out)|exact HB.out)) hb); have n2_:=yA (hbox); have n3_:=yA ((by rw [hg]; exact (AT (by repeat (first|(with_reducible first|exact HB.out|apply AE|apply AC|apply AD|refine AI ?_ GE129.out)|exact HB.out))):w.heap.size≤gb130)); have n4_:=yA ((by rw [hg]; exact (AT (by repeat (first|(with_reducible first|exact HB.out|apply AE|apply AC|apply AD|refine AI ?_ GE129.out)|exact HB.out))):w.heap.size≤gb130)); have n5_:=yA ((by rw [hg]; exact Nat.ne_of_lt (B0 (g:=gb129) (o:= .cells #[.int .i64 A8,.slice A0_1 l0_1.length c0_1] 33 (0,0)) zM):gb129≠gb130)); have n6_:=yA ((by rw [hg]; exact Nat.ne_of_gt (B0 (g:=gb129) (o:= .cells #[.int .i64 A8,.slice A0_1 l0_1.length c0_1] 33 (0,0)) zM):gb130≠gb129)); clear BK129; clear HB; have BK129:=n0_; have HB:=n1_; have BK130:=n2_; have GW130:=n3_; have GE130:=n4_; have NB129_130:=n5_; have NB130_129:=n6_; clear n0_ n1_ n2_ n3_ n4_ n5_ n6_; clear hb hbox hg))
 (try simp only [Act.put,List.setIfInBounds_toArray,List.set_cons_zero,List.set_cons_succ])
 go_cut [9] (fun v9 wc=>∃(kq:Nat) (x9_2:Bool),v9= .bool x9_2∧Aside0 (Ab.j0 kq x9_2 A8 l0_1 l1=some r)∧Aside0 (kq≤k)∧Aside0 (wc.heap[gb129]? =some (.cells #[.int .i64 A8,(.slice A0_1 l0_1.length c0_1)] 33 (0,0)))∧Aside0 (wc.heap[gb130]? =some (.cells #[(.slice A1 l1.length c1)] 35 (0,0)))∧Aside0 (Below w.heap.size w wc))
 case first=>
  have H:=HC3.out
  clear HC3
  replace H:=Option.bind_eq_some_iff.mp H
  obtain ⟨t131,A60,H⟩:=H
  replace H:(if t131=true then (Ab.j0 k ((l1.length:Int) !=(l0_1.length:Int)) A8 l0_1 l1) else (Ab.j0 k true A8 l0_1 l1))=some r:=H
  have A6:=yA A60
  clear A60
  by_cases c7:t131=true
  ·subst c7
   have H1:(Ab.j0 k ((l1.length:Int) !=(l0_1.length:Int)) A8 l0_1 l1)=some r:=by rw [if_pos rfl] at H; exact H
   clear H
   have H:=H1
   clear H1
   have H':=yA H
   clear H
   have hnb8:=NB129_130.out
   have hnc8:=NB130_129.out
   have hcz9_0:w5.cell? ⟨gb129,0,none⟩=some (.int .i64 A8):=(AK BK129.out 0).trans rfl
   have hcz9_1:w5.cell? ⟨gb129,1,none⟩=some (.slice A0_1 l0_1.length c0_1):=(AK BK129.out 1).trans rfl
   have hfz9_0:=AJ BK129.out 0
   have hfz9_1:=AJ BK129.out 1
   go_wp2_with (first|((with_reducible refine Ah (f:=14) rfl ?_); refine BB (some 11) rfl rfl Tryd.func14 zE rfl #[.agg #[.int .i64 A8,.slice A0_1 l0_1.length c0_1]] rfl zD ?_; (with_reducible refine (AN.calls k A8 _ _ l0_1 true _ ?side1 ?side2 A6.out).mono ?_); (case side1=>repeat (first|exact (Kd.C_below HR0_1.out HB.out)|(with_reducible refine Kd.C_alloc ?_ _)|(with_reducible refine Kd.C_drewN ?_ _)|(with_reducible refine Kd.C_drew ?_))); (case side2=>exact HC0_1.out); rintro e w10 ⟨rfl,hb⟩; refine ⟨_,rfl,?_⟩; have n0_:=yA (AP (g:=gb129) (o:= .cells #[.int .i64 A8,.slice A0_1 l0_1.length c0_1] 33 (0,0)) zM hb); have n1_:=yA (AP (g:=gb130) (o:= .cells #[.slice A1 l1.length c1] 35 (0,0)) zU hb); have n2_:=yA (AO zW hb); clear BK129; clear BK130; clear HB; have BK129:=n0_; have BK130:=n1_; have HB:=n2_; clear n0_ n1_ n2_; (try clear hb); (try clear hb2); (try clear hk); (try clear hi); have hcz11_0:w10.cell? ⟨gb130,0,none⟩=some (.slice A1 l1.length c1):=(AK BK130.out 0).trans rfl; have hfz11_0:=AJ BK130.out 0; have hcz12_0:w10.cell? ⟨gb129,0,none⟩=some (.int .i64 A8):=(AK BK129.out 0).trans rfl; have hcz12_1:w10.cell? ⟨gb129,1,none⟩=some (.slice A0_1 l0_1.length c0_1):=(AK BK129.out 1).trans rfl; have hfz12_0:=AJ BK129.out 0; have hfz12_1:=AJ BK129.out 1))
   go_meet
   case rel=>exact ⟨_,(((l1.length:Int) !=(l0_1.length:Int))),zG,H',⟨by first|omega|exact Nat.le_refl _⟩,⟨by (with_reducible repeat (first|refine AG ?_ _|refine AH ?_|refine AF ?_ _)); exact BK129.out⟩,⟨by (with_reducible repeat (first|refine AG ?_ _|refine AH ?_|refine AF ?_ _)); exact BK130.out⟩,⟨by repeat (first|(with_reducible first|exact HB.out|apply AE|apply AC|apply AD|refine AI ?_ GE129.out|refine AI ?_ GE130.out)|exact HB.out)⟩⟩
  ·replace c7:=Bool.eq_false_iff.mpr c7
   subst c7
   have H1:(Ab.j0 k true A8 l0_1 l1)=some r:=by rw [if_neg (show ¬(false=true) by decide)] at H; exact H
   clear H
   have H:=H1
   clear H1
   have H':=yA H
   clear H
   have hnb13:=NB129_130.out
   have hnc13:=NB130_129.out
   have hcz14_0:w5.cell? ⟨gb129,0,none⟩=some (.int .i64 A8):=(AK BK129.out 0).trans rfl
   have hcz14_1:w5.cell? ⟨gb129,1,none⟩=some (.slice A0_1 l0_1.length c0_1):=(AK BK129.out 1).trans rfl
   have hfz14_0:=AJ BK129.out 0
   have hfz14_1:=AJ BK129.out 1
   go_wp2_with (first|((with_reducible refine Ah (f:=14) rfl ?_); refine BB (some 11) rfl rfl Tryd.func14 zE rfl #[.agg #[.int .i64 A8,.slice A0_1 l0_1.length c0_1]] rfl zD ?_; (with_reducible refine (AN.calls k A8 _ _ l0_1 false _ ?side1 ?side2 A6.out).mono ?_); (case side1=>repeat (first|exact (Kd.C_below HR0_1.out HB.out)|(with_reducible refine Kd.C_alloc ?_ _)|(with_reducible refine Kd.C_drewN ?_ _)|(with_reducible refine Kd.C_drew ?_))); (case side2=>exact HC0_1.out); rintro e w15 ⟨rfl,hb⟩; refine ⟨_,rfl,?_⟩; have n0_:=yA (AP (g:=gb129) (o:= .cells #[.int .i64 A8,.slice A0_1 l0_1.length c0_1] 33 (0,0)) zM hb); have n1_:=yA (AP (g:=gb130) (o:= .cells #[.slice A1 l1.length c1] 35 (0,0)) zU hb); have n2_:=yA (AO zW hb); clear BK129; clear BK130; clear HB; have BK129:=n0_; have BK130:=n1_; have HB:=n2_; clear n0_ n1_ n2_; (try clear hb); (try clear hb2); (try clear hk); (try clear hi)))
   go_meet
   case rel=>exact ⟨_,(true),zG,H',⟨by first|omega|exact Nat.le_refl _⟩,⟨by (with_reducible repeat (first|refine AG ?_ _|refine AH ?_|refine AF ?_ _)); exact BK129.out⟩,⟨by (with_reducible repeat (first|refine AG ?_ _|refine AH ?_|refine AF ?_ _)); exact BK130.out⟩,⟨by repeat (first|(with_reducible first|exact HB.out|apply AE|apply AC|apply AD|refine AI ?_ GE129.out|refine AI ?_ GE130.out)|exact HB.out)⟩⟩
 case rest =>
  clear HC3
  try clear c1
  try clear p2
  try clear c7
  try clear c8
  try clear c13
  try clear c14
  try clear hcz11_0
  try clear hcz12_0
  try clear hcz12_1
  try clear hcz14_0
  try clear hcz14_1
  try clear hcz9_0
  try clear hcz9_1
  try clear hfz11_0
  try clear hfz12_0
  try clear hfz12_1
  try clear hfz14_0
  try clear hfz14_1
  try clear hfz9_0
  try clear hfz9_1
  obtain ⟨kq,x9_2,rfl,HA,HJ2,BK129,BK130,HB⟩:=hcut
  cases kq with
  |zero=>exact absurd HA.out (by simp [Ab.j0])
  | succ kj2=>
   have H:=HA.out
   clear HA
   simp only [Ab.j0] at H
   by_cases c16:x9_2=true
   ·subst c16
    have H1:(some 1)=some r:=by rw [if_pos rfl] at H; exact H
    clear H
    have H:=H1
    clear H1
    obtain rfl:=Option.some.inj H
    go_wp2
    go_ret
    exact ⟨by first|rfl|(simp [AZ,AY]<;>rfl)|(simp [*,AZ,AY]<;>rfl),by repeat (first|(with_reducible first|exact HB.out|apply AE|apply AC|apply AD|refine AI ?_ GE129.out|refine AI ?_ GE130.out)|exact HB.out)⟩
   ·replace c16 :=Bool.eq_false_iff.mpr c16
    subst c16
    have H1:((By.f l1 A8).bind fun t132=>(if t132=true then (some 2) else ((Ac.f kj2 A8 l0_1 l1).bind fun t133=>(if t133=true then (some 16) else (Ab.l0 kj2 l0_1 (l0_1.length:Int) 0 A8 l0_1 l1)))))=some r:=by rw [if_neg (show ¬(false=true) by decide)] at H; exact H
    clear H
    have H:=H1
    clear H1
    replace H:=Option.bind_eq_some_iff.mp H
    obtain ⟨t132,A170,H⟩:=H
    replace H:(if t132=true then (some 2) else ((Ac.f kj2 A8 l0_1 l1).bind fun t133=>(if t133=true then (some 16) else (Ab.l0 kj2 l0_1 (l0_1.length:Int) 0 A8 l0_1 l1))))=some r:=H
    have A17:=yA A170
    clear A170
    by_cases c18:t132=true
    ·subst c18
     have H1:(some 2)=some r:=by rw [if_pos rfl] at H; exact H
     clear H
     have H:=H1
     clear H1
     obtain rfl:=Option.some.inj H
     have hnb19:=NB130_129.out
     have hnc19:=NB129_130.out
     have hcz20_0:wc.cell? ⟨gb130,0,none⟩=some (.slice A1 l1.length c1):=(AK BK130.out 0).trans rfl
     have hfz20_0:=AJ BK130.out 0
     have hcz21_0:wc.cell? ⟨gb129,0,none⟩=some (.int .i64 A8):=(AK BK129.out 0).trans rfl
     have hcz21_1:wc.cell? ⟨gb129,1,none⟩=some (.slice A0_1 l0_1.length c0_1):=(AK BK129.out 1).trans rfl
     have hfz21_0:=AJ BK129.out 0
     have hfz21_1:=AJ BK129.out 1
     go_wp2_with (first|((with_reducible refine Ah (f:=34) rfl ?_); refine BB (some 24) rfl rfl Tryd.func34 zE rfl #[.slice A1 l1.length c1,.func (.func 33) #[] #[.pointer (some ⟨gb129,0,none⟩)]] rfl zD ?_; (with_reducible refine (By.calls _ _ l1 A8 true _ ?side1 ?side2 A17.out zM).mono ?_); (case side1=>repeat (first|exact (Kd.C_below HR1.out HB.out)|(with_reducible refine Kd.C_alloc ?_ _)|(with_reducible refine Kd.C_drewN ?_ _)|(with_reducible refine Kd.C_drew ?_))); (case side2=>exact HC1.out); rintro e w22 ⟨rfl,hb⟩; refine ⟨_,rfl,?_⟩; have n0_:=yA (AP (g:=gb129) (o:= .cells #[.int .i64 A8,.slice A0_1 l0_1.length c0_1] 33 (0,0)) zM hb); have n1_:=yA (AP (g:=gb130) (o:= .cells #[.slice A1 l1.length c1] 35 (0,0)) zU hb); have n2_:=yA (AO zW hb); clear BK129; clear BK130; clear HB; have BK129:=n0_; have BK130:=n1_; have HB:=n2_; clear n0_ n1_ n2_; (try clear hb); (try clear hb2); (try clear hk); (try clear hi)))
     go_ret
     exact ⟨by first|rfl|(simp [AZ,AY]<;>rfl)|(simp [*,AZ,AY]<;>rfl),by repeat (first|(with_reducible first|exact HB.out|apply AE|apply AC|apply AD|refine AI ?_ GE129.out|refine AI ?_ GE130.out)|exact HB.out)⟩
    ·replace c18 :=Bool.eq_false_iff.mpr c18
     subst c18
     have H1:((Ac.f kj2 A8 l0_1 l1).bind fun t133=>(if t133=true then (some 16) else (Ab.l0 kj2 l0_1 (l0_1.length:Int) 0 A8 l0_1 l1)))=some r:=by rw [if_neg (show ¬(false=true) by decide)] at H; exact H
     clear H
     have H:=H1
     clear H1
     replace H:=Option.bind_eq_some_iff.mp H
     obtain ⟨t133,A230,H⟩:=H
     replace H:(if t133=true then (some 16) else (Ab.l0 kj2 l0_1 (l0_1.length:Int) 0 A8 l0_1 l1))=some r:=H
     have A23:=yA A230
     clear A230
     by_cases c24:t133=true
     ·subst c24
      have H1:(some 16)=some r:=by rw [if_pos rfl] at H; exact H
      clear H
      have H:=H1
      clear H1
      obtain rfl:=Option.some.inj H
      have hnb25:=NB130_129.out
      have hnc25:=NB129_130.out
      have hcz26_0:wc.cell? ⟨gb130,0,none⟩=some (.slice A1 l1.length c1):=(AK BK130.out 0).trans rfl
      have hfz26_0:=AJ BK130.out 0
      have hcz27_0:wc.cell? ⟨gb129,0,none⟩=some (.int .i64 A8):=(AK BK129.out 0).trans rfl
      have hcz27_1:wc.cell? ⟨gb129,1,none⟩=some (.slice A0_1 l0_1.length c0_1):=(AK BK129.out 1).trans rfl
      have hfz27_0:=AJ BK129.out 0
      have hfz27_1:=AJ BK129.out 1
      go_wp2_with (first|((with_reducible refine Ah (f:=34) rfl ?_); refine BB (some 24) rfl rfl Tryd.func34 zE rfl #[.slice A1 l1.length c1,.func (.func 33) #[] #[.pointer (some ⟨gb129,0,none⟩)]] rfl zD ?_; (with_reducible refine (By.calls _ _ l1 A8 false _ ?side1 ?side2 A17.out zM).mono ?_); (case side1=>repeat (first|exact (Kd.C_below HR1.out HB.out)|(with_reducible refine Kd.C_alloc ?_ _)|(with_reducible refine Kd.C_drewN ?_ _)|(with_reducible refine Kd.C_drew ?_))); (case side2=>exact HC1.out); rintro e w28 ⟨rfl,hb⟩; refine ⟨_,rfl,?_⟩; have n0_:=yA (AP (g:=gb129) (o:= .cells #[.int .i64 A8,.slice A0_1 l0_1.length c0_1] 33 (0,0)) zM hb); have n1_:=yA (AP (g:=gb130) (o:= .cells #[.slice A1 l1.length c1] 35 (0,0)) zU hb); have n2_:=yA (AO zW hb); clear BK129; clear BK130; clear HB; have BK129:=n0_; have BK130:=n1_; have HB:=n2_; clear n0_ n1_ n2_; (try clear hb); (try clear hb2); (try clear hk); (try clear hi); have hcz29_0:w28.cell? ⟨gb129,0,none⟩=some (.int .i64 A8):=(AK BK129.out 0).trans rfl; have hcz29_1:w28.cell? ⟨gb129,1,none⟩=some (.slice A0_1 l0_1.length c0_1):=(AK BK129.out 1).trans rfl; have hfz29_0:=AJ BK129.out 0; have hfz29_1:=AJ BK129.out 1; have hcz30_0:w28.cell? ⟨gb130,0,none⟩=some (.slice A1 l1.length c1):=(AK BK130.out 0).trans rfl; have hfz30_0:=AJ BK130.out 0)|((with_reducible refine Ah (f:=35) rfl ?_); refine BB (some 28) rfl rfl Tryd.func35 zE rfl #[.agg #[.int .i64 A8,.slice A0_1 l0_1.length c0_1],.slice A1 l1.length c1] rfl zD ?_; (with_reducible refine (Ac.calls kj2 A8 _ _ l0_1 _ _ l1 true _ ?side1 ?side2 ?side3 ?side4 A23.out).mono ?_); (case side1=>repeat (first|exact (Kd.C_below HR0_1.out HB.out)|(with_reducible refine Kd.C_alloc ?_ _)|(with_reducible refine Kd.C_drewN ?_ _)|(with_reducible refine Kd.C_drew ?_))); (case side2=>exact HC0_1.out); (case side3=>repeat (first|exact (Kd.C_below HR1.out HB.out)|(with_reducible refine Kd.C_alloc ?_ _)|(with_reducible refine Kd.C_drewN ?_ _)|(with_reducible refine Kd.C_drew ?_))); (case side4=>exact HC1.out); rintro e w31 ⟨rfl,hb⟩; refine ⟨_,rfl,?_⟩; have n0_:=yA (AP (g:=gb129) (o:= .cells #[.int .i64 A8,.slice A0_1 l0_1.length c0_1] 33 (0,0)) zM hb); have n1_:=yA (AP (g:=gb130) (o:= .cells #[.slice A1 l1.length c1] 35 (0,0)) zU hb); have n2_:=yA (AO zW hb); clear BK129; clear BK130; clear HB; have BK129:=n0_; have BK130:=n1_; have HB:=n2_; clear n0_ n1_ n2_; (try clear hb); (try clear hb2); (try clear hk); (try clear hi)))
      go_ret
      exact ⟨by first|rfl|(simp [AZ,AY]<;>rfl)|(simp [*,AZ,AY]<;>rfl),by repeat (first|(with_reducible first|exact HB.out|apply AE|apply AC|apply AD|refine AI ?_ GE129.out|refine AI ?_ GE130.out)|exact HB.out)⟩
     ·replace c24 :=Bool.eq_false_iff.mpr c24
      subst c24
      have H1:(Ab.l0 kj2 l0_1 (l0_1.length:Int) 0 A8 l0_1 l1)=some r:=by rw [if_neg (show ¬(false=true) by decide)] at H; exact H
      clear H
      have H:=H1
      clear H1
      have H':=yA H
      clear H
      have hnb32:=NB130_129.out
      have hnc32:=NB129_130.out
      have hcz33_0:wc.cell? ⟨gb130,0,none⟩=some (.slice A1 l1.length c1):=(AK BK130.out 0).trans rfl
      have hfz33_0:=AJ BK130.out 0
      have hcz34_0:wc.cell? ⟨gb129,0,none⟩=some (.int .i64 A8):=(AK BK129.out 0).trans rfl
      have hcz34_1:wc.cell? ⟨gb129,1,none⟩=some (.slice A0_1 l0_1.length c0_1):=(AK BK129.out 1).trans rfl
      have hfz34_0:=AJ BK129.out 0
      have hfz34_1:=AJ BK129.out 1
      go_wp2_with (first|((with_reducible refine Ah (f:=34) rfl ?_); refine BB (some 24) rfl rfl Tryd.func34 zE rfl #[.slice A1 l1.length c1,.func (.func 33) #[] #[.pointer (some ⟨gb129,0,none⟩)]] rfl zD ?_; (with_reducible refine (By.calls _ _ l1 A8 false _ ?side1 ?side2 A17.out zM).mono ?_); (case side1=>repeat (first|exact (Kd.C_below HR1.out HB.out)|(with_reducible refine Kd.C_alloc ?_ _)|(with_reducible refine Kd.C_drewN ?_ _)|(with_reducible refine Kd.C_drew ?_))); (case side2=>exact HC1.out); rintro e w35 ⟨rfl,hb⟩; refine ⟨_,rfl,?_⟩; have n0_:=yA (AP (g:=gb129) (o:= .cells #[.int .i64 A8,.slice A0_1 l0_1.length c0_1] 33 (0,0)) zM hb); have n1_:=yA (AP (g:=gb130) (o:= .cells #[.slice A1 l1.length c1] 35 (0,0)) zU hb); have n2_:=yA (AO zW hb); clear BK129; clear BK130; clear HB; have BK129:=n0_; have BK130:=n1_; have HB:=n2_; clear n0_ n1_ n2_; (try clear hb); (try clear hb2); (try clear hk); (try clear hi); have hcz36_0:w35.cell? ⟨gb129,0,none⟩=some (.int .i64 A8):=(AK BK129.out 0).trans rfl; have hcz36_1:w35.cell? ⟨gb129,1,none⟩=some (.slice A0_1 l0_1.length c0_1):=(AK BK129.out 1).trans rfl; have hfz36_0:=AJ BK129.out 0; have hfz36_1:=AJ BK129.out 1; have hcz37_0:w35.cell? ⟨gb130,0,none⟩=some (.slice A1 l1.length c1):=(AK BK130.out 0).trans rfl; have hfz37_0:=AJ BK130.out 0)|((with_reducible refine Ah (f:=35) rfl ?_); refine BB (some 28) rfl rfl Tryd.func35 zE rfl #[.agg #[.int .i64 A8,.slice A0_1 l0_1.length c0_1],.slice A1 l1.length c1] rfl zD ?_; (with_reducible refine (Ac.calls kj2 A8 _ _ l0_1 _ _ l1 false _ ?side1 ?side2 ?side3 ?side4 A23.out).mono ?_); (case side1=>repeat (first|exact (Kd.C_below HR0_1.out HB.out)|(with_reducible refine Kd.C_alloc ?_ _)|(with_reducible refine Kd.C_drewN ?_ _)|(with_reducible refine Kd.C_drew ?_))); (case side2=>exact HC0_1.out); (case side3=>repeat (first|exact (Kd.C_below HR1.out HB.out)|(with_reducible refine Kd.C_alloc ?_ _)|(with_reducible refine Kd.C_drewN ?_ _)|(with_reducible refine Kd.C_drew ?_))); (case side4=>exact HC1.out); rintro e w38 ⟨rfl,hb⟩; refine ⟨_,rfl,?_⟩; have n0_:=yA (AP (g:=gb129) (o:= .cells #[.int .i64 A8,.slice A0_1 l0_1.length c0_1] 33 (0,0)) zM hb); have n1_:=yA (AP (g:=gb130) (o:= .cells #[.slice A1 l1.length c1] 35 (0,0)) zU hb); have n2_:=yA (AO zW hb); clear BK129; clear BK130; clear HB; have BK129:=n0_; have BK130:=n1_; have HB:=n2_; clear n0_ n1_ n2_; (try clear hb); (try clear hb2); (try clear hk); (try clear hi); have hcz39_0:w38.cell? ⟨gb129,0,none⟩=some (.int .i64 A8):=(AK BK129.out 0).trans rfl; have hcz39_1:w38.cell? ⟨gb129,1,none⟩=some (.slice A0_1 l0_1.length c0_1):=(AK BK129.out 1).trans rfl; have hfz39_0:=AJ BK129.out 0; have hfz39_1:=AJ BK129.out 1))
      go_loopg [32] kj2 (fun kq v32 w'=>∃(x32_2:Int),v32= .int .i64 x32_2∧Aside0 (Ab.l0 kq l0_1 (l0_1.length:Int) x32_2 A8 l0_1 l1=some r)∧Aside0 (kq≤kj2)∧Aside0 (w'.heap[gb129]? =some (.cells #[.int .i64 A8,(.slice A0_1 l0_1.length c0_1)] 33 (0,0)))∧Aside0 (w'.heap[gb130]? =some (.cells #[(.slice A1 l1.length c1)] 35 (0,0)))∧Aside0 (Below w.heap.size w w'))
      case atStart=>exact ⟨(0),zG,H',⟨Nat.le_refl _⟩,⟨by (with_reducible repeat (first|refine AG ?_ _|refine AH ?_|refine AF ?_ _)); exact BK129.out⟩,⟨by (with_reducible repeat (first|refine AG ?_ _|refine AH ?_|refine AF ?_ _)); exact BK130.out⟩,⟨by repeat (first|(with_reducible first|exact HB.out|apply AE|apply AC|apply AD|refine AI ?_ GE129.out|refine AI ?_ GE130.out)|exact HB.out)⟩⟩
      case round=>
       clear H'
       try clear c1
       try clear c2
       try clear p2
       try clear c3
       try clear c7
       try clear c8
       try clear c12
       try clear c13
       try clear c14
       try clear c16
       try clear c18
       try clear c19
       try clear c24
       try clear c25
       try clear c32
       try clear c35
       try clear hcz11_0
       try clear hcz12_0
       try clear hcz12_1
       try clear hcz14_0
       try clear hcz14_1
       try clear hcz20_0
       try clear hcz21_0
       try clear hcz21_1
       try clear hcz26_0
       try clear hcz27_0
       try clear hcz27_1
       try clear hcz29_0
       try clear hcz29_1
       try clear hcz30_0
       try clear hcz33_0
       try clear hcz34_0
       try clear hcz34_1
       try clear hcz36_0
       try clear hcz36_1
       try clear hcz37_0
       try clear hcz39_0
       try clear hcz39_1
       try clear hcz9_0
       try clear hcz9_1
       try clear hfz11_0
       try clear hfz12_0
       try clear hfz12_1
       try clear hfz14_0
       try clear hfz14_1
       try clear hfz20_0
       try clear hfz21_0
       try clear hfz21_1
       try clear hfz26_0
       try clear hfz27_0
       try clear hfz27_1
       try clear hfz29_0
       try clear hfz29_1
       try clear hfz30_0
       try clear hfz33_0
       try clear hfz34_0
       try clear hfz34_1
       try clear hfz36_0
       try clear hfz36_1
       try clear hfz37_0
       try clear hfz39_0
       try clear hfz39_1
       try clear hfz9_0
       try clear hfz9_1
       try clear p2
       obtain ⟨x32_2,rfl,HA,HK2,BK129,BK130,HB⟩:=hrel
       cases gk with
       |zero=>exact absurd HA.out (by simp [Ab.l0])
       | succ k2 =>
        have H:=HA.out
        clear HA
        simp only [Ab.l0] at H
        by_cases c40:x32_2<(l0_1.length:Int)
        ·rw [if_pos c40] at H
         have c40b0:decide (x32_2<(l0_1.length:Int))=true:=decide_eq_true c40
         clear c40
         by_cases c41:0≤x32_2
         ·rw [if_pos c41] at H
          have c41b0:decide (0≤x32_2)=true:=decide_eq_true c41
          clear c41
          by_cases c42:x32_2<(l0_1.length:Int)
          ·rw [if_pos c42] at H
           have c42b0:decide (x32_2<(l0_1.length:Int))=true:=decide_eq_true c42
           clear c42
           replace H:=Option.bind_eq_some_iff.mp H
           obtain ⟨t137,A430,H⟩:=H
           replace H:(if t137=true then (some 8) else (Ab.l0 k2 l0_1 (l0_1.length:Int) (wrap64 (x32_2+1)) A8 l0_1 l1))=some r:=H
           have A43:=yA A430
           clear A430
           by_cases c44:t137=true
           ·subst c44
            have H1:(some 8)=some r:=by rw [if_pos rfl] at H; exact H
            clear H
            have H:=H1
            clear H1
            obtain rfl:=Option.some.inj H
            have p134:0≤(x32_2:Int):=yD
            have q134:x32_2<(l0_1.length:Int):=yD
            obtain ⟨ad134,A134_3,c134_3,e134,hx134_0,hx134_1,hx134_2,hx134_3,hl134_3,hi134_3⟩:=C9 HR0_1.out x32_2 p134 q134
            cases e134
            replace hx134_0:=yC HB.out hx134_0
            replace hx134_1:=yC HB.out hx134_1
            replace hx134_2:=yC HB.out hx134_2
            replace hx134_3:=yC HB.out hx134_3
            have HR134_3:=yA hi134_3
            have HC134_3:=yA hl134_3
            clear hi134_3 hl134_3
            replace p134:=eq_true p134
            replace q134:=eq_true q134
            go_wp2_with (first|((with_reducible refine Ar (N:=6) rfl ?_); (try (refine BI (by rfl) ?_; dsimp only)); refine Ap ?hg (N:=6) ?hd (cs:= #[.int .i64 0]) (t:=3) ?hr ?_; (case hd=>rfl); (case hg=>rfl); (case hr=>first|(go_simp; done)|(go_simp; rfl)); intro gb135 hg w45 hbox hb; have n0_:=yA (AP (g:=gb129) (o:= .cells #[.int .i64 A8,.slice (some ad134) l0_1.length c0_1] 33 (0,0)) zM hb); have n1_:=yA (AP (g:=gb130) (o:= .cells #[.slice A1 l1.length c1] 35 (0,0)) zU hb); have n2_:=yA (AO zW hb); have n3_:=yA (hbox); have n4_:=yA ((by rw [hg]; exact (AT zW):w.heap.size≤gb135)); have n5_:=yA ((by rw [hg]; exact (AT zW):w.heap.size≤gb135)); have n6_:=yA ((by rw [hg]; exact Nat.ne_of_lt (B0 (g:=gb129) (o:= .cells #[.int .i64 A8,.slice (some ad134) l0_1.length c0_1] 33 (0,0)) zM):gb129≠gb135)); have n7_:=yA ((by rw [hg]; exact Nat.ne_of_gt (B0 (g:=gb129) (o:= .cells #[.int .i64 A8,.slice (some ad134) l0_1.length c0_1] 33 (0,0)) zM):gb135≠gb129)); have n8_:=yA ((by rw [hg]; exact Nat.ne_of_lt (B0 (g:=gb130) (o:= .cells #[.slice A1 l1.length c1] 35 (0,0)) zU):gb130≠gb135)); have n9_:=yA ((by rw [hg]; exact Nat.ne_of_gt (B0 (g:=gb130) (o:= .cells #[.slice A1 l1.length c1] 35 (0,0)) zU):gb135≠gb130)); clear BK129; clear BK130; clear HB; have BK129:=n0_; have BK130:=n1_; have HB:=n2_; have BK135:=n3_; have GW135:=n4_; have GE135:=n5_; have NB129_135:=n6_; have NB135_129:=n7_; have NB130_135:=n8_; have NB135_130:=n9_; clear n0_ n1_ n2_ n3_ n4_ n5_ n6_ n7_ n8_ n9_; clear hb hbox hg)|((with_reducible refine Ar (N:=7) rfl ?_); (try (refine BI (by rfl) ?_; dsimp only)); refine Ap ?hg (N:=7) ?hd (cs:= #[.string (⟨#[]⟩:ByteArray),.int .i64 0,.int .i64 0,.slice none 0 0]) (t:=49) ?hr ?_; (case hd=>rfl); (case hg=>rfl); (case hr=>first|(go_simp; done)|(go_simp; rfl)); intro gb136 hg w46 hbox hb; have n0_:=yA (AP (g:=gb129) (o:= .cells #[.int .i64 A8,.slice (some ad134) l0_1.length c0_1] 33 (0,0)) zM hb); have n1_:=yA (AP (g:=gb130) (o:= .cells #[.slice A1 l1.length c1] 35 (0,0)) zU hb); have n2_:=yA (AP (g:=gb135) (o:= .cells #[.int .i64 0] 3 (0,0)) zD0 hb); have n3_:=yA (AO zB2 hb); have n4_:=yA (hbox); have n5_:=yA ((by rw [hg]; exact (AT zB2):w.heap.size≤gb136)); have n6_:=yA ((by rw [hg]; exact (AT zB2):w.heap.size≤gb136)); have n7_:=yA ((by rw [hg]; exact Nat.ne_of_lt (B0 (g:=gb129) (o:= .cells #[.int .i64 A8,.slice (some ad134) l0_1.length c0_1] 33 (0,0)) zM):gb129≠gb136)); have n8_:=yA ((by rw [hg]; exact Nat.ne_of_gt (B0 (g:=gb129) (o:= .cells #[.int .i64 A8,.slice (some ad134) l0_1.length c0_1] 33 (0,0)) zM):gb136≠gb129)); have n9_:=yA ((by rw [hg]; exact Nat.ne_of_lt (B0 (g:=gb130) (o:= .cells #[.slice A1 l1.length c1] 35 (0,0)) zU):gb130≠gb136)); have n10_:=yA ((by rw [hg]; exact Nat.ne_of_gt (B0 (g:=gb130) (o:= .cells #[.slice A1 l1.length c1] 35 (0,0)) zU):gb136≠gb130)); have n11_:=yA ((by rw [hg]; exact Nat.ne_of_lt (B0 (g:=gb135) (o:= .cells #[.int .i64 0] 3 (0,0)) zD0):gb135≠gb136)); have n12_:=yA ((by rw [hg]; exact Nat.ne_of_gt (B0 (g:=gb135) (o:= .cells #[.int .i64 0] 3 (0,0)) zD0):gb136≠gb135)); clear BK129; clear BK130; clear BK135; clear HB; have BK129:=n0_; have BK130:=n1_; have BK135:=n2_; have HB:=n3_; have BK136:=n4_; have GW136:=n5_; have GE136:=n6_; have NB129_136:=n7_; have NB136_129:=n8_; have NB130_136:=n9_; have NB136_130:=n10_; have NB135_136:=n11_; have NB136_135:=n12_; clear n0_ n1_ n2_ n3_ n4_ n5_ n6_ n7_ n8_ n9_ n10_ n11_ n12_; clear hb hbox hg; have hnb47:=NB135_129.out; have hnc47:=NB129_135.out; have hnb48:=NB135_130.out; have hnc48:=NB130_135.out; have hnb49:=NB135_136.out; have hnc49:=NB136_135.out; have hcz50_0:w46.cell? ⟨gb135,0,none⟩=some (.int .i64 0):=(AK BK135.out 0).trans rfl; have hfz50_0:=AJ BK135.out 0; have hnb51:=NB136_129.out; have hnc51:=NB129_136.out; have hnb52:=NB136_130.out; have hnc52:=NB130_136.out; have hcz53_0:w46.cell? ⟨gb136,0,none⟩=some (.string (⟨#[]⟩:ByteArray)):=(AK BK136.out 0).trans rfl; have hcz53_1:w46.cell? ⟨gb136,1,none⟩=some (.int .i64 0):=(AK BK136.out 1).trans rfl; have hcz53_2:w46.cell? ⟨gb136,2,none⟩=some (.int .i64 0):=(AK BK136.out 2).trans rfl; have hcz53_3:w46.cell? ⟨gb136,3,none⟩=some (.slice none 0 0):=(AK BK136.out 3).trans rfl; have hfz53_0:=AJ BK136.out 0; have hfz53_1:=AJ BK136.out 1; have hfz53_2:=AJ BK136.out 2; have hfz53_3:=AJ BK136.out 3; have hnb54:=NB129_130.out; have hnc54:=NB130_129.out; have hcz55_0:w46.cell? ⟨gb129,0,none⟩=some (.int .i64 A8):=(AK BK129.out 0).trans rfl; have hcz55_1:w46.cell? ⟨gb129,1,none⟩=some (.slice (some ad134) l0_1.length c0_1):=(AK BK129.out 1).trans rfl; have hfz55_0:=AJ BK129.out 0; have hfz55_1:=AJ BK129.out 1; have hcz56_0:w46.cell? ⟨gb130,0,none⟩=some (.slice A1 l1.length c1):=(AK BK130.out 0).trans rfl; have hfz56_0:=AJ BK130.out 0)|((with_reducible refine Ah (f:=36) rfl ?_); refine BB (some 40) rfl rfl Tryd.func36 zE rfl #[.slice A134_3 ((AM l0_1 x32_2).f3).length c134_3,.func (.func 37) #[] #[.pointer (some ⟨gb129,0,none⟩),.pointer (some ⟨gb130,0,none⟩),.pointer (some ⟨gb135,0,none⟩)]] rfl zD ?_; (with_reducible refine (CD.calls _ _ ((AM l0_1 x32_2).f3) A8 _ _ l0_1 _ _ l1 x32_2 true _ ?side1 ?side2 ?side3 ?side4 ?side5 ?side6 A43.out zQ zR zP).mono ?_); (case side1=>exact Kd.C_below HR134_3.out zA0); (case side2=>exact HC134_3.out); (case side3=>exact Kd.C_below HR0_1.out zA0); (case side4=>exact HC0_1.out); (case side5=>exact Kd.C_below HR1.out zA0); (case side6=>exact HC1.out); rintro e w57 ⟨rfl,hb⟩; refine ⟨_,rfl,?_⟩; have n0_:=yA (AP (g:=gb129) (o:= .cells #[.int .i64 A8,.slice (some ad134) l0_1.length c0_1] 33 (0,0)) zQ hb); have n1_:=yA (AP (g:=gb130) (o:= .cells #[.slice A1 l1.length c1] 35 (0,0)) zR hb); have n2_:=yA (AP (g:=gb135) (o:= .cells #[.int .i64 x32_2] 3 (0,0)) zP hb); have n3_:=yA (AP (g:=gb136) (o:= .cells #[.string ((AM l0_1 x32_2).f0),.int .i64 ((AM l0_1 x32_2).f1),.int .i64 ((AM l0_1 x32_2).f2),.slice A134_3 ((AM l0_1 x32_2).f3).length c134_3] 49 (0,0)) zA8 hb); have n4_:=yA (AO zA0 hb); clear BK129; clear BK130; clear BK135; clear BK136; clear HB; have BK129:=n0_; have BK130:=n1_; have BK135:=n2_; have BK136:=n3_; have HB:=n4_; clear n0_ n1_ n2_ n3_ n4_; (try clear hb); (try clear hb2); (try clear hk); (try clear hi)))
            go_ret
            exact ⟨by first|rfl|(simp [AZ,AY]<;>rfl)|(simp [*,AZ,AY]<;>rfl),by repeat (first|(with_reducible first|exact HB.out|apply AE|apply AC|apply AD|refine AI ?_ GE129.out|refine AI ?_ GE130.out|refine AI ?_ GE135.out|refine AI ?_ GE136.out)|exact HB.out)⟩
           ·replace c44:=Bool.eq_false_iff.mpr c44
            subst c44
            have H1:(Ab.l0 k2 l0_1 (l0_1.length:Int) (wrap64 (x32_2+1)) A8 l0_1 l1)=some r:=by rw [if_neg (show ¬(false=true) by decide)] at H; exact H
            clear H
            have H:=H1
            clear H1
            have H':=yA H
            clear H
            have p134:0≤(x32_2:Int):=yD
            have q134:x32_2<(l0_1.length:Int):=yD
            obtain ⟨ad134,A134_3,c134_3,e134,hx134_0,hx134_1,hx134_2,hx134_3,hl134_3,hi134_3⟩:=C9 HR0_1.out x32_2 p134 q134
            cases e134
            replace hx134_0:=yC HB.out hx134_0
            replace hx134_1:=yC HB.out hx134_1
            replace hx134_2:=yC HB.out hx134_2
            replace hx134_3:=yC HB.out hx134_3
            have HR134_3:=yA hi134_3
            have HC134_3:=yA hl134_3
            clear hi134_3 hl134_3
            replace p134:=eq_true p134
            replace q134:=eq_true q134
            go_wp2_with (first|((with_reducible refine Ar (N:=6) rfl ?_); (try (refine BI (by rfl) ?_; dsimp only)); refine Ap ?hg (N:=6) ?hd (cs:= #[.int .i64 0]) (t:=3) ?hr ?_; (case hd=>rfl); (case hg=>rfl); (case hr=>first|(go_simp; done)|(go_simp; rfl)); intro gb135 hg w58 hbox hb; have n0_:=yA (AP (g:=gb129) (o:= .cells #[.int .i64 A8,.slice (some ad134) l0_1.length c0_1] 33 (0,0)) zM hb); have n1_:=yA (AP (g:=gb130) (o:= .cells #[.slice A1 l1.length c1] 35 (0,0)) zU hb); have n2_:=yA (AO zW hb); have n3_:=yA (hbox); have n4_:=yA ((by rw [hg]; exact (AT zW):w.heap.size≤gb135)); have n5_:=yA ((by rw [hg]; exact (AT zW):w.heap.size≤gb135)); have n6_:=yA ((by rw [hg]; exact Nat.ne_of_lt (B0 (g:=gb129) (o:= .cells #[.int .i64 A8,.slice (some ad134) l0_1.length c0_1] 33 (0,0)) zM):gb129≠gb135)); have n7_:=yA ((by rw [hg]; exact Nat.ne_of_gt (B0 (g:=gb129) (o:= .cells #[.int .i64 A8,.slice (some ad134) l0_1.length c0_1] 33 (0,0)) zM):gb135≠gb129)); have n8_:=yA ((by rw [hg]; exact Nat.ne_of_lt (B0 (g:=gb130) (o:= .cells #[.slice A1 l1.length c1] 35 (0,0)) zU):gb130≠gb135)); have n9_:=yA ((by rw [hg]; exact Nat.ne_of_gt (B0 (g:=gb130) (o:= .cells #[.slice A1 l1.length c1] 35 (0,0)) zU):gb135≠gb130)); clear BK129; clear BK130; clear HB; have BK129:=n0_; have BK130:=n1_; have HB:=n2_; have BK135:=n3_; have GW135:=n4_; have GE135:=n5_; have NB129_135:=n6_; have NB135_129:=n7_; have NB130_135:=n8_; have NB135_130:=n9_; clear n0_ n1_ n2_ n3_ n4_ n5_ n6_ n7_ n8_ n9_; clear hb hbox hg)|((with_reducible refine Ar (N:=7) rfl ?_); (try (refine BI (by rfl) ?_; dsimp only)); refine Ap ?hg (N:=7) ?hd (cs:= #[.string (⟨#[]⟩:ByteArray),.int .i64 0,.int .i64 0,.slice none 0 0]) (t:=49) ?hr ?_; (case hd=>rfl); (case hg=>rfl); (case hr=>first|(go_simp; done)|(go_simp; rfl)); intro gb136 hg w59 hbox hb; have n0_:=yA (AP (g:=gb129) (o:= .cells #[.int .i64 A8,.slice (some ad134) l0_1.length c0_1] 33 (0,0)) zM hb); have n1_:=yA (AP (g:=gb130) (o:= .cells #[.slice A1 l1.length c1] 35 (0,0)) zU hb); have n2_:=yA (AP (g:=gb135) (o:= .cells #[.int .i64 0] 3 (0,0)) zD0 hb); have n3_:=yA (AO zB2 hb); have n4_:=yA (hbox); have n5_:=yA ((by rw [hg]; exact (AT zB2):w.heap.size≤gb136)); have n6_:=yA ((by rw [hg]; exact (AT zB2):w.heap.size≤gb136)); have n7_:=yA ((by rw [hg]; exact Nat.ne_of_lt (B0 (g:=gb129) (o:= .cells #[.int .i64 A8,.slice (some ad134) l0_1.length c0_1] 33 (0,0)) zM):gb129≠gb136)); have n8_:=yA ((by rw [hg]; exact Nat.ne_of_gt (B0 (g:=gb129) (o:= .cells #[.int .i64 A8,.slice (some ad134) l0_1.length c0_1] 33 (0,0)) zM):gb136≠gb129)); have n9_:=yA ((by rw [hg]; exact Nat.ne_of_lt (B0 (g:=gb130) (o:= .cells #[.slice A1 l1.length c1] 35 (0,0)) zU):gb130≠gb136)); have n10_:=yA ((by rw [hg]; exact Nat.ne_of_gt (B0 (g:=gb130) (o:= .cells #[.slice A1 l1.length c1] 35 (0,0)) zU):gb136≠gb130)); have n11_:=yA ((by rw [hg]; exact Nat.ne_of_lt (B0 (g:=gb135) (o:= .cells #[.int .i64 0] 3 (0,0)) zD0):gb135≠gb136)); have n12_:=yA ((by rw [hg]; exact Nat.ne_of_gt (B0 (g:=gb135) (o:= .cells #[.int .i64 0] 3 (0,0)) zD0):gb136≠gb135)); clear BK129; clear BK130; clear BK135; clear HB; have BK129:=n0_; have BK130:=n1_; have BK135:=n2_; have HB:=n3_; have BK136:=n4_; have GW136:=n5_; have GE136:=n6_; have NB129_136:=n7_; have NB136_129:=n8_; have NB130_136:=n9_; have NB136_130:=n10_; have NB135_136:=n11_; have NB136_135:=n12_; clear n0_ n1_ n2_ n3_ n4_ n5_ n6_ n7_ n8_ n9_ n10_ n11_ n12_; clear hb hbox hg; have hnb60:=NB135_129.out; have hnc60:=NB129_135.out; have hnb61:=NB135_130.out; have hnc61:=NB130_135.out; have hnb62:=NB135_136.out; have hnc62:=NB136_135.out; have hcz63_0:w59.cell? ⟨gb135,0,none⟩=some (.int .i64 0):=(AK BK135.out 0).trans rfl; have hfz63_0:=AJ BK135.out 0; have hnb64:=NB136_129.out; have hnc64:=NB129_136.out; have hnb65:=NB136_130.out; have hnc65:=NB130_136.out; have hcz66_0:w59.cell? ⟨gb136,0,none⟩=some (.string (⟨#[]⟩:ByteArray)):=(AK BK136.out 0).trans rfl; have hcz66_1:w59.cell? ⟨gb136,1,none⟩=some (.int .i64 0):=(AK BK136.out 1).trans rfl; have hcz66_2:w59.cell? ⟨gb136,2,none⟩=some (.int .i64 0):=(AK BK136.out 2).trans rfl; have hcz66_3:w59.cell? ⟨gb136,3,none⟩=some (.slice none 0 0):=(AK BK136.out 3).trans rfl; have hfz66_0:=AJ BK136.out 0; have hfz66_1:=AJ BK136.out 1; have hfz66_2:=AJ BK136.out 2; have hfz66_3:=AJ BK136.out 3; have hnb67:=NB129_130.out; have hnc67:=NB130_129.out; have hcz68_0:w59.cell? ⟨gb129,0,none⟩=some (.int .i64 A8):=(AK BK129.out 0).trans rfl; have hcz68_1:w59.cell? ⟨gb129,1,none⟩=some (.slice (some ad134) l0_1.length c0_1):=(AK BK129.out 1).trans rfl; have hfz68_0:=AJ BK129.out 0; have hfz68_1:=AJ BK129.out 1; have hcz69_0:w59.cell? ⟨gb130,0,none⟩=some (.slice A1 l1.length c1):=(AK BK130.out 0).trans rfl; have hfz69_0:=AJ BK130.out 0)|((with_reducible refine Ah (f:=36) rfl ?_); refine BB (some 40) rfl rfl Tryd.func36 zE rfl #[.slice A134_3 ((AM l0_1 x32_2).f3).length c134_3,.func (.func 37) #[] #[.pointer (some ⟨gb129,0,none⟩),.pointer (some ⟨gb130,0,none⟩),.pointer (some ⟨gb135,0,none⟩)]] rfl zD ?_; (with_reducible refine (CD.calls _ _ ((AM l0_1 x32_2).f3) A8 _ _ l0_1 _ _ l1 x32_2 false _ ?side1 ?side2 ?side3 ?side4 ?side5 ?side6 A43.out zQ zR zP).mono ?_); (case side1=>exact Kd.C_below HR134_3.out zA0); (case side2=>exact HC134_3.out); (case side3=>exact Kd.C_below HR0_1.out zA0); (case side4=>exact HC0_1.out); (case side5=>exact Kd.C_below HR1.out zA0); (case side6=>exact HC1.out); rintro e w70 ⟨rfl,hb⟩; refine ⟨_,rfl,?_⟩; have n0_:=yA (AP (g:=gb129) (o:= .cells #[.int .i64 A8,.slice (some ad134) l0_1.length c0_1] 33 (0,0)) zQ hb); have n1_:=yA (AP (g:=gb130) (o:= .cells #[.slice A1 l1.length c1] 35 (0,0)) zR hb); have n2_:=yA (AP (g:=gb135) (o:= .cells #[.int .i64 x32_2] 3 (0,0)) zP hb); have n3_:=yA (AP (g:=gb136) (o:= .cells #[.string ((AM l0_1 x32_2).f0),.int .i64 ((AM l0_1 x32_2).f1),.int .i64 ((AM l0_1 x32_2).f2),.slice A134_3 ((AM l0_1 x32_2).f3).length c134_3] 49 (0,0)) zA8 hb); have n4_:=yA (AO zA0 hb); clear BK129; clear BK130; clear BK135; clear BK136; clear HB; have BK129:=n0_; have BK130:=n1_; have BK135:=n2_; have BK136:=n3_; have HB:=n4_; clear n0_ n1_ n2_ n3_ n4_; (try clear hb); (try clear hb2); (try clear hk); (try clear hi)))
            go_roundg k2
            case measure=>have:=HJ2.out; have:=HK2.out; omega
            case rel=>exact ⟨(wrap64 (x32_2+1)),zG,H',⟨by have:=HJ2.out; have:=HK2.out; omega⟩,⟨by (with_reducible repeat (first|refine AG ?_ _|refine AH ?_|refine AF ?_ _)); exact BK129.out⟩,⟨by (with_reducible repeat (first|refine AG ?_ _|refine AH ?_|refine AF ?_ _)); exact BK130.out⟩,⟨by repeat (first|(with_reducible first|exact HB.out|apply AE|apply AC|apply AD|refine AI ?_ GE129.out|refine AI ?_ GE130.out|refine AI ?_ GE135.out|refine AI ?_ GE136.out)|exact HB.out)⟩⟩
          ·rw [if_neg c42] at H
           exact absurd H zA6
         ·rw [if_neg c41] at H
          exact absurd H zA6
        ·rw [if_neg c40] at H
         have c40b0:decide (x32_2<(l0_1.length:Int))=false:=decide_eq_false c40
         clear c40
         obtain rfl:=Option.some.inj H
         go_wp2
         go_ret
         exact ⟨by first|rfl|(simp [AZ,AY]<;>rfl)|(simp [*,AZ,AY]<;>rfl),by repeat (first|(with_reducible first|exact HB.out|apply AE|apply AC|apply AD|refine AI ?_ GE129.out|refine AI ?_ GE130.out)|exact HB.out)⟩
def Au.l0:Nat→List (S56)→Int→Int→Int→Int→List (S49)→Option (Int×Int)
 |0,_,_,_,_,_,_=>none
 |k+1,x1,x7,x16,x17,x139000,x139001=>if x17<x16 then ((BC.f x139000 x139001 x1 x17).bind fun t140=>(Au.l0 k x1 (mx x7 t140) x16 (wrap64 (x17+1)) x139000 x139001)) else (some (x7,0))
def Au.f (k:Nat) (A8:Int) (l0_1:List (S49)) (l1:List (S56)):Option (Int×Int):=(Ab.f k A8 l0_1 l1).bind fun t139=>(if t139=0 then (Au.l0 k l1 0 (l1.length:Int) 0 A8 l0_1) else (some (0,t139)))
theorem Au.mono_l:∀k,(∀y0 y1 y2 y3 y4 y5,LeO (Au.l0 k y0 y1 y2 y3 y4 y5) (Au.l0 (k+1) y0 y1 y2 y3 y4 y5))
 |0=>fun _ _ _ _ _ _ r h=>by simp [Au.l0] at h
 | k +1=>by
  have ih0:=Au.mono_l k
  ·intro y0 y1 y2 y3 y4 y5
   unfold Au.l0
   repeat' first
   |(with_reducible exact ih0 _ _ _ _ _ _)
   |(with_reducible exact Ab.mono _ _ _ _)
   |(with_reducible exact LeO.refl _)
   |(with_reducible exact LeO.none _)
   |(with_reducible refine LeO.ite ?_ ?_)
   |(with_reducible refine LeO.bind ?_ (fun _=> ?_))
   |exact ih0 _ _ _ _ _ _
   |exact Ab.mono _ _ _ _
   |exact LeO.none _
   |refine LeO.ite ?_ ?_
   |refine LeO.bind ?_ (fun _=> ?_)
theorem Au.mono:∀a0 a1 a2 k,LeO (Au.f k a0 a1 a2) (Au.f (k+1) a0 a1 a2):=by
 intro a0 a1 a2 k
 have ih0:=Au.mono_l k
 unfold Au.f
 repeat' first
  |(with_reducible exact ih0 _ _ _ _ _ _)
  |(with_reducible exact Ab.mono _ _ _ _)
  |(with_reducible exact LeO.refl _)
  |(with_reducible exact LeO.none _)
  |(with_reducible refine LeO.ite ?_ ?_)
  |(with_reducible refine LeO.bind ?_ (fun _=> ?_))
  |exact ih0 _ _ _ _ _ _
  |exact Ab.mono _ _ _ _
  |exact LeO.none _
  |refine LeO.ite ?_ ?_
  |refine LeO.bind ?_ (fun _=> ?_)
set_option maxHeartbeats 8000000 in
theorem Au.calls (k:Nat) (A8:Int) (A0_1:Option Addr) (c0_1:Nat) (l0_1:List (S49)) (A1:Option Addr) (c1:Nat) (l1:List (S56)) (r1:Int) (r2:Int) (w:World) (hr0_1:Kd.C k49 w A0_1 l0_1.length l0_1) (hc0_1:l0_1.length≤c0_1) (hr1:Kd.C k56 w A1 l1.length l1) (hc1:l1.length≤c1) (h:Au.f k A8 l0_1 l1=some (r1,r2)):
  Calls Tryd.prog 6 #[.agg #[.int .i64 A8,.slice A0_1 l0_1.length c0_1],.slice A1 l1.length c1] w fun e w'=>e= .returned (.tuple #[.int .i64 r1,.int .i64 r2])∧Below w.heap.size w w':=by
 have hu33:=Tryd.underlying33
 have HR0_1:=yA hr0_1
 have HC0_1:=yA hc0_1
 clear hr0_1 hc0_1
 have HR1:=yA hr1
 have HC1:=yA hc1
 clear hr1 hc1
 have HB:=yA (Below.refl w.heap.size w)
 have H:((Ab.f k A8 l0_1 l1).bind fun t139=>(if t139=0 then (Au.l0 k l1 0 (l1.length:Int) 0 A8 l0_1) else (some (0,t139))))=some (r1,r2):=h
 clear h
 replace H:=Option.bind_eq_some_iff.mp H
 obtain ⟨t139,A30,H⟩:=H
 replace H:(if t139=0 then (Au.l0 k l1 0 (l1.length:Int) 0 A8 l0_1) else (some (0,t139)))=some (r1,r2):=H
 have A3:=yA A30
 clear A30
 by_cases c4:t139=0
 ·rw [if_pos c4] at H
  have c4b0:(t139==0)=true:=beq_iff_eq.mpr c4
  have c4b1:(t139 !=0)=false:=bne_eq_false_iff_eq.mpr c4
  clear c4
  have H':=yA H
  clear H
  go_enter Tryd.func6,Tryd.ntmps6
  go_wp2_with (first|((with_reducible refine Ar (N:=2) rfl ?_); refine Ap ?hg (N:=2) ?hd (cs:= #[.int .i64 A8,.slice A0_1 l0_1.length c0_1]) (t:=33) ?hr ?_; (case hd=>rfl); (case hg=>rfl); (case hr=>first|(go_simp; done)|(go_simp; rfl)); intro gb138 hg w5 hbox hb; have n0_:=yA (AO zB hb); have n1_:=yA (hbox); have n2_:=yA ((by rw [hg]; exact (AT zB):w.heap.size≤gb138)); have n3_:=yA ((by rw [hg]; exact (AT zB):w.heap.size≤gb138)); clear HB; have HB:=n0_; have BK138:=n1_; have GW138:=n2_; have GE138:=n3_; clear n0_ n1_ n2_ n3_; clear hb hbox hg; have hcz6_0:w5.cell? ⟨gb138,0,none⟩=some (.int .i64 A8):=(AK BK138.out 0).trans rfl; have hcz6_1:w5.cell? ⟨gb138,1,none⟩=some (.slice A0_1 l0_1.length c0_1):=(AK BK138.out 1).trans rfl; have hfz6_0:=AJ BK138.out 0; have hfz6_1:=AJ BK138.out 1)|((with_reducible refine Ah (f:=16) rfl ?_); refine BB (some 11) rfl rfl Tryd.func16 zE rfl #[.agg #[.int .i64 A8,.slice A0_1 l0_1.length c0_1],.slice A1 l1.length c1] rfl zD ?_; (with_reducible refine (Ab.calls k A8 _ _ l0_1 _ _ l1 t139 _ ?side1 ?side2 ?side3 ?side4 A3.out).mono ?_); (case side1=>repeat (first|exact (Kd.C_below HR0_1.out HB.out)|(with_reducible refine Kd.C_alloc ?_ _)|(with_reducible refine Kd.C_drewN ?_ _)|(with_reducible refine Kd.C_drew ?_))); (case side2=>exact HC0_1.out); (case side3=>repeat (first|exact (Kd.C_below HR1.out HB.out)|(with_reducible refine Kd.C_alloc ?_ _)|(with_reducible refine Kd.C_drewN ?_ _)|(with_reducible refine Kd.C_drew ?_))); (case side4=>exact HC1.out); rintro e w7 ⟨rfl,hb⟩; refine ⟨_,rfl,?_⟩; have n0_:=yA (AP (g:=gb138) (o:= .cells #[.int .i64 A8,.slice A0_1 l0_1.length c0_1] 33 (0,0)) (by (with_reducible repeat (first|refine AG ?_ _|refine AH ?_|refine AF ?_ _)); exact BK138.out) hb); have n1_:=yA (AO (by repeat (first|(with_reducible first|exact HB.out|apply AE|apply AC|apply AD|refine AI ?_ GE138.out)|exact HB.out)) hb); clear BK138; clear HB; have BK138:=n0_; have HB:=n1_; clear n0_ n1_; (try clear hb); (try clear hb2); (try clear hk); (try clear hi)))
  go_loopg [7,17] k (fun kq v7 v17 w'=>∃(x7_1:Int) (x17_1:Int),v7= .int .i64 x7_1∧v17= .int .i64 x17_1∧Aside0 (Au.l0 kq l1 x7_1 (l1.length:Int) x17_1 A8 l0_1=some (r1,r2))∧Aside0 (kq≤k)∧Aside0 (w'.heap[gb138]? =some (.cells #[.int .i64 A8,(.slice A0_1 l0_1.length c0_1)] 33 (0,0)))∧Aside0 (Below w.heap.size w w'))
  case atStart=>exact ⟨(0),(0),zG,zG,H',⟨Nat.le_refl _⟩,⟨by (with_reducible repeat (first|refine AG ?_ _|refine AH ?_|refine AF ?_ _)); exact BK138.out⟩,⟨by repeat (first|(with_reducible first|exact HB.out|apply AE|apply AC|apply AD|refine AI ?_ GE138.out)|exact HB.out)⟩⟩
  case round=>
   clear H'
   try clear c1
   try clear p2
   try clear c4
   try clear c4b0
   try clear c4b1
   try clear c6
   try clear hcz6_0
   try clear hcz6_1
   try clear hfz6_0
   try clear hfz6_1
   obtain ⟨x7_1,x17_1,rfl,rfl,HA,HK1,BK138,HB⟩:=hrel
   cases gk with
   |zero=>exact absurd HA.out (by simp [Au.l0])
   | succ k1=>
    have H:=HA.out
    clear HA
    simp only [Au.l0] at H
    by_cases c8:x17_1<(l1.length:Int)
    ·rw [if_pos c8] at H
     have c8b0:decide (x17_1<(l1.length:Int))=true:=decide_eq_true c8
     clear c8
     replace H:=Option.bind_eq_some_iff.mp H
     obtain ⟨t140,A90,H⟩:=H
     replace H:(Au.l0 k1 l1 (mx x7_1 t140) (l1.length:Int) (wrap64 (x17_1+1)) A8 l0_1)=some (r1,r2):=H
     have A9:=yA A90
     clear A90
     obtain ⟨ji10,hji10⟩:∃j_:Int,(mx x7_1 t140)=j_:=⟨_,rfl⟩
     replace H:(Au.l0 k1 l1 ji10 (l1.length:Int) (wrap64 (x17_1+1)) A8 l0_1)=some (r1,r2):=by first|(rw [hji10] at H; exact H)|(simp only [hji10] at H ⊢; exact H)
     (try rw [hji10] at A9)
     have hji10_:(if x7_1<t140 then t140 else x7_1)=ji10:=hji10
     have H':=yA H
     clear H
     have hcz11_0:wr.cell? ⟨gb138,0,none⟩=some (.int .i64 A8):=(AK BK138.out 0).trans rfl
     have hcz11_1:wr.cell? ⟨gb138,1,none⟩=some (.slice A0_1 l0_1.length c0_1):=(AK BK138.out 1).trans rfl
     have hfz11_0:=AJ BK138.out 0
     have hfz11_1:=AJ BK138.out 1
     go_wp2_with (first|((with_reducible refine Ah (f:=22) rfl ?_); refine BB (some 24) rfl rfl Tryd.func22 zE rfl #[.agg #[.int .i64 A8,.slice A0_1 l0_1.length c0_1],.slice A1 l1.length c1,.int .i64 x17_1] rfl zD ?_; (with_reducible refine (BC.calls A8 _ _ l0_1 _ _ l1 x17_1 t140 _ ?side1 ?side2 ?side3 ?side4 A9.out).mono ?_); (case side1=>repeat (first|exact (Kd.C_below HR0_1.out HB.out)|(with_reducible refine Kd.C_alloc ?_ _)|(with_reducible refine Kd.C_drewN ?_ _)|(with_reducible refine Kd.C_drew ?_))); (case side2=>exact HC0_1.out); (case side3=>repeat (first|exact (Kd.C_below HR1.out HB.out)|(with_reducible refine Kd.C_alloc ?_ _)|(with_reducible refine Kd.C_drewN ?_ _)|(with_reducible refine Kd.C_drew ?_))); (case side4=>exact HC1.out); rintro e w12 ⟨rfl,hb⟩; refine ⟨_,rfl,?_⟩; have n0_:=yA (AP (g:=gb138) (o:= .cells #[.int .i64 A8,.slice A0_1 l0_1.length c0_1] 33 (0,0)) (by (with_reducible repeat (first|refine AG ?_ _|refine AH ?_|refine AF ?_ _)); exact BK138.out) hb); have n1_:=yA (AO (by repeat (first|(with_reducible first|exact HB.out|apply AE|apply AC|apply AD|refine AI ?_ GE138.out)|exact HB.out)) hb); clear BK138; clear HB; have BK138:=n0_; have HB:=n1_; clear n0_ n1_; (try clear hb); (try clear hb2); (try clear hk); (try clear hi)))
     go_roundg k1
     case measure=>have:=HK1.out; omega
     case rel=>exact ⟨(ji10),(wrap64 (x17_1+1)),(by first|rfl|(simp; done)|(simp only [←hji10]<;>(first|rfl|simp))|(simp [*]; done)),zG,H',⟨by have:=HK1.out; omega⟩,⟨by (with_reducible repeat (first|refine AG ?_ _|refine AH ?_|refine AF ?_ _)); exact BK138.out⟩,⟨by repeat (first|(with_reducible first|exact HB.out|apply AE|apply AC|apply AD|refine AI ?_ GE138.out)|exact HB.out)⟩⟩
    ·rw [if_neg c8] at H
     have c8b0:decide (x17_1<(l1.length:Int))=false:=decide_eq_false c8
     clear c8
     simp only [Option.some.injEq,Prod.mk.injEq] at H
     obtain ⟨rfl,rfl⟩:=H
     go_wp2
     go_ret2
     exact ⟨by first|rfl|(simp [AZ,AY]<;>rfl)|(simp [*,AZ,AY]<;>rfl),by repeat (first|(with_reducible first|exact HB.out|apply AE|apply AC|apply AD|refine AI ?_ GE138.out)|exact HB.out)⟩
 ·rw [if_neg c4] at H
  have c4b0:(t139==0)=false:=beq_eq_false_iff_ne.mpr c4
  have c4b1:(t139 !=0)=true:=bne_iff_ne.mpr c4
  simp only [Option.some.injEq,Prod.mk.injEq] at H
  obtain ⟨rfl,rfl⟩:=H
  go_enter Tryd.func6,Tryd.ntmps6
  go_wp2_with (first|((with_reducible refine Ar (N:=2) rfl ?_); refine Ap ?hg (N:=2) ?hd (cs:= #[.int .i64 A8,.slice A0_1 l0_1.length c0_1]) (t:=33) ?hr ?_; (case hd=>rfl); (case hg=>rfl); (case hr=>first|(go_simp; done)|(go_simp; rfl)); intro gb138 hg w13 hbox hb; have n0_:=yA (AO zB hb); have n1_:=yA (hbox); have n2_:=yA ((by rw [hg]; exact (AT zB):w.heap.size≤gb138)); have n3_:=yA ((by rw [hg]; exact (AT zB):w.heap.size≤gb138)); clear HB; have HB:=n0_; have BK138:=n1_; have GW138:=n2_; have GE138:=n3_; clear n0_ n1_ n2_ n3_; clear hb hbox hg; have hcz14_0:w13.cell? ⟨gb138,0,none⟩=some (.int .i64 A8):=(AK BK138.out 0).trans rfl; have hcz14_1:w13.cell? ⟨gb138,1,none⟩=some (.slice A0_1 l0_1.length c0_1):=(AK BK138.out 1).trans rfl; have hfz14_0:=AJ BK138.out 0; have hfz14_1:=AJ BK138.out 1)|((with_reducible refine Ah (f:=16) rfl ?_); refine BB (some 11) rfl rfl Tryd.func16 zE rfl #[.agg #[.int .i64 A8,.slice A0_1 l0_1.length c0_1],.slice A1 l1.length c1] rfl zD ?_; (with_reducible refine (Ab.calls k A8 _ _ l0_1 _ _ l1 t139 _ ?side1 ?side2 ?side3 ?side4 A3.out).mono ?_); (case side1=>repeat (first|exact (Kd.C_below HR0_1.out HB.out)|(with_reducible refine Kd.C_alloc ?_ _)|(with_reducible refine Kd.C_drewN ?_ _)|(with_reducible refine Kd.C_drew ?_))); (case side2=>exact HC0_1.out); (case side3=>repeat (first|exact (Kd.C_below HR1.out HB.out)|(with_reducible refine Kd.C_alloc ?_ _)|(with_reducible refine Kd.C_drewN ?_ _)|(with_reducible refine Kd.C_drew ?_))); (case side4=>exact HC1.out); rintro e w15 ⟨rfl,hb⟩; refine ⟨_,rfl,?_⟩; have n0_:=yA (AP (g:=gb138) (o:= .cells #[.int .i64 A8,.slice A0_1 l0_1.length c0_1] 33 (0,0)) (by (with_reducible repeat (first|refine AG ?_ _|refine AH ?_|refine AF ?_ _)); exact BK138.out) hb); have n1_:=yA (AO (by repeat (first|(with_reducible first|exact HB.out|apply AE|apply AC|apply AD|refine AI ?_ GE138.out)|exact HB.out)) hb); clear BK138; clear HB; have BK138:=n0_; have HB:=n1_; clear n0_ n1_; (try clear hb); (try clear hb2); (try clear hk); (try clear hi)))
  go_ret2
  exact ⟨by first|rfl|(simp [AZ,AY]<;>rfl)|(simp [*,AZ,AY]<;>rfl),by repeat (first|(with_reducible first|exact HB.out|apply AE|apply AC|apply AD|refine AI ?_ GE138.out)|exact HB.out)⟩
def Ak.l0:Nat→List Int→Int→Int→Int→Option (Int)
 |0,_,_,_,_=>none
 |k+1,x0,x1,x7,x8=>if x8<x7 then (if 0≤x8 then (if x8<(x0.length:Int) then (if x1=(rd x0 x8) then (some x8) else (Ak.l0 k x0 x1 x7 (wrap64 (x8+1)))) else (none)) else (none)) else (some (-1))
def Ak.f (k:Nat) (l0:List Int) (a1:Int):Option (Int):=Ak.l0 k l0 a1 (l0.length:Int) 0
theorem Ak.mono_l:∀k,(∀y0 y1 y2 y3,LeO (Ak.l0 k y0 y1 y2 y3) (Ak.l0 (k+1) y0 y1 y2 y3))
 |0=>fun _ _ _ _ r h=>by simp [Ak.l0] at h
 | k +1=>by
  have ih0:=Ak.mono_l k
  ·intro y0 y1 y2 y3
   unfold Ak.l0
   repeat' first
   |(with_reducible exact ih0 _ _ _ _)
   |(with_reducible exact LeO.refl _)
   |(with_reducible exact LeO.none _)
   |(with_reducible refine LeO.ite ?_ ?_)
   |(with_reducible refine LeO.bind ?_ (fun _=> ?_))
   |exact ih0 _ _ _ _
   |exact LeO.none _
   |refine LeO.ite ?_ ?_
   |refine LeO.bind ?_ (fun _=> ?_)
theorem Ak.mono:∀a0 a1 k,LeO (Ak.f k a0 a1) (Ak.f (k+1) a0 a1):=by
 intro a0 a1 k
 have ih0:=Ak.mono_l k
 unfold Ak.f
 repeat' first
  |(with_reducible exact ih0 _ _ _ _)
  |(with_reducible exact LeO.refl _)
  |(with_reducible exact LeO.none _)
  |(with_reducible refine LeO.ite ?_ ?_)
  |(with_reducible refine LeO.bind ?_ (fun _=> ?_))
  |exact ih0 _ _ _ _
  |exact LeO.none _
  |refine LeO.ite ?_ ?_
  |refine LeO.bind ?_ (fun _=> ?_)
set_option maxHeartbeats 8000000 in
theorem Ak.calls (k:Nat) (A0:Option Addr) (c0:Nat) (l0:List Int) (a1:Int) (r:Int) (w:World) (hr0:Kd.C (Kd.int .i64) w A0 l0.length l0) (hc0:l0.length≤c0) (h:Ak.f k l0 a1=some r):
  Calls Tryd.prog 58 #[.slice A0 l0.length c0,.int .i64 a1] w fun e w'=>e= .returned (.int .i64 r)∧Drawn0 w w':=by
 have HR0:=yA hr0
 have HC0:=yA hc0
 clear hr0 hc0
 have H:(Ak.l0 k l0 a1 (l0.length:Int) 0)=some r:=h
 clear h
 have H':=yA H
 clear H
 go_enter Tryd.func58,Tryd.ntmps58
 go_wp2
 go_loopg [8] k (fun kq v8 w'=>∃(x8_1:Int),v8= .int .i64 x8_1∧Aside0 (Ak.l0 kq l0 a1 (l0.length:Int) x8_1=some r)∧Aside0 (kq≤k)∧Drawn0 w w')
 case atStart=>exact ⟨(0),zG,H',⟨Nat.le_refl _⟩,by repeat (first|exact Drawn0.refl _|apply Drawn0.step)⟩
 case round=>
  clear H'
  try clear p2
  obtain ⟨x8_1,rfl,HA,HK1,⟨m1,rfl⟩⟩:=hrel
  cases gk with
  |zero=>exact absurd HA.out (by simp [Ak.l0])
  | succ k1 =>
   have H:=HA.out
   clear HA
   simp only [Ak.l0] at H
   by_cases c3:x8_1<(l0.length:Int)
   ·rw [if_pos c3] at H
    have c3b0:decide (x8_1<(l0.length:Int))=true:=decide_eq_true c3
    clear c3
    by_cases c4:0≤x8_1
    ·rw [if_pos c4] at H
     have c4b0:decide (0≤x8_1)=true:=decide_eq_true c4
     clear c4
     by_cases c5:x8_1<(l0.length:Int)
     ·rw [if_pos c5] at H
      have c5b0:decide (x8_1<(l0.length:Int))=true:=decide_eq_true c5
      clear c5
      by_cases c6:a1=(rd l0 x8_1)
      ·rw [if_pos c6] at H
       have c6b0:(a1==(rd l0 x8_1))=true:=beq_iff_eq.mpr c6
       have c6b1:(a1 !=(rd l0 x8_1))=false:=bne_eq_false_iff_eq.mpr c6
       clear c6
       obtain rfl:=Option.some.inj H
       have p141:0≤(x8_1:Int):=yD
       have q141:x8_1<(l0.length:Int):=yD
       obtain ⟨ad141,e141,hx141_0⟩:=Kd.at_int HR0.out x8_1 p141 q141
       cases e141
       replace p141:=eq_true p141
       replace q141:=eq_true q141
       go_wp2
       go_ret
       exact ⟨by first|rfl|(simp; done)|(simp [*]; done),by repeat (first|exact Drawn0.refl _|apply Drawn0.step)⟩
      ·rw [if_neg c6] at H
       have c6b0:(a1==(rd l0 x8_1))=false:=beq_eq_false_iff_ne.mpr c6
       have c6b1:(a1 !=(rd l0 x8_1))=true:=bne_iff_ne.mpr c6
       have H':=yA H
       clear H
       have p141:0≤(x8_1:Int):=yD
       have q141:x8_1<(l0.length:Int):=yD
       obtain ⟨ad141,e141,hx141_0⟩:=Kd.at_int HR0.out x8_1 p141 q141
       cases e141
       replace p141:=eq_true p141
       replace q141:=eq_true q141
       go_wp2
       go_roundg k1
       case measure=>have:=HK1.out; omega
       case rel=>exact ⟨(wrap64 (x8_1+1)),zG,H',⟨by have:=HK1.out; omega⟩,by repeat (first|exact Drawn0.refl _|apply Drawn0.step)⟩
     ·rw [if_neg c5] at H
      exact absurd H zA6
    ·rw [if_neg c4] at H
     exact absurd H zA6
   ·rw [if_neg c3] at H
    have c3b0:decide (x8_1<(l0.length:Int))=false:=decide_eq_false c3
    clear c3
    obtain rfl:=Option.some.inj H
    go_wp2
    go_ret
    exact ⟨by first|rfl|(simp; done)|(simp [*]; done),by repeat (first|exact Drawn0.refl _|apply Drawn0.step)⟩
def mnGo (l:List Int):Nat→Nat→Int→Int
 |0,_,a=>a
 |k+1,n,a=>mnGo l k (n+1) (mn a (rd l n))
def BT.f (l0:List Int):Option (Int):=if l0.length=0 then none else some (mnGo l0 (l0.length-1) 1 (rd l0 0))
set_option maxHeartbeats 8000000 in
theorem BT.calls (A0:Option Addr) (c0:Nat) (l0:List Int) (r:Int) (w:World) (hr0:Kd.C (Kd.int .i64) w A0 l0.length l0) (hc0:l0.length≤c0) (h:BT.f l0=some r):
  Calls Tryd.prog 59 #[.slice A0 l0.length c0] w fun e w'=>e= .returned (.int .i64 r)∧Drawn0 w w':=by
 have h0:l0.length≠0:=fun c=>by simp [BT.f,c] at h
 rw [BT.f,if_neg h0] at h
 have h:=Option.some.inj h
 have HL:=yA hr0.2.1
 have HR:=yA hr0
 have HH:=yA h
 obtain ⟨ad,e1,hx0⟩:=Kd.at_int hr0 0 zI zI
 cases e1
 have c1:decide ((l0.length:Int)<1)=false:=decide_eq_false zI
 have c2:((0:Int)<(l0.length:Int))=True:=eq_true zI
 clear h hr0
 replace hx0:w.cell? ad=some (.int .i64 (rd l0 0)):=by
  have e:ad.add (0:Int).toNat=ad:=by obtain ⟨b,o,s⟩:=ad; unfold Addr.add; simp
  rwa [e] at hx0
 go_enter Tryd.func59,Tryd.ntmps59
 go_wp2
 go_loopg [3,4] l0.length (fun gg v3 v4 w'=>∃(n:Nat) (a:Int),v3= .int .i64 a∧v4= .int .i64 (n:Int)∧Aside0 (1≤n)∧Aside0 (n≤l0.length)∧Aside0 (l0.length-n≤gg)∧Aside0 (mnGo l0 (l0.length-n) n a=r)∧Aside0 (Drawn0 w w'))
 case atStart=>exact ⟨1,_,rfl,rfl,⟨Nat.le_refl _⟩,⟨by omega⟩,⟨by omega⟩,⟨HH.out⟩,⟨by repeat (first|exact Drawn0.refl _|apply Drawn0.step)⟩⟩
 case round=>
  obtain ⟨n,a,rfl,rfl,H0,H1,H2,H3,HD⟩:=hrel
  clear HH
  by_cases c3:n<l0.length
  ·have c3b:decide ((n:Int)<(l0.length:Int))=true:=decide_eq_true zI
   obtain ⟨ad2,e2,hy0⟩:=Kd.at_int HR.out (n:Int) zI zI
   cases e2
   replace hy0:=(HD.out.below.cell (World.block_lt_of_cell? w _ hy0)).trans hy0
   simp only [Int.toNat_natCast] at hy0
   have h3:=H3.out
   rw [show l0.length-n=(l0.length-(n+1))+1 by omega,mnGo] at h3
   replace h3:=yA h3
   clear hx0
   go_wp2
   ·go_roundg (l0.length-(n+1))
    case measure=>have:=H2.out; omega
    case rel=>exact ⟨n+1,_,rfl,by have:=HL.out; rw [show wrap64 ((n:Int)+1)=((n+1:Nat):Int) from by unfold wrap64; omega],⟨by omega⟩,⟨by omega⟩,⟨by omega⟩,⟨(congrArg (fun z=>mnGo l0 (l0.length-(n+1)) (n+1) z=r) (show mn a (rd l0 n)=rd l0 n from by unfold mn; exact if_pos (by assumption))).mp h3.out⟩,⟨by repeat (first|exact HD.out|apply Drawn0.step)⟩⟩
   ·go_roundg (l0.length-(n+1))
    case measure=>have:=H2.out; omega
    case rel=>exact ⟨n+1,_,rfl,by have:=HL.out; rw [show wrap64 ((n:Int)+1)=((n+1:Nat):Int) from by unfold wrap64; omega],⟨by omega⟩,⟨by omega⟩,⟨by omega⟩,⟨(congrArg (fun z=>mnGo l0 (l0.length-(n+1)) (n+1) z=r) (show mn a (rd l0 n)=a from by unfold mn; exact if_neg zI)).mp h3.out⟩,⟨by repeat (first|exact HD.out|apply Drawn0.step)⟩⟩
  ·have c3b:decide ((n:Int)<(l0.length:Int))=false:=decide_eq_false zI
   have h3:=H3.out
   rw [show l0.length-n=0 by omega,mnGo] at h3
   replace h3:=yA h3
   clear hx0
   go_wp2
   go_ret
   exact ⟨by rw [←h3.out]; rfl,by repeat (first|exact HD.out|apply Drawn0.step)⟩
end Go.Proofs.YtdadecjefafflaaDoor.PChk
end
