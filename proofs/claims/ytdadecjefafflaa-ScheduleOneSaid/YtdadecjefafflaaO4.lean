/- A part of what the law's proof leans on. PACKED BY pack.py of this repo. -/
import Derived.Test.YtdadecjefafflaaO3
set_option linter.unusedVariables false
set_option linter.unusedSimpArgs false
set_option linter.defProp false
set_option linter.unusedSectionVars false
section
namespace Go.Proofs.Ytdadecjefafflaa.PAll
set_option maxRecDepth 100000
open Go.RowKit Go.Proofs.YtdadecjefafflaaW.PrintWords Go.Proofs.YtdadecjefafflaaW.PrintLast Go.Proofs.YtdadecjefafflaaW.PrintMore
attribute [local go_sem] BU BS Bf Be BM BK BT BR
mutual
def At.l0:Nat→Int→Int→List (S42)→Option (Bool)
 |0,_,_,_=>none
 |k+1,x3,x228000,x228001=>if x3<(x228001.length:Int) then (At.j1 k x3 (decide (x3<43)) x228000 x228001) else (At.j1 k x3 false x228000 x228001)
def At.j1:Nat→Int→Bool→Int→List (S42)→Option (Bool)
 |0,_,_,_,_=>none
 |k+1,x3,x12,x228000,x228001=>if x12=true then (if 0≤x3 then (if x3<(x228001.length:Int) then (if (((AR x228001 x3).f0).size:Int)>40 then (some false) else (if (((AR x228001 x3).f3).length:Int)>42 then (some false) else (At.l0 k (wrap64 (x3+1)) x228000 x228001))) else (none)) else (none)) else (some (decide ((x228001.length:Int)≤42)))
end
def At.f (k:Nat) (A8:Int) (l0_1:List (S42)):Option (Bool):=At.l0 k 0 A8 l0_1
set_option maxHeartbeats 8000000 in
theorem At.calls (k:Nat) (A8:Int) (A0_1:Option Addr) (c0_1:Nat) (l0_1:List (S42)) (r:Bool) (w:World) (hr0_1:Kd.C k42 w A0_1 l0_1.length l0_1) (hc0_1:l0_1.length≤c0_1) (h:At.f k A8 l0_1=some r):
  Calls Try.prog 10 #[.agg #[.int .i64 A8,.slice A0_1 l0_1.length c0_1]] w fun e w'=>e= .returned (.bool r)∧Below w.heap.size w w':=by
 have hu24:=Try.underlying24
 have HR0_1:=Aside0.mk hr0_1
 have HC0_1:=Aside0.mk hc0_1
 clear hr0_1 hc0_1
 have HB:=Aside0.mk (Below.refl w.heap.size w)
 have H:(At.l0 k 0 A8 l0_1)=some r:=h
 clear h
 have H':=Aside0.mk H
 clear H
 go_enter Try.func10,Try.ntmps10
 go_wp2_with (first|((with_reducible refine Ai (N:=1) rfl ?_); (try (refine Aq (by rfl) ?_; dsimp only)); refine Al ?hg (N:=1) ?hd (cs:= #[.int .i64 A8,.slice A0_1 l0_1.length c0_1]) (t:=24) ?hr ?_; (case hd=>rfl); (case hg=>rfl); (case hr=>first|(go_simp; done)|(go_simp; rfl)); intro gb227 hg w2 hbox hb; have n0_:=Aside0.mk (AL (by repeat (first|(with_reducible first|exact HB.out|apply AE|apply AC|apply AD)|exact HB.out)) hb); have n1_:=Aside0.mk (hbox); have n2_:=Aside0.mk ((by rw [hg]; exact (AO (by repeat (first|(with_reducible first|exact HB.out|apply AE|apply AC|apply AD)|exact HB.out))):w.heap.size≤gb227)); have n3_:=Aside0.mk ((by rw [hg]; exact (AO (by repeat (first|(with_reducible first|exact HB.out|apply AE|apply AC|apply AD)|exact HB.out))):w.heap.size≤gb227)); clear HB; have HB:=n0_; have BK227:=n1_; have GW227:=n2_; have GE227:=n3_; clear n0_ n1_ n2_ n3_; clear hb hbox hg))
 go_loopg [3] k (fun kq v3 w'=>∃(x3_1:Int),v3= .int .i64 x3_1∧Aside0 (At.l0 kq x3_1 A8 l0_1=some r)∧Aside0 (kq≤k)∧Aside0 (w'.heap[gb227]? =some (.cells #[.int .i64 A8,(.slice A0_1 l0_1.length c0_1)] 24 (0,0)))∧Aside0 (Below w.heap.size w w'))
 case atStart=>exact ⟨(0),(by first|rfl|(simp; done)|(simp [*]; done)),H',⟨Nat.le_refl _⟩,⟨by (with_reducible repeat (first|refine AG ?_ _|refine AI ?_|refine AH ?_ _)); exact BK227.out⟩,⟨by repeat (first|(with_reducible first|exact HB.out|apply AE|apply AC|apply AD|refine AF ?_ GE227.out)|exact HB.out)⟩⟩
 case round=>
  clear H'
  try clear c1
  try clear p2
  obtain ⟨x3_1,rfl,HA,HK1,BK227,HB⟩:=hrel
  cases gk with
  |zero=>exact absurd HA.out (by simp [At.l0])
  | succ k1 =>
   have H:=HA.out
   clear HA
   simp only [At.l0] at H
   have HC3:=Aside0.mk H
   clear H
   go_upto_region 2 with (fail)
   go_cut [12] (fun v12 wc=>∃(kq:Nat) (x12_2:Bool),v12= .bool x12_2∧Aside0 (At.j1 kq x3_1 x12_2 A8 l0_1=some r)∧Aside0 (kq≤k1)∧Aside0 (wc.heap[gb227]? =some (.cells #[.int .i64 A8,(.slice A0_1 l0_1.length c0_1)] 24 (0,0)))∧Aside0 (Below w.heap.size w wc))
   case first=>
    have H:=HC3.out
    clear HC3
    by_cases c4:x3_1<(l0_1.length:Int)
    ·rw [if_pos c4] at H
     have c4b0:decide (x3_1<(l0_1.length:Int))=true:=decide_eq_true c4
     clear c4
     (first|rw [c4b0]|(simp only [Ag,Ah]; rw [c4b0])|skip)
     have H':=Aside0.mk H
     clear H
     have hcz5_0:wr.cell? ⟨gb227,0,none⟩=some (.int .i64 A8):=(AK BK227.out 0).trans rfl
     have hcz5_1:wr.cell? ⟨gb227,1,none⟩=some (.slice A0_1 l0_1.length c0_1):=(AK BK227.out 1).trans rfl
     have hfz5_0:=AJ BK227.out 0
     have hfz5_1:=AJ BK227.out 1
     go_wp2
     go_meet
     case rel=>exact ⟨_,(decide (x3_1<43)),(by first|rfl|(simp; done)|(simp [*]; done)),H',⟨by have:=HK1.out; first|omega|exact Nat.le_refl _⟩,⟨by (with_reducible repeat (first|refine AG ?_ _|refine AI ?_|refine AH ?_ _)); exact BK227.out⟩,⟨by repeat (first|(with_reducible first|exact HB.out|apply AE|apply AC|apply AD|refine AF ?_ GE227.out)|exact HB.out)⟩⟩
    ·rw [if_neg c4] at H
     have c4b0:decide (x3_1<(l0_1.length:Int))=false:=decide_eq_false c4
     clear c4
     (first|rw [c4b0]|(simp only [Ag,Ah]; rw [c4b0])|skip)
     have H':=Aside0.mk H
     clear H
     have hcz6_0:wr.cell? ⟨gb227,0,none⟩=some (.int .i64 A8):=(AK BK227.out 0).trans rfl
     have hcz6_1:wr.cell? ⟨gb227,1,none⟩=some (.slice A0_1 l0_1.length c0_1):=(AK BK227.out 1).trans rfl
     have hfz6_0:=AJ BK227.out 0
     have hfz6_1:=AJ BK227.out 1
     go_wp2
     go_meet
     case rel=>exact ⟨_,(false),(by first|rfl|(simp; done)|(simp [*]; done)),H',⟨by have:=HK1.out; first|omega|exact Nat.le_refl _⟩,⟨by (with_reducible repeat (first|refine AG ?_ _|refine AI ?_|refine AH ?_ _)); exact BK227.out⟩,⟨by repeat (first|(with_reducible first|exact HB.out|apply AE|apply AC|apply AD|refine AF ?_ GE227.out)|exact HB.out)⟩⟩
   case rest =>
    clear HC3
    try clear c1
    try clear p2
    try clear c4
    try clear c4b0
    try clear hcz5_0
    try clear hcz5_1
    try clear hcz6_0
    try clear hcz6_1
    try clear hfz5_0
    try clear hfz5_1
    try clear hfz6_0
    try clear hfz6_1
    try clear p2
    obtain ⟨kq,x12_2,rfl,HA,HJ2,BK227,HB⟩:=hcut
    cases kq with
    |zero=>exact absurd HA.out (by simp [At.j1])
    | succ kj2=>
     have H:=HA.out
     clear HA
     simp only [At.j1] at H
     by_cases c7:x12_2=true
     ·subst c7
      have H1:(if 0≤x3_1 then (if x3_1<(l0_1.length:Int) then (if (((AR l0_1 x3_1).f0).size:Int)>40 then (some false) else (if (((AR l0_1 x3_1).f3).length:Int)>42 then (some false) else (At.l0 kj2 (wrap64 (x3_1+1)) A8 l0_1))) else (none)) else (none))=some r:=by rw [if_pos rfl] at H; exact H
      clear H
      have H:=H1
      clear H1
      by_cases c8:0≤x3_1
      ·rw [if_pos c8] at H
       have c8b0:decide (0≤x3_1)=true:=decide_eq_true c8
       clear c8
       by_cases c9:x3_1<(l0_1.length:Int)
       ·rw [if_pos c9] at H
        have c9b0:decide (x3_1<(l0_1.length:Int))=true:=decide_eq_true c9
        clear c9
        by_cases c10:(((AR l0_1 x3_1).f0).size:Int)>40
        ·rw [if_pos c10] at H
         have c10b0:decide (40<(((AR l0_1 x3_1).f0).size:Int))=true:=decide_eq_true c10
         have c10b1:decide (40<((AR l0_1 x3_1).f0).size)=true:=decide_eq_true (by omega)
         clear c10
         obtain rfl:=Option.some.inj H
         have hcz11_0:wc.cell? ⟨gb227,0,none⟩=some (.int .i64 A8):=(AK BK227.out 0).trans rfl
         have hcz11_1:wc.cell? ⟨gb227,1,none⟩=some (.slice A0_1 l0_1.length c0_1):=(AK BK227.out 1).trans rfl
         have hfz11_0:=AJ BK227.out 0
         have hfz11_1:=AJ BK227.out 1
         have p228:0≤(x3_1:Int):=of_decide_eq_true (by first|(with_reducible assumption)|assumption)
         have q228:x3_1<(l0_1.length:Int):=of_decide_eq_true (by first|(with_reducible assumption)|assumption)
         obtain ⟨ad228,A228_3,c228_3,e228,hx228_0,hx228_1,hx228_2,hx228_3,hl228_3,hi228_3⟩:=Bx HR0_1.out x3_1 p228 q228
         cases e228
         replace hx228_0:=(HB.out.cell (World.block_lt_of_cell? w _ hx228_0)).trans hx228_0
         replace hx228_1:=(HB.out.cell (World.block_lt_of_cell? w _ hx228_1)).trans hx228_1
         replace hx228_2:=(HB.out.cell (World.block_lt_of_cell? w _ hx228_2)).trans hx228_2
         replace hx228_3:=(HB.out.cell (World.block_lt_of_cell? w _ hx228_3)).trans hx228_3
         have HR228_3:=Aside0.mk hi228_3
         have HC228_3:=Aside0.mk hl228_3
         clear hi228_3 hl228_3
         replace p228:=eq_true p228
         replace q228:=eq_true q228
         go_wp2
         go_ret
         exact ⟨by first|rfl|(simp [AV,AU]<;>rfl)|(simp [*,AV,AU]<;>rfl),by repeat (first|(with_reducible first|exact HB.out|apply AE|apply AC|apply AD|refine AF ?_ GE227.out)|exact HB.out)⟩
        ·rw [if_neg c10] at H
         have c10b0:decide (40<(((AR l0_1 x3_1).f0).size:Int))=false:=decide_eq_false c10
         have c10b1:decide (40<((AR l0_1 x3_1).f0).size)=false:=decide_eq_false (by omega)
         clear c10
         by_cases c12:(((AR l0_1 x3_1).f3).length:Int)>42
         ·rw [if_pos c12] at H
          have c12b0:decide (42<(((AR l0_1 x3_1).f3).length:Int))=true:=decide_eq_true c12
          have c12b1:decide (42<((AR l0_1 x3_1).f3).length)=true:=decide_eq_true (by omega)
          clear c12
          obtain rfl:=Option.some.inj H
          have hcz13_0:wc.cell? ⟨gb227,0,none⟩=some (.int .i64 A8):=(AK BK227.out 0).trans rfl
          have hcz13_1:wc.cell? ⟨gb227,1,none⟩=some (.slice A0_1 l0_1.length c0_1):=(AK BK227.out 1).trans rfl
          have hfz13_0:=AJ BK227.out 0
          have hfz13_1:=AJ BK227.out 1
          have p228:0≤(x3_1:Int):=of_decide_eq_true (by first|(with_reducible assumption)|assumption)
          have q228:x3_1<(l0_1.length:Int):=of_decide_eq_true (by first|(with_reducible assumption)|assumption)
          obtain ⟨ad228,A228_3,c228_3,e228,hx228_0,hx228_1,hx228_2,hx228_3,hl228_3,hi228_3⟩:=Bx HR0_1.out x3_1 p228 q228
          cases e228
          replace hx228_0:=(HB.out.cell (World.block_lt_of_cell? w _ hx228_0)).trans hx228_0
          replace hx228_1:=(HB.out.cell (World.block_lt_of_cell? w _ hx228_1)).trans hx228_1
          replace hx228_2:=(HB.out.cell (World.block_lt_of_cell? w _ hx228_2)).trans hx228_2
          replace hx228_3:=(HB.out.cell (World.block_lt_of_cell? w _ hx228_3)).trans hx228_3
          have HR228_3:=Aside0.mk hi228_3
          have HC228_3:=Aside0.mk hl228_3
          clear hi228_3 hl228_3
          replace p228:=eq_true p228
          replace q228:=eq_true q228
          have p229:0≤(x3_1:Int):=of_decide_eq_true (by first|(with_reducible assumption)|assumption)
          have q229:x3_1<(l0_1.length:Int):=of_decide_eq_true (by first|(with_reducible assumption)|assumption)
          obtain ⟨ad229,A229_3,c229_3,e229,hx229_0,hx229_1,hx229_2,hx229_3,hl229_3,hi229_3⟩:=Bx HR0_1.out x3_1 p229 q229
          obtain rfl:ad228=ad229:=(by injection e229)
          replace hx229_0:=(HB.out.cell (World.block_lt_of_cell? w _ hx229_0)).trans hx229_0
          replace hx229_1:=(HB.out.cell (World.block_lt_of_cell? w _ hx229_1)).trans hx229_1
          replace hx229_2:=(HB.out.cell (World.block_lt_of_cell? w _ hx229_2)).trans hx229_2
          replace hx229_3:=(HB.out.cell (World.block_lt_of_cell? w _ hx229_3)).trans hx229_3
          have HR229_3:=Aside0.mk hi229_3
          have HC229_3:=Aside0.mk hl229_3
          clear hi229_3 hl229_3
          replace p229:=eq_true p229
          replace q229:=eq_true q229
          have ea_:=Option.some.inj (hx228_3.symm.trans hx229_3)
          injection ea_ with ea_ en_ ec_
          subst ea_
          subst ec_
          clear en_
          go_wp2
          go_ret
          exact ⟨by first|rfl|(simp [AV,AU]<;>rfl)|(simp [*,AV,AU]<;>rfl),by repeat (first|(with_reducible first|exact HB.out|apply AE|apply AC|apply AD|refine AF ?_ GE227.out)|exact HB.out)⟩
         ·rw [if_neg c12] at H
          have c12b0:decide (42<(((AR l0_1 x3_1).f3).length:Int))=false:=decide_eq_false c12
          have c12b1:decide (42<((AR l0_1 x3_1).f3).length)=false:=decide_eq_false (by omega)
          clear c12
          have H':=Aside0.mk H
          clear H
          have hcz14_0:wc.cell? ⟨gb227,0,none⟩=some (.int .i64 A8):=(AK BK227.out 0).trans rfl
          have hcz14_1:wc.cell? ⟨gb227,1,none⟩=some (.slice A0_1 l0_1.length c0_1):=(AK BK227.out 1).trans rfl
          have hfz14_0:=AJ BK227.out 0
          have hfz14_1:=AJ BK227.out 1
          have p228:0≤(x3_1:Int):=of_decide_eq_true (by first|(with_reducible assumption)|assumption)
          have q228:x3_1<(l0_1.length:Int):=of_decide_eq_true (by first|(with_reducible assumption)|assumption)
          obtain ⟨ad228,A228_3,c228_3,e228,hx228_0,hx228_1,hx228_2,hx228_3,hl228_3,hi228_3⟩:=Bx HR0_1.out x3_1 p228 q228
          cases e228
          replace hx228_0:=(HB.out.cell (World.block_lt_of_cell? w _ hx228_0)).trans hx228_0
          replace hx228_1:=(HB.out.cell (World.block_lt_of_cell? w _ hx228_1)).trans hx228_1
          replace hx228_2:=(HB.out.cell (World.block_lt_of_cell? w _ hx228_2)).trans hx228_2
          replace hx228_3:=(HB.out.cell (World.block_lt_of_cell? w _ hx228_3)).trans hx228_3
          have HR228_3:=Aside0.mk hi228_3
          have HC228_3:=Aside0.mk hl228_3
          clear hi228_3 hl228_3
          replace p228:=eq_true p228
          replace q228:=eq_true q228
          have p229:0≤(x3_1:Int):=of_decide_eq_true (by first|(with_reducible assumption)|assumption)
          have q229:x3_1<(l0_1.length:Int):=of_decide_eq_true (by first|(with_reducible assumption)|assumption)
          obtain ⟨ad229,A229_3,c229_3,e229,hx229_0,hx229_1,hx229_2,hx229_3,hl229_3,hi229_3⟩:=Bx HR0_1.out x3_1 p229 q229
          obtain rfl:ad228=ad229:=(by injection e229)
          replace hx229_0:=(HB.out.cell (World.block_lt_of_cell? w _ hx229_0)).trans hx229_0
          replace hx229_1:=(HB.out.cell (World.block_lt_of_cell? w _ hx229_1)).trans hx229_1
          replace hx229_2:=(HB.out.cell (World.block_lt_of_cell? w _ hx229_2)).trans hx229_2
          replace hx229_3:=(HB.out.cell (World.block_lt_of_cell? w _ hx229_3)).trans hx229_3
          have HR229_3:=Aside0.mk hi229_3
          have HC229_3:=Aside0.mk hl229_3
          clear hi229_3 hl229_3
          replace p229:=eq_true p229
          replace q229:=eq_true q229
          have ea_:=Option.some.inj (hx228_3.symm.trans hx229_3)
          injection ea_ with ea_ en_ ec_
          subst ea_
          subst ec_
          clear en_
          go_wp2
          go_roundg kj2
          case measure=>have:=HK1.out; have:=HJ2.out; omega
          case rel=>exact ⟨(wrap64 (x3_1+1)),(by first|rfl|(simp; done)|(simp [*]; done)),H',⟨by have:=HK1.out; have:=HJ2.out; omega⟩,⟨by (with_reducible repeat (first|refine AG ?_ _|refine AI ?_|refine AH ?_ _)); exact BK227.out⟩,⟨by repeat (first|(with_reducible first|exact HB.out|apply AE|apply AC|apply AD|refine AF ?_ GE227.out)|exact HB.out)⟩⟩
       ·rw [if_neg c9] at H
        exact absurd H (by simp)
      ·rw [if_neg c8] at H
       exact absurd H (by simp)
     ·replace c7:=Bool.eq_false_iff.mpr c7
      subst c7
      have H1:(some (decide ((l0_1.length:Int)≤42)))=some r:=by rw [if_neg (show ¬(false=true) by decide)] at H; exact H
      clear H
      have H:=H1
      clear H1
      obtain rfl:=Option.some.inj H
      have hcz15_0:wc.cell? ⟨gb227,0,none⟩=some (.int .i64 A8):=(AK BK227.out 0).trans rfl
      have hcz15_1:wc.cell? ⟨gb227,1,none⟩=some (.slice A0_1 l0_1.length c0_1):=(AK BK227.out 1).trans rfl
      have hfz15_0:=AJ BK227.out 0
      have hfz15_1:=AJ BK227.out 1
      go_wp2
      go_ret
      exact ⟨by first|rfl|(simp [AV,AU]<;>rfl)|(simp [*,AV,AU]<;>rfl),by repeat (first|(with_reducible first|exact HB.out|apply AE|apply AC|apply AD|refine AF ?_ GE227.out)|exact HB.out)⟩
def Aj.l0:Nat→List (S42)→Int→Int→Int→List (S64)→Option (Int×(List (S64)))
 |0,_,_,_,_,_=>none
 |k+1,x10,x11,x12,x233000,x233001=>if x12<x11 then (if 0≤x12 then (if x12<(x10.length:Int) then (if x233001.length<2513169434916 then (Aj.l0 k x10 x11 (wrap64 (x12+1)) x233000 (x233001++[(⟨(AR x10 x12).f0,(AR x10 x12).f1,(AR x10 x12).f2,(AR x10 x12).f3⟩:S64)])) else (none)) else (none)) else (none)) else (some (x233000,x233001))
def Aj.f (k:Nat) (A8:Int) (l0_1:List (S42)):Option (Int×(List (S64))):=Aj.l0 k l0_1 (l0_1.length:Int) 0 A8 ([]:List (S64))
set_option maxHeartbeats 8000000 in
theorem Aj.calls (k:Nat) (A8:Int) (P0_1_:Nat→Prop) (A0_1:Option Addr) (c0_1:Nat) (l0_1:List (S42)) (r1:Int) (r2:List (S64)) (w:World) (hs0_1:Kd.V k42 42 w w.heap.size (fun k_=>P0_1_ k_) (.slice A0_1 l0_1.length c0_1) l0_1) (h:Aj.f k A8 l0_1=some (r1,r2)):
  Calls Try.prog 12 #[.agg #[.int .i64 A8,.slice A0_1 l0_1.length c0_1]] w fun e w'=>∃v1_:Value,e= .returned (.agg #[.int .i64 r1,v1_])∧Kd.N k64 64 w' w.heap.size (fun k_=>(P0_1_ k_∨w.heap.size≤k_)) v1_ r2∧Below w.heap.size w w':=by
 have hu24:=Try.underlying24
 have hu34:=Try.underlying34
 have hu42:=Try.underlying42
 have HO0_1:=Aside0.mk (show Kd.V k42 42 w w.heap.size (fun k_=>(P0_1_ k_∨w.heap.size≤k_)) (.slice A0_1 l0_1.length c0_1) l0_1 from Kd.V_mono hs0_1 (fun k_ hk=> .inl hk))
 have HB:=Aside0.mk (Below.refl w.heap.size w)
 have H:(Aj.l0 k l0_1 (l0_1.length:Int) 0 A8 ([]:List (S64)))=some (r1,r2):=h
 clear h
 have H':=Aside0.mk H
 clear H
 go_enter Try.func12,Try.ntmps12
 go_wp2_with (first|((with_reducible refine Ai (N:=1) rfl ?_); refine Al ?hg (N:=1) ?hd (cs:= #[.int .i64 A8,.slice A0_1 l0_1.length c0_1]) (t:=24) ?hr ?_; (case hd=>rfl); (case hg=>rfl); (case hr=>first|(go_simp; done)|(go_simp; rfl)); intro gb230 hg w2 hbox hb; have n0_:=Aside0.mk (Kd.V_below (Kd.V_elderB (by (with_reducible repeat (first|apply Kd.V_alloc|apply Kd.V_drewN|apply Kd.V_drew)); exact HO0_1.out) gb230 (Nat.le_of_eq hg.symm)) hb); have n1_:=Aside0.mk (AL (by repeat (first|(with_reducible first|exact HB.out|apply AE|apply AC|apply AD)|exact HB.out)) hb); have n2_:=Aside0.mk (hbox); have n3_:=Aside0.mk ((by rw [hg]; exact (AO (by repeat (first|(with_reducible first|exact HB.out|apply AE|apply AC|apply AD)|exact HB.out))):w.heap.size≤gb230)); have n4_:=Aside0.mk ((by rw [hg]; exact (AO (by repeat (first|(with_reducible first|exact HB.out|apply AE|apply AC|apply AD)|exact HB.out))):w.heap.size≤gb230)); clear HO0_1; clear HB; have HO0_1:=n0_; have HB:=n1_; have BK230:=n2_; have GW230:=n3_; have GE230:=n4_; clear n0_ n1_ n2_ n3_ n4_; clear hb hbox hg)|((with_reducible refine Ai (N:=2) rfl ?_); refine Al ?hg (N:=2) ?hd (cs:= #[.int .i64 0,.slice none 0 0]) (t:=34) ?hr ?_; (case hd=>rfl); (case hg=>rfl); (case hr=>first|(go_simp; done)|(go_simp; rfl)); intro gb231 hg w3 hbox hb; have n0_:=Aside0.mk (Kd.V_below (Kd.V_elderB (by (with_reducible repeat (first|apply Kd.V_alloc|apply Kd.V_drewN|apply Kd.V_drew)); exact HO0_1.out) gb231 (Nat.le_of_eq hg.symm)) hb); have n1_:=Aside0.mk (AM (g:=gb230) (o:= .cells #[.int .i64 A8,.slice A0_1 l0_1.length c0_1] 24 (0,0)) (by (with_reducible repeat (first|refine AG ?_ _|refine AI ?_|refine AH ?_ _)); exact BK230.out) hb); have n2_:=Aside0.mk (AL (by repeat (first|(with_reducible first|exact HB.out|apply AE|apply AC|apply AD|refine AF ?_ GE230.out)|exact HB.out)) hb); have n3_:=Aside0.mk (hbox); have n4_:=Aside0.mk ((by rw [hg]; exact (AO (by repeat (first|(with_reducible first|exact HB.out|apply AE|apply AC|apply AD|refine AF ?_ GE230.out)|exact HB.out))):w.heap.size≤gb231)); have n5_:=Aside0.mk ((by rw [hg]; exact (AO (by repeat (first|(with_reducible first|exact HB.out|apply AE|apply AC|apply AD|refine AF ?_ GE230.out)|exact HB.out))):w.heap.size≤gb231)); have n6_:=Aside0.mk ((by rw [hg]; exact Nat.ne_of_lt (Ar (g:=gb230) (o:= .cells #[.int .i64 A8,.slice A0_1 l0_1.length c0_1] 24 (0,0)) (by (with_reducible repeat (first|refine AG ?_ _|refine AI ?_|refine AH ?_ _)); exact BK230.out)):gb230≠gb231)); have n7_:=Aside0.mk ((by rw [hg]; exact Nat.ne_of_gt (Ar (g:=gb230) (o:= .cells #[.int .i64 A8,.slice A0_1 l0_1.length c0_1] 24 (0,0)) (by (with_reducible repeat (first|refine AG ?_ _|refine AI ?_|refine AH ?_ _)); exact BK230.out)):gb231≠gb230)); clear HO0_1; clear BK230; clear HB; have HO0_1:=n0_; have BK230:=n1_; have HB:=n2_; have BK231:=n3_; have GW231:=n4_; have GE231:=n5_; have NB230_231:=n6_; have NB231_230:=n7_; clear n0_ n1_ n2_ n3_ n4_ n5_ n6_ n7_; clear hb hbox hg; have hnb4:=NB230_231.out; have hnc4:=NB231_230.out; have hcz5_0:w3.cell? ⟨gb230,0,none⟩=some (.int .i64 A8):=(AK BK230.out 0).trans rfl; have hcz5_1:w3.cell? ⟨gb230,1,none⟩=some (.slice A0_1 l0_1.length c0_1):=(AK BK230.out 1).trans rfl; have hfz5_0:=AJ BK230.out 0; have hfz5_1:=AJ BK230.out 1)|((with_reducible refine Ai (N:=3) rfl ?_); refine Al ?hg (N:=3) ?hd (cs:= #[.int .i64 0,.slice none 0 0]) (t:=34) ?hr ?_; (case hd=>rfl); (case hg=>rfl); (case hr=>first|(go_simp; done)|(go_simp; rfl)); intro gb232 hg w6 hbox hb; have n0_:=Aside0.mk (Kd.V_below (Kd.V_elderB (by (with_reducible repeat (first|apply Kd.V_alloc|apply Kd.V_drewN|apply Kd.V_drew)); exact HO0_1.out) gb232 (Nat.le_of_eq hg.symm)) hb); have n1_:=Aside0.mk (AM (g:=gb230) (o:= .cells #[.int .i64 A8,.slice A0_1 l0_1.length c0_1] 24 (0,0)) (by (with_reducible repeat (first|refine AG ?_ _|refine AI ?_|refine AH ?_ _)); exact BK230.out) hb); have n2_:=Aside0.mk (AM (g:=gb231) (o:= .cells #[.int .i64 0,.slice none 0 0] 34 (0,0)) (by (with_reducible repeat (first|refine AG ?_ _|refine AI ?_|refine AH ?_ _)); exact BK231.out) hb); have n3_:=Aside0.mk (AL (by repeat (first|(with_reducible first|exact HB.out|apply AE|apply AC|apply AD|refine AF ?_ GE230.out|refine AF ?_ GE231.out)|exact HB.out)) hb); have n4_:=Aside0.mk (hbox); have n5_:=Aside0.mk ((by rw [hg]; exact (AO (by repeat (first|(with_reducible first|exact HB.out|apply AE|apply AC|apply AD|refine AF ?_ GE230.out|refine AF ?_ GE231.out)|exact HB.out))):w.heap.size≤gb232)); have n6_:=Aside0.mk ((by rw [hg]; exact (AO (by repeat (first|(with_reducible first|exact HB.out|apply AE|apply AC|apply AD|refine AF ?_ GE230.out|refine AF ?_ GE231.out)|exact HB.out))):w.heap.size≤gb232)); have n7_:=Aside0.mk ((by rw [hg]; exact Nat.ne_of_lt (Ar (g:=gb230) (o:= .cells #[.int .i64 A8,.slice A0_1 l0_1.length c0_1] 24 (0,0)) (by (with_reducible repeat (first|refine AG ?_ _|refine AI ?_|refine AH ?_ _)); exact BK230.out)):gb230≠gb232)); have n8_:=Aside0.mk ((by rw [hg]; exact Nat.ne_of_gt (Ar (g:=gb230) (o:= .cells #[.int .i64 A8,.slice A0_1 l0_1.length c0_1] 24 (0,0)) (by (with_reducible repeat (first|refine AG ?_ _|refine AI ?_|refine AH ?_ _)); exact BK230.out)):gb232≠gb230)); have n9_:=Aside0.mk ((by rw [hg]; exact Nat.ne_of_lt (Ar (g:=gb231) (o:= .cells #[.int .i64 0,.slice none 0 0] 34 (0,0)) (by (with_reducible repeat (first|refine AG ?_ _|refine AI ?_|refine AH ?_ _)); exact BK231.out)):gb231≠gb232)); have n10_:=Aside0.mk ((by rw [hg]; exact Nat.ne_of_gt (Ar (g:=gb231) (o:= .cells #[.int .i64 0,.slice none 0 0] 34 (0,0)) (by (with_reducible repeat (first|refine AG ?_ _|refine AI ?_|refine AH ?_ _)); exact BK231.out)):gb232≠gb231)); clear HO0_1; clear BK230; clear BK231; clear HB; have HO0_1:=n0_; have BK230:=n1_; have BK231:=n2_; have HB:=n3_; have BK232:=n4_; have GW232:=n5_; have GE232:=n6_; have NB230_232:=n7_; have NB232_230:=n8_; have NB231_232:=n9_; have NB232_231:=n10_; clear n0_ n1_ n2_ n3_ n4_ n5_ n6_ n7_ n8_ n9_ n10_; clear hb hbox hg; have hnb7:=NB232_230.out; have hnc7:=NB230_232.out; have hnb8:=NB232_231.out; have hnc8:=NB231_232.out; have hcz9_0:w6.cell? ⟨gb232,0,none⟩=some (.int .i64 0):=(AK BK232.out 0).trans rfl; have hcz9_1:w6.cell? ⟨gb232,1,none⟩=some (.slice none 0 0):=(AK BK232.out 1).trans rfl; have hfz9_0:=AJ BK232.out 0; have hfz9_1:=AJ BK232.out 1; have hcz10_0:w6.cell? ⟨gb230,0,none⟩=some (.int .i64 A8):=(AK BK230.out 0).trans rfl; have hcz10_1:w6.cell? ⟨gb230,1,none⟩=some (.slice A0_1 l0_1.length c0_1):=(AK BK230.out 1).trans rfl; have hfz10_0:=AJ BK230.out 0; have hfz10_1:=AJ BK230.out 1))
 go_loopg [12] k (fun kq v12 w'=>∃(x12_1:Int) (x233001_1:List (S64)) (u233001:Value),v12= .int .i64 x12_1∧Aside0 (Aj.l0 kq l0_1 (l0_1.length:Int) x12_1 A8 x233001_1=some (r1,r2))∧Aside0 (kq≤k)∧Aside0 (Kd.V k42 42 w' w.heap.size (fun k_=>(P0_1_ k_∨w.heap.size≤k_)∧some k_≠(u233001:Value).ownBlock∧k_≠gb230∧k_≠gb231∧k_≠gb232) (.slice A0_1 l0_1.length c0_1) l0_1)∧Aside0 (Kd.V k42 42 w' w.heap.size (fun k_=>(P0_1_ k_∨w.heap.size≤k_)∧some k_≠(u233001:Value).ownBlock∧k_≠gb230∧k_≠gb231∧k_≠gb232) (.slice A0_1 l0_1.length c0_1) l0_1)∧Aside0 (Kd.N k64 64 w' w.heap.size (fun k_=>(P0_1_ k_∨w.heap.size≤k_)∧k_≠gb230∧k_≠gb231∧k_≠gb232) u233001 x233001_1)∧Aside0 (w'.heap[gb230]? =some (.cells #[.int .i64 A8,(.slice A0_1 l0_1.length c0_1)] 24 (0,0)))∧Aside0 (w'.heap[gb231]? =some (.cells #[.int .i64 0,(.slice none 0 0)] 34 (0,0)))∧Aside0 (w'.heap[gb232]? =some (.cells #[.int .i64 A8,u233001] 34 (0,0)))∧Aside0 (Below w.heap.size w w'))
 case atStart=>exact ⟨(0),(([]:List (S64))),(.slice none 0 0),(by first|rfl|(simp; done)|(simp [*]; done)),H',⟨Nat.le_refl _⟩,⟨by (with_reducible repeat (first|apply Kd.V_alloc|apply Kd.V_drewN|apply Kd.V_drew)); exact Kd.V_mono (Kd.V_far (p:=⟨gb232,1,none⟩) (Kd.V_far (p:=⟨gb232,0,none⟩) (Kd.V_mono HO0_1.out (fun k_ hk=>(⟨hk,hk.2⟩:_∧k_≠gb232))) (fun _ hk=>hk.2) (.int .i64 A8)) (fun _ hk=>hk.2) (.slice none 0 0)) (fun _ hk=>⟨hk.1.1.1.1,⟨(by simp [Value.ownBlock]),⟨hk.1.1.1.2,⟨hk.1.1.2,hk.1.2⟩⟩⟩⟩)⟩,⟨by (with_reducible repeat (first|apply Kd.V_alloc|apply Kd.V_drewN|apply Kd.V_drew)); exact Kd.V_mono (Kd.V_far (p:=⟨gb232,1,none⟩) (Kd.V_far (p:=⟨gb232,0,none⟩) (Kd.V_mono HO0_1.out (fun k_ hk=>(⟨hk,hk.2⟩:_∧k_≠gb232))) (fun _ hk=>hk.2) (.int .i64 A8)) (fun _ hk=>hk.2) (.slice none 0 0)) (fun _ hk=>⟨hk.1.1.1.1,⟨(by simp [Value.ownBlock]),⟨hk.1.1.1.2,⟨hk.1.1.2,hk.1.2⟩⟩⟩⟩)⟩,⟨by first|exact Kd.S_nil _ _ _ _ _|exact Kd.N_nil _ _ _ _ _|exact Kd.V_nil _ _ _ _ _|exact Kd.Q_nil _ _ _ _ _|exact Kd.R_nil _ _ _ _ _⟩,⟨by (with_reducible repeat (first|refine AG ?_ _|refine AI ?_|refine AH ?_ _)); refine Aa ?_ NB230_232.out _; (with_reducible repeat (first|refine AG ?_ _|refine AI ?_|refine AH ?_ _)); refine Aa ?_ NB230_232.out _; (with_reducible repeat (first|refine AG ?_ _|refine AI ?_|refine AH ?_ _)); exact BK230.out⟩,⟨by (with_reducible repeat (first|refine AG ?_ _|refine AI ?_|refine AH ?_ _)); refine Aa ?_ NB231_232.out _; (with_reducible repeat (first|refine AG ?_ _|refine AI ?_|refine AH ?_ _)); refine Aa ?_ NB231_232.out _; (with_reducible repeat (first|refine AG ?_ _|refine AI ?_|refine AH ?_ _)); exact BK231.out⟩,⟨by (with_reducible repeat (first|refine AG ?_ _|refine AI ?_|refine AH ?_ _)); refine Av (cs:= #[.int .i64 A8,.slice none 0 0]) ?_ 1 _ rfl; (with_reducible repeat (first|refine AG ?_ _|refine AI ?_|refine AH ?_ _)); refine Av (cs:= #[.int .i64 0,.slice none 0 0]) ?_ 0 _ rfl; (with_reducible repeat (first|refine AG ?_ _|refine AI ?_|refine AH ?_ _)); exact BK232.out⟩,⟨by repeat (first|(with_reducible first|exact HB.out|apply AE|apply AC|apply AD|refine AF ?_ GE230.out|refine AF ?_ GE231.out|refine AF ?_ GE232.out)|exact HB.out)⟩⟩
 case round=>
  clear H'
  try clear c1
  try clear p2
  try clear c4
  try clear c7
  try clear c8
  try clear hcz10_0
  try clear hcz10_1
  try clear hcz5_0
  try clear hcz5_1
  try clear hcz9_0
  try clear hcz9_1
  try clear hfz10_0
  try clear hfz10_1
  try clear hfz5_0
  try clear hfz5_1
  try clear hfz9_0
  try clear hfz9_1
  obtain ⟨x12_1,x233001_1,u233001,rfl,HA,HK1,HO_10,HO_231001,HO_233001,BK230,BK231,BK232,HB⟩:=hrel
  cases gk with
  |zero=>exact absurd HA.out (by simp [Aj.l0])
  | succ k1 =>
   have H:=HA.out
   clear HA
   simp only [Aj.l0] at H
   by_cases c11:x12_1<(l0_1.length:Int)
   ·rw [if_pos c11] at H
    have c11b0:decide (x12_1<(l0_1.length:Int))=true:=decide_eq_true c11
    clear c11
    by_cases c12:0≤x12_1
    ·rw [if_pos c12] at H
     have c12b0:decide (0≤x12_1)=true:=decide_eq_true c12
     clear c12
     by_cases c13:x12_1<(l0_1.length:Int)
     ·rw [if_pos c13] at H
      have c13b0:decide (x12_1<(l0_1.length:Int))=true:=decide_eq_true c13
      clear c13
      by_cases c14:x233001_1.length<2513169434916
      ·rw [if_pos c14] at H
       have LMc14:=Aside0.mk c14
       clear c14
       obtain ⟨y235,hy235⟩:∃y_:List (S64),y_=(x233001_1++[(⟨(AR l0_1 x12_1).f0,(AR l0_1 x12_1).f1,(AR l0_1 x12_1).f2,(AR l0_1 x12_1).f3⟩:S64)]):=⟨_,rfl⟩
       replace H:(Aj.l0 k1 l0_1 (l0_1.length:Int) (wrap64 (x12_1+1)) A8 y235)=some (r1,r2):=by first|(rw [hy235]; with_reducible exact H)|(have H2_:=(Option.bind_some _ _).symm.trans H; rw [hy235]; with_reducible exact H2_)|(have H2_:=(Option.bind_some _ _).symm.trans H; with_reducible exact H2_)|with_reducible exact H|(rw [hy235]; exact H)|exact H
       have Ny235:=Aside0.mk hy235
       clear hy235
       have H':=Aside0.mk H
       clear H
       have p233:0≤(x12_1:Int):=of_decide_eq_true (by first|(with_reducible assumption)|assumption)
       have q233:x12_1<(l0_1.length:Int):=of_decide_eq_true (by first|(with_reducible assumption)|assumption)
       obtain ⟨ad233,A233_3,c233_3,e233,hx233_0,hx233_1,hx233_2,hx233_3,hl233_3,hi233_3⟩:=Bx (Kd.V_reads' HO_10.out).2.2 x12_1 p233 q233
       cases e233
       obtain ⟨ce233,hce233,hMe233,hcc233⟩:=Kd.V_get HO_10.out z42 x12_1 p233 (by first|exact q233|exact of_decide_eq_true (by first|(with_reducible assumption)|assumption)|(have e_:=(Kd.V_reads' HO_10.out).1; omega))
       obtain ⟨ua233_3,uc233_3,rfl,ul233_3,ge233_3⟩:=Ee hMe233
       have hv233_3:=hcc233 3 _ rfl
       rw [Bc _ _ 3 (by omega)] at hv233_3
       replace hv233_3:=Option.some.inj (hv233_3.symm.trans hx233_3)
       injection hv233_3 with hva_ hvn_ hvc_
       rw [hva_] at ge233_3
       rw [hvc_] at ul233_3
       have HL233_3:=Aside0.mk (show Kd.V (Kd.int .i64) 3 _ w.heap.size _ _ ((AR l0_1 x12_1).f3) from Kd.V_mk ul233_3 ge233_3)
       clear hva_ hvn_ hvc_ ge233_3 ul233_3
       clear hcc233 hce233
       have HR233_3:=Aside0.mk hi233_3
       have HC233_3:=Aside0.mk hl233_3
       clear hi233_3 hl233_3
       replace p233:=eq_true p233
       replace q233:=eq_true q233
       go_wp2_with (first|((with_reducible refine Ai (N:=5) rfl ?_); refine Al ?hg (N:=5) ?hd (cs:= #[.string (⟨#[]⟩:ByteArray),.int .i64 0,.int .i64 0,.slice none 0 0]) (t:=42) ?hr ?_; (case hd=>rfl); (case hg=>rfl); (case hr=>first|(go_simp; done)|(go_simp; rfl)); intro gb234 hg w15 hbox hb; have n0_:=Aside0.mk (Kd.V_below (Kd.V_elderB (by (with_reducible repeat (first|apply Kd.V_alloc|apply Kd.V_drewN|apply Kd.V_drew)); exact HO_10.out) gb234 (Nat.le_of_eq hg.symm)) hb); have n1_:=Aside0.mk (Kd.V_below (Kd.V_elderB (by (with_reducible repeat (first|apply Kd.V_alloc|apply Kd.V_drewN|apply Kd.V_drew)); exact HO_231001.out) gb234 (Nat.le_of_eq hg.symm)) hb); have n2_:=Aside0.mk (Kd.N_below (Kd.N_elderB (by (with_reducible repeat (first|apply Kd.N_alloc|apply Kd.N_drewN|apply Kd.N_drew)); exact HO_233001.out) gb234 (Nat.le_of_eq hg.symm)) hb); have n3_:=Aside0.mk (Kd.V_below (Kd.V_elderB (by (with_reducible repeat (first|apply Kd.V_alloc|apply Kd.V_drewN|apply Kd.V_drew)); exact HL233_3.out) gb234 (Nat.le_of_eq hg.symm)) hb); have n4_:=Aside0.mk (AM (g:=gb230) (o:= .cells #[.int .i64 A8,.slice (some ad233) l0_1.length c0_1] 24 (0,0)) (by (with_reducible repeat (first|refine AG ?_ _|refine AI ?_|refine AH ?_ _)); exact BK230.out) hb); have n5_:=Aside0.mk (AM (g:=gb231) (o:= .cells #[.int .i64 0,.slice none 0 0] 34 (0,0)) (by (with_reducible repeat (first|refine AG ?_ _|refine AI ?_|refine AH ?_ _)); exact BK231.out) hb); have n6_:=Aside0.mk (AM (g:=gb232) (o:= .cells #[.int .i64 A8,u233001] 34 (0,0)) (by (with_reducible repeat (first|refine AG ?_ _|refine AI ?_|refine AH ?_ _)); exact BK232.out) hb); have n7_:=Aside0.mk (Kd.C_below (by repeat (first|(with_reducible exact HR233_3.out)|(with_reducible refine Kd.C_alloc ?_ _)|(with_reducible refine Kd.C_drewN ?_ _)|(with_reducible refine Kd.C_drew ?_)|exact HR233_3.out)) hb); have n8_:=Aside0.mk (AL (by repeat (first|(with_reducible first|exact HB.out|apply AE|apply AC|apply AD|refine AF ?_ GE230.out|refine AF ?_ GE231.out|refine AF ?_ GE232.out)|exact HB.out)) hb); have n9_:=Aside0.mk (hbox); have n10_:=Aside0.mk ((by rw [hg]; exact (AO (by repeat (first|(with_reducible first|exact HB.out|apply AE|apply AC|apply AD|refine AF ?_ GE230.out|refine AF ?_ GE231.out|refine AF ?_ GE232.out)|exact HB.out))):w.heap.size≤gb234)); have n11_:=Aside0.mk ((by rw [hg]; exact (AO (by repeat (first|(with_reducible first|exact HB.out|apply AE|apply AC|apply AD|refine AF ?_ GE230.out|refine AF ?_ GE231.out|refine AF ?_ GE232.out)|exact HB.out))):w.heap.size≤gb234)); have n12_:=Aside0.mk ((by rw [hg]; exact Nat.ne_of_lt (Ar (g:=gb230) (o:= .cells #[.int .i64 A8,.slice (some ad233) l0_1.length c0_1] 24 (0,0)) (by (with_reducible repeat (first|refine AG ?_ _|refine AI ?_|refine AH ?_ _)); exact BK230.out)):gb230≠gb234)); have n13_:=Aside0.mk ((by rw [hg]; exact Nat.ne_of_gt (Ar (g:=gb230) (o:= .cells #[.int .i64 A8,.slice (some ad233) l0_1.length c0_1] 24 (0,0)) (by (with_reducible repeat (first|refine AG ?_ _|refine AI ?_|refine AH ?_ _)); exact BK230.out)):gb234≠gb230)); have n14_:=Aside0.mk ((by rw [hg]; exact Nat.ne_of_lt (Ar (g:=gb231) (o:= .cells #[.int .i64 0,.slice none 0 0] 34 (0,0)) (by (with_reducible repeat (first|refine AG ?_ _|refine AI ?_|refine AH ?_ _)); exact BK231.out)):gb231≠gb234)); have n15_:=Aside0.mk ((by rw [hg]; exact Nat.ne_of_gt (Ar (g:=gb231) (o:= .cells #[.int .i64 0,.slice none 0 0] 34 (0,0)) (by (with_reducible repeat (first|refine AG ?_ _|refine AI ?_|refine AH ?_ _)); exact BK231.out)):gb234≠gb231)); have n16_:=Aside0.mk ((by rw [hg]; exact Nat.ne_of_lt (Ar (g:=gb232) (o:= .cells #[.int .i64 A8,u233001] 34 (0,0)) (by (with_reducible repeat (first|refine AG ?_ _|refine AI ?_|refine AH ?_ _)); exact BK232.out)):gb232≠gb234)); have n17_:=Aside0.mk ((by rw [hg]; exact Nat.ne_of_gt (Ar (g:=gb232) (o:= .cells #[.int .i64 A8,u233001] 34 (0,0)) (by (with_reducible repeat (first|refine AG ?_ _|refine AI ?_|refine AH ?_ _)); exact BK232.out)):gb234≠gb232)); clear HO_10; clear HO_231001; clear HO_233001; clear HL233_3; clear BK230; clear BK231; clear BK232; clear HR233_3; clear HB; have HO_10:=n0_; have HO_231001:=n1_; have HO_233001:=n2_; have HL233_3:=n3_; have BK230:=n4_; have BK231:=n5_; have BK232:=n6_; have HR233_3:=n7_; have HB:=n8_; have BK234:=n9_; have GW234:=n10_; have GE234:=n11_; have NB230_234:=n12_; have NB234_230:=n13_; have NB231_234:=n14_; have NB234_231:=n15_; have NB232_234:=n16_; have NB234_232:=n17_; clear n0_ n1_ n2_ n3_ n4_ n5_ n6_ n7_ n8_ n9_ n10_ n11_ n12_ n13_ n14_ n15_ n16_ n17_; clear hb hbox hg; have hnb16:=NB234_230.out; have hnc16:=NB230_234.out; have hnb17:=NB234_231.out; have hnc17:=NB231_234.out; have hnb18:=NB234_232.out; have hnc18:=NB232_234.out; have hcz19_0:w15.cell? ⟨gb234,0,none⟩=some (.string (⟨#[]⟩:ByteArray)):=(AK BK234.out 0).trans rfl; have hcz19_1:w15.cell? ⟨gb234,1,none⟩=some (.int .i64 0):=(AK BK234.out 1).trans rfl; have hcz19_2:w15.cell? ⟨gb234,2,none⟩=some (.int .i64 0):=(AK BK234.out 2).trans rfl; have hcz19_3:w15.cell? ⟨gb234,3,none⟩=some (.slice none 0 0):=(AK BK234.out 3).trans rfl; have hfz19_0:=AJ BK234.out 0; have hfz19_1:=AJ BK234.out 1; have hfz19_2:=AJ BK234.out 2; have hfz19_3:=AJ BK234.out 3)|((with_reducible refine BZ (t:=42) (p:=5) rfl ?_); refine BQ (t:=42) (p:=5) (v:= ?vo_w20) (w1:=((((w15.setCell ⟨gb234,0,none⟩ (.string ((AR l0_1 x12_1).f0))).setCell ⟨gb234,1,none⟩ (.int .i64 ((AR l0_1 x12_1).f1))).setCell ⟨gb234,2,none⟩ (.int .i64 ((AR l0_1 x12_1).f2))).setCell ⟨gb234,3,none⟩ (.slice A233_3 ((AR l0_1 x12_1).f3).length c233_3))) ?hg ?ho ?hn ?hr ?_; (case ho=>rfl); (case hg=>rfl); (case hn=>rfl); (case hr=>first|(go_simp; done)|(go_simp; rfl)); intro w20 hw; have n0_:Aside0 (Kd.V k42 42 w20 w.heap.size (fun k_=>(P0_1_ k_∨w.heap.size≤k_)∧some k_≠(u233001:Value).ownBlock∧k_≠gb230∧k_≠gb231∧k_≠gb232∧k_≠gb234) (.slice (some ad233) l0_1.length c0_1) l0_1):=⟨(by rw [hw]; exact (by (with_reducible repeat (first|apply Kd.V_alloc|apply Kd.V_drewN|apply Kd.V_drew)); exact Kd.V_mono (Kd.V_far (p:=⟨gb234,3,none⟩) (Kd.V_far (p:=⟨gb234,2,none⟩) (Kd.V_far (p:=⟨gb234,1,none⟩) (Kd.V_far (p:=⟨gb234,0,none⟩) (Kd.V_mono HO_10.out (fun k_ hk=>(⟨hk,hk.2⟩:_∧k_≠gb234))) (fun _ hk=>hk.2) (.string ((AR l0_1 x12_1).f0))) (fun _ hk=>hk.2) (.int .i64 ((AR l0_1 x12_1).f1))) (fun _ hk=>hk.2) (.int .i64 ((AR l0_1 x12_1).f2))) (fun _ hk=>hk.2) (.slice A233_3 ((AR l0_1 x12_1).f3).length c233_3)) (fun _ hk=>⟨hk.1.1.1,⟨hk.1.1.2.1,⟨hk.1.1.2.2.1,⟨hk.1.1.2.2.2.1,⟨hk.1.1.2.2.2.2,hk.1.2⟩⟩⟩⟩⟩)))⟩; have n1_:Aside0 (Kd.V k42 42 w20 w.heap.size (fun k_=>(P0_1_ k_∨w.heap.size≤k_)∧some k_≠(u233001:Value).ownBlock∧k_≠gb230∧k_≠gb231∧k_≠gb232∧k_≠gb234) (.slice (some ad233) l0_1.length c0_1) l0_1):=⟨(by rw [hw]; exact (by (with_reducible repeat (first|apply Kd.V_alloc|apply Kd.V_drewN|apply Kd.V_drew)); exact Kd.V_mono (Kd.V_far (p:=⟨gb234,3,none⟩) (Kd.V_far (p:=⟨gb234,2,none⟩) (Kd.V_far (p:=⟨gb234,1,none⟩) (Kd.V_far (p:=⟨gb234,0,none⟩) (Kd.V_mono HO_231001.out (fun k_ hk=>(⟨hk,hk.2⟩:_∧k_≠gb234))) (fun _ hk=>hk.2) (.string ((AR l0_1 x12_1).f0))) (fun _ hk=>hk.2) (.int .i64 ((AR l0_1 x12_1).f1))) (fun _ hk=>hk.2) (.int .i64 ((AR l0_1 x12_1).f2))) (fun _ hk=>hk.2) (.slice A233_3 ((AR l0_1 x12_1).f3).length c233_3)) (fun _ hk=>⟨hk.1.1.1,⟨hk.1.1.2.1,⟨hk.1.1.2.2.1,⟨hk.1.1.2.2.2.1,⟨hk.1.1.2.2.2.2,hk.1.2⟩⟩⟩⟩⟩)))⟩; have n2_:Aside0 (Kd.N k64 64 w20 w.heap.size (fun k_=>(P0_1_ k_∨w.heap.size≤k_)∧k_≠gb230∧k_≠gb231∧k_≠gb232∧k_≠gb234) u233001 x233001_1):=⟨(by rw [hw]; exact (by (with_reducible repeat (first|apply Kd.N_alloc|apply Kd.N_drewN|apply Kd.N_drew)); exact Kd.N_mono (Kd.N_far (p:=⟨gb234,3,none⟩) (Kd.N_far (p:=⟨gb234,2,none⟩) (Kd.N_far (p:=⟨gb234,1,none⟩) (Kd.N_far (p:=⟨gb234,0,none⟩) (Kd.N_mono HO_233001.out (fun k_ hk=>(⟨hk,hk.2⟩:_∧k_≠gb234))) (fun _ hk=>hk.2) (.string ((AR l0_1 x12_1).f0))) (fun _ hk=>hk.2) (.int .i64 ((AR l0_1 x12_1).f1))) (fun _ hk=>hk.2) (.int .i64 ((AR l0_1 x12_1).f2))) (fun _ hk=>hk.2) (.slice A233_3 ((AR l0_1 x12_1).f3).length c233_3)) (fun _ hk=>⟨hk.1.1.1,⟨hk.1.1.2.1,⟨hk.1.1.2.2.1,⟨hk.1.1.2.2.2,hk.1.2⟩⟩⟩⟩)))⟩; have n3_:Aside0 (Kd.V (Kd.int .i64) 3 w20 w.heap.size (fun k_=>(P0_1_ k_∨w.heap.size≤k_)∧some k_≠(u233001:Value).ownBlock∧k_≠gb230∧k_≠gb231∧k_≠gb232∧k_≠gb234) (.slice A233_3 ((AR l0_1 x12_1).f3).length c233_3) ((AR l0_1 x12_1).f3)):=⟨(by rw [hw]; exact (by (with_reducible repeat (first|apply Kd.V_alloc|apply Kd.V_drewN|apply Kd.V_drew)); exact Kd.V_mono (Kd.V_far (p:=⟨gb234,3,none⟩) (Kd.V_far (p:=⟨gb234,2,none⟩) (Kd.V_far (p:=⟨gb234,1,none⟩) (Kd.V_far (p:=⟨gb234,0,none⟩) (Kd.V_mono HL233_3.out (fun k_ hk=>(⟨hk,hk.2⟩:_∧k_≠gb234))) (fun _ hk=>hk.2) (.string ((AR l0_1 x12_1).f0))) (fun _ hk=>hk.2) (.int .i64 ((AR l0_1 x12_1).f1))) (fun _ hk=>hk.2) (.int .i64 ((AR l0_1 x12_1).f2))) (fun _ hk=>hk.2) (.slice A233_3 ((AR l0_1 x12_1).f3).length c233_3)) (fun _ hk=>⟨hk.1.1.1,⟨hk.1.1.2.1,⟨hk.1.1.2.2.1,⟨hk.1.1.2.2.2.1,⟨hk.1.1.2.2.2.2,hk.1.2⟩⟩⟩⟩⟩)))⟩; have n4_:Aside0 (w20.heap[gb230]? =some (.cells #[.int .i64 A8,.slice (some ad233) l0_1.length c0_1] 24 (0,0))):=⟨(by rw [hw]; exact (by (with_reducible repeat (first|refine AG ?_ _|refine AI ?_|refine AH ?_ _)); refine Aa ?_ NB230_234.out _; (with_reducible repeat (first|refine AG ?_ _|refine AI ?_|refine AH ?_ _)); refine Aa ?_ NB230_234.out _; (with_reducible repeat (first|refine AG ?_ _|refine AI ?_|refine AH ?_ _)); refine Aa ?_ NB230_234.out _; (with_reducible repeat (first|refine AG ?_ _|refine AI ?_|refine AH ?_ _)); refine Aa ?_ NB230_234.out _; (with_reducible repeat (first|refine AG ?_ _|refine AI ?_|refine AH ?_ _)); exact BK230.out))⟩; have n5_:Aside0 (w20.heap[gb231]? =some (.cells #[.int .i64 0,.slice none 0 0] 34 (0,0))):=⟨(by rw [hw]; exact (by (with_reducible repeat (first|refine AG ?_ _|refine AI ?_|refine AH ?_ _)); refine Aa ?_ NB231_234.out _; (with_reducible repeat (first|refine AG ?_ _|refine AI ?_|refine AH ?_ _)); refine Aa ?_ NB231_234.out _; (with_reducible repeat (first|refine AG ?_ _|refine AI ?_|refine AH ?_ _)); refine Aa ?_ NB231_234.out _; (with_reducible repeat (first|refine AG ?_ _|refine AI ?_|refine AH ?_ _)); refine Aa ?_ NB231_234.out _; (with_reducible repeat (first|refine AG ?_ _|refine AI ?_|refine AH ?_ _)); exact BK231.out))⟩; have n6_:Aside0 (w20.heap[gb232]? =some (.cells #[.int .i64 A8,u233001] 34 (0,0))):=⟨(by rw [hw]; exact (by (with_reducible repeat (first|refine AG ?_ _|refine AI ?_|refine AH ?_ _)); refine Aa ?_ NB232_234.out _; (with_reducible repeat (first|refine AG ?_ _|refine AI ?_|refine AH ?_ _)); refine Aa ?_ NB232_234.out _; (with_reducible repeat (first|refine AG ?_ _|refine AI ?_|refine AH ?_ _)); refine Aa ?_ NB232_234.out _; (with_reducible repeat (first|refine AG ?_ _|refine AI ?_|refine AH ?_ _)); refine Aa ?_ NB232_234.out _; (with_reducible repeat (first|refine AG ?_ _|refine AI ?_|refine AH ?_ _)); exact BK232.out))⟩; have n7_:Aside0 (w20.heap[gb234]? =some (.cells #[.string ((AR l0_1 x12_1).f0),.int .i64 ((AR l0_1 x12_1).f1),.int .i64 ((AR l0_1 x12_1).f2),.slice A233_3 ((AR l0_1 x12_1).f3).length c233_3] 42 (0,0))):=⟨(by rw [hw]; exact (by (with_reducible repeat (first|refine AG ?_ _|refine AI ?_|refine AH ?_ _)); refine Av (cs:= #[.string ((AR l0_1 x12_1).f0),.int .i64 ((AR l0_1 x12_1).f1),.int .i64 ((AR l0_1 x12_1).f2),.slice none 0 0]) ?_ 3 _ rfl; (with_reducible repeat (first|refine AG ?_ _|refine AI ?_|refine AH ?_ _)); refine Av (cs:= #[.string ((AR l0_1 x12_1).f0),.int .i64 ((AR l0_1 x12_1).f1),.int .i64 0,.slice none 0 0]) ?_ 2 _ rfl; (with_reducible repeat (first|refine AG ?_ _|refine AI ?_|refine AH ?_ _)); refine Av (cs:= #[.string ((AR l0_1 x12_1).f0),.int .i64 0,.int .i64 0,.slice none 0 0]) ?_ 1 _ rfl; (with_reducible repeat (first|refine AG ?_ _|refine AI ?_|refine AH ?_ _)); refine Av (cs:= #[.string (⟨#[]⟩:ByteArray),.int .i64 0,.int .i64 0,.slice none 0 0]) ?_ 0 _ rfl; (with_reducible repeat (first|refine AG ?_ _|refine AI ?_|refine AH ?_ _)); exact BK234.out))⟩; have n8_:Aside0 (Below w.heap.size w w20):=⟨(by rw [hw]; exact (by repeat (first|(with_reducible first|exact HB.out|apply AE|apply AC|apply AD|refine AF ?_ GE230.out|refine AF ?_ GE231.out|refine AF ?_ GE232.out|refine AF ?_ GE234.out)|exact HB.out)))⟩; clear hw; clear HO_10; clear HO_231001; clear HO_233001; clear HL233_3; clear BK230; clear BK231; clear BK232; clear BK234; clear HB; have HO_10:=n0_; have HO_231001:=n1_; have HO_233001:=n2_; have HL233_3:=n3_; have BK230:=n4_; have BK231:=n5_; have BK232:=n6_; have BK234:=n7_; have HB:=n8_; clear n0_ n1_ n2_ n3_ n4_ n5_ n6_ n7_ n8_; have hnb21:=NB232_230.out; have hnc21:=NB230_232.out; have hnb22:=NB232_231.out; have hnc22:=NB231_232.out; have hcz23_0:w20.cell? ⟨gb232,0,none⟩=some (.int .i64 A8):=(AK BK232.out 0).trans rfl; have hcz23_1:w20.cell? ⟨gb232,1,none⟩=some (u233001):=(AK BK232.out 1).trans rfl; have hfz23_0:=AJ BK232.out 0; have hfz23_1:=AJ BK232.out 1; have hcz24_0:w20.cell? ⟨gb234,0,none⟩=some (.string ((AR l0_1 x12_1).f0)):=(AK BK234.out 0).trans rfl; have hcz24_1:w20.cell? ⟨gb234,1,none⟩=some (.int .i64 ((AR l0_1 x12_1).f1)):=(AK BK234.out 1).trans rfl; have hcz24_2:w20.cell? ⟨gb234,2,none⟩=some (.int .i64 ((AR l0_1 x12_1).f2)):=(AK BK234.out 2).trans rfl; have hcz24_3:w20.cell? ⟨gb234,3,none⟩=some (.slice A233_3 ((AR l0_1 x12_1).f3).length c233_3):=(AK BK234.out 3).trans rfl; have hfz24_0:=AJ BK234.out 0; have hfz24_1:=AJ BK234.out 1; have hfz24_2:=AJ BK234.out 2; have hfz24_3:=AJ BK234.out 3)|((with_reducible refine C6 (b:= .append) (xs:= #[.tmp 17,.tmp 19]) rfl ?_); at_builtin; refine Kd.N_append k64 (w0:=w) w.heap.size rfl (.tmp 17) (.tmp 19) 32 64 (.agg #[(.string ⟨#[]⟩),(.int .i64 0),(.int .i64 0),(.slice none 0 0)]) 56 rfl Try.underlying32 info64 rfl (by decide) (by omega) u233001 x233001_1 (⟨(AR l0_1 x12_1).f0,(AR l0_1 x12_1).f1,(AR l0_1 x12_1).f2,(AR l0_1 x12_1).f3⟩:S64) [.string ((AR l0_1 x12_1).f0),.int .i64 ((AR l0_1 x12_1).f1),.int .i64 ((AR l0_1 x12_1).f2),.slice A233_3 ((AR l0_1 x12_1).f3).length c233_3] (fun k_=>(P0_1_ k_∨w.heap.size≤k_)∧k_≠gb230∧k_≠gb231∧k_≠gb232∧k_≠gb234) (fun k_=>((fun k_=>(P0_1_ k_∨w.heap.size≤k_)∧k_≠gb230∧k_≠gb231∧k_≠gb232∧k_≠gb234)) k_∧some k_≠(u233001:Value).ownBlock) rfl rfl ?aP (fun _ hk=>hk) ?aF ?aO ?aB ?aS ?aL ?_; (case aP=>exact (k64_mkF _ _ (⟨(AR l0_1 x12_1).f0,(AR l0_1 x12_1).f1,(AR l0_1 x12_1).f2,(AR l0_1 x12_1).f3⟩:S64) (Kd.V_reads' (Kd.V_mono (ok':=(fun k_=>((fun k_=>(P0_1_ k_∨w.heap.size≤k_)∧k_≠gb230∧k_≠gb231∧k_≠gb232∧k_≠gb234)) k_∧some k_≠(u233001:Value).ownBlock)) (HL233_3.out) (fun k_ hk=>⟨⟨hk.1,⟨hk.2.2.1,⟨hk.2.2.2.1,⟨hk.2.2.2.2.1,hk.2.2.2.2.2⟩⟩⟩⟩,hk.2.1⟩))).2.1 (Kd.V_F (Kd.V_mono (ok':=(fun k_=>((fun k_=>(P0_1_ k_∨w.heap.size≤k_)∧k_≠gb230∧k_≠gb231∧k_≠gb232∧k_≠gb234)) k_∧some k_≠(u233001:Value).ownBlock)) (HL233_3.out) (fun k_ hk=>⟨⟨hk.1,⟨hk.2.2.1,⟨hk.2.2.2.1,⟨hk.2.2.2.2.1,hk.2.2.2.2.2⟩⟩⟩⟩,hk.2.1⟩))))); (case aB=>exact (by repeat (first|(with_reducible first|exact HB.out|apply AE|apply AC|apply AD|refine AF ?_ GE230.out|refine AF ?_ GE231.out|refine AF ?_ GE232.out|refine AF ?_ GE234.out)|exact HB.out))); (case aF=>exact (fun k_ hk=>⟨(.inr (Nat.le_trans (AO (by repeat (first|(with_reducible first|exact HB.out|apply AE|apply AC|apply AD|refine AF ?_ GE230.out|refine AF ?_ GE231.out|refine AF ?_ GE232.out|refine AF ?_ GE234.out)|exact HB.out))) hk)),Kd.freshB (g:=gb230) (o:= .cells #[.int .i64 A8,.slice (some ad233) l0_1.length c0_1] 24 (0,0)) (by (with_reducible repeat (first|refine AG ?_ _|refine AI ?_|refine AH ?_ _)); exact BK230.out) k_ hk,Kd.freshB (g:=gb231) (o:= .cells #[.int .i64 0,.slice none 0 0] 34 (0,0)) (by (with_reducible repeat (first|refine AG ?_ _|refine AI ?_|refine AH ?_ _)); exact BK231.out) k_ hk,Kd.freshB (g:=gb232) (o:= .cells #[.int .i64 A8,u233001] 34 (0,0)) (by (with_reducible repeat (first|refine AG ?_ _|refine AI ?_|refine AH ?_ _)); exact BK232.out) k_ hk,Kd.freshB (g:=gb234) (o:= .cells #[.string ((AR l0_1 x12_1).f0),.int .i64 ((AR l0_1 x12_1).f1),.int .i64 ((AR l0_1 x12_1).f2),.slice A233_3 ((AR l0_1 x12_1).f3).length c233_3] 42 (0,0)) (by (with_reducible repeat (first|refine AG ?_ _|refine AI ?_|refine AH ?_ _)); exact BK234.out) k_ hk⟩)); (case aO=>exact (by (with_reducible repeat (first|apply Kd.N_alloc|apply Kd.N_drewN|apply Kd.N_drew)); exact HO_233001.out)); (case aS=>exact (AO (by repeat (first|(with_reducible first|exact HB.out|apply AE|apply AC|apply AD|refine AF ?_ GE230.out|refine AF ?_ GE231.out|refine AF ?_ GE232.out|refine AF ?_ GE234.out)|exact HB.out)))); (case aL=>have:=LMc14.out; omega); intro v236 w25 ho hb hg hat; rw [←Ny235.out] at ho; have n0_:=Aside0.mk (Kd.V_afterv (ok:=(fun k_=>(P0_1_ k_∨w.heap.size≤k_)∧k_≠gb230∧k_≠gb231∧k_≠gb232∧k_≠gb234)) (by (with_reducible repeat (first|apply Kd.V_alloc|apply Kd.V_drewN|apply Kd.V_drew)); exact Kd.V_mono HO_10.out (fun _ hk=>⟨⟨hk.1,⟨hk.2.2.1,⟨hk.2.2.2.1,⟨hk.2.2.2.2.1,hk.2.2.2.2.2⟩⟩⟩⟩,hk.2.1⟩)) hg hat); have n1_:=Aside0.mk (Kd.V_afterv (ok:=(fun k_=>(P0_1_ k_∨w.heap.size≤k_)∧k_≠gb230∧k_≠gb231∧k_≠gb232∧k_≠gb234)) (by (with_reducible repeat (first|apply Kd.V_alloc|apply Kd.V_drewN|apply Kd.V_drew)); exact Kd.V_mono HO_231001.out (fun _ hk=>⟨⟨hk.1,⟨hk.2.2.1,⟨hk.2.2.2.1,⟨hk.2.2.2.2.1,hk.2.2.2.2.2⟩⟩⟩⟩,hk.2.1⟩)) hg hat); have n2_:=Aside0.mk (BF (g:=gb230) (o:= .cells #[.int .i64 A8,.slice (some ad233) l0_1.length c0_1] 24 (0,0)) (by (with_reducible repeat (first|refine AG ?_ _|refine AI ?_|refine AH ?_ _)); exact BK230.out) hg (Kd.N_ne HO_233001.out BK230.out (by decide))); have n3_:=Aside0.mk (BF (g:=gb231) (o:= .cells #[.int .i64 0,.slice none 0 0] 34 (0,0)) (by (with_reducible repeat (first|refine AG ?_ _|refine AI ?_|refine AH ?_ _)); exact BK231.out) hg (Kd.N_ne HO_233001.out BK231.out (by decide))); have n4_:=Aside0.mk (BF (g:=gb232) (o:= .cells #[.int .i64 A8,u233001] 34 (0,0)) (by (with_reducible repeat (first|refine AG ?_ _|refine AI ?_|refine AH ?_ _)); exact BK232.out) hg (Kd.N_ne HO_233001.out BK232.out (by decide))); have n5_:=Aside0.mk (Kd.V_afterv (ok:=(fun k_=>(P0_1_ k_∨w.heap.size≤k_)∧k_≠gb230∧k_≠gb231∧k_≠gb232∧k_≠gb234)) (by (with_reducible repeat (first|apply Kd.V_alloc|apply Kd.V_drewN|apply Kd.V_drew)); exact Kd.V_mono HL233_3.out (fun _ hk=>⟨⟨hk.1,⟨hk.2.2.1,⟨hk.2.2.2.1,⟨hk.2.2.2.2.1,hk.2.2.2.2.2⟩⟩⟩⟩,hk.2.1⟩)) hg hat); have n6_:=Aside0.mk (BF (g:=gb234) (o:= .cells #[.string ((AR l0_1 x12_1).f0),.int .i64 ((AR l0_1 x12_1).f1),.int .i64 ((AR l0_1 x12_1).f2),.slice A233_3 ((AR l0_1 x12_1).f3).length c233_3] 42 (0,0)) (by (with_reducible repeat (first|refine AG ?_ _|refine AI ?_|refine AH ?_ _)); exact BK234.out) hg (Kd.N_ne HO_233001.out BK234.out (by decide))); have n7_:=Aside0.mk (hb); have n8_:=Aside0.mk (ho); clear HO_10; clear HO_231001; clear BK230; clear BK231; clear BK232; clear HL233_3; clear BK234; clear HB; clear HO_233001; have HO_10:=n0_; have HO_231001:=n1_; have BK230:=n2_; have BK231:=n3_; have BK232:=n4_; have HL233_3:=n5_; have BK234:=n6_; have HB:=n7_; have HO237:=n8_; clear n0_ n1_ n2_ n3_ n4_ n5_ n6_ n7_ n8_; clear ho hb hg hat; obtain ⟨Ao26,co26,eo26⟩:=Kd.N_slice HO237.out; subst eo26; have hcz27_0:w25.cell? ⟨gb232,0,none⟩=some (.int .i64 A8):=(AK BK232.out 0).trans rfl; have hcz27_1:w25.cell? ⟨gb232,1,none⟩=some (u233001):=(AK BK232.out 1).trans rfl; have hfz27_0:=AJ BK232.out 0; have hfz27_1:=AJ BK232.out 1))
       go_roundg k1
       case measure=>have:=HK1.out; omega
       case rel=>exact ⟨(wrap64 (x12_1+1)),(y235),(.slice Ao26 y235.length co26),(by first|rfl|(simp; done)|(simp [*]; done)),H',⟨by have:=HK1.out; omega⟩,⟨by (with_reducible repeat (first|apply Kd.V_alloc|apply Kd.V_drewN|apply Kd.V_drew)); exact Kd.V_mono (Kd.V_far (p:=⟨gb232,1,none⟩) (Kd.V_mono HO_10.out (fun k_ hk=>(⟨hk,hk.1.2.2.2.1⟩:_∧k_≠gb232))) (fun _ hk=>hk.2) (.slice Ao26 y235.length co26)) (fun _ hk=>⟨hk.1.1.1,⟨hk.1.2,⟨hk.1.1.2.1,⟨hk.1.1.2.2.1,hk.1.1.2.2.2.1⟩⟩⟩⟩)⟩,⟨by (with_reducible repeat (first|apply Kd.V_alloc|apply Kd.V_drewN|apply Kd.V_drew)); exact Kd.V_mono (Kd.V_far (p:=⟨gb232,1,none⟩) (Kd.V_mono HO_231001.out (fun k_ hk=>(⟨hk,hk.1.2.2.2.1⟩:_∧k_≠gb232))) (fun _ hk=>hk.2) (.slice Ao26 y235.length co26)) (fun _ hk=>⟨hk.1.1.1,⟨hk.1.2,⟨hk.1.1.2.1,⟨hk.1.1.2.2.1,hk.1.1.2.2.2.1⟩⟩⟩⟩)⟩,⟨by (with_reducible repeat (first|apply Kd.N_alloc|apply Kd.N_drewN|apply Kd.N_drew)); exact Kd.N_mono (Kd.N_far (p:=⟨gb232,1,none⟩) (Kd.N_mono HO237.out (fun k_ hk=>(⟨hk,hk.2.2.2.1⟩:_∧k_≠gb232))) (fun _ hk=>hk.2) (.slice Ao26 y235.length co26)) (fun _ hk=>⟨hk.1.1,⟨hk.1.2.1,⟨hk.1.2.2.1,hk.1.2.2.2.1⟩⟩⟩)⟩,⟨by (with_reducible repeat (first|refine AG ?_ _|refine AI ?_|refine AH ?_ _)); refine Aa ?_ NB230_232.out _; (with_reducible repeat (first|refine AG ?_ _|refine AI ?_|refine AH ?_ _)); exact BK230.out⟩,⟨by (with_reducible repeat (first|refine AG ?_ _|refine AI ?_|refine AH ?_ _)); refine Aa ?_ NB231_232.out _; (with_reducible repeat (first|refine AG ?_ _|refine AI ?_|refine AH ?_ _)); exact BK231.out⟩,⟨by (with_reducible repeat (first|refine AG ?_ _|refine AI ?_|refine AH ?_ _)); refine Av (cs:= #[.int .i64 A8,u233001]) ?_ 1 _ rfl; (with_reducible repeat (first|refine AG ?_ _|refine AI ?_|refine AH ?_ _)); exact BK232.out⟩,⟨by repeat (first|(with_reducible first|exact HB.out|apply AE|apply AC|apply AD|refine AF ?_ GE230.out|refine AF ?_ GE231.out|refine AF ?_ GE232.out|refine AF ?_ GE234.out)|exact HB.out)⟩⟩
      ·rw [if_neg c14] at H
       exact absurd H (by simp)
     ·rw [if_neg c13] at H
      exact absurd H (by simp)
    ·rw [if_neg c12] at H
     exact absurd H (by simp)
   ·rw [if_neg c11] at H
    have c11b0:decide (x12_1<(l0_1.length:Int))=false:=decide_eq_false c11
    clear c11
    simp only [Option.some.injEq,Prod.mk.injEq] at H
    obtain ⟨rfl,rfl⟩:=H
    have hnb28:=NB232_230.out
    have hnc28:=NB230_232.out
    have hnb29:=NB232_231.out
    have hnc29:=NB231_232.out
    have hcz30_0:wr.cell? ⟨gb232,0,none⟩=some (.int .i64 A8):=(AK BK232.out 0).trans rfl
    have hcz30_1:wr.cell? ⟨gb232,1,none⟩=some (u233001):=(AK BK232.out 1).trans rfl
    have hfz30_0:=AJ BK232.out 0
    have hfz30_1:=AJ BK232.out 1
    have hnb31:=NB231_230.out
    have hnc31:=NB230_231.out
    have hcz32_0:wr.cell? ⟨gb231,0,none⟩=some (.int .i64 0):=(AK BK231.out 0).trans rfl
    have hcz32_1:wr.cell? ⟨gb231,1,none⟩=some (.slice none 0 0):=(AK BK231.out 1).trans rfl
    have hfz32_0:=AJ BK231.out 0
    have hfz32_1:=AJ BK231.out 1
    obtain ⟨Ao33,co33,eo33⟩:=Kd.N_slice HO_233001.out
    subst eo33
    go_wp2
    refine bodyPost_ret (results_cell_row rfl _ _ gb231 34 #[.int .i64 A8,.slice Ao33 x233001_1.length co33] (0,0) _ rfl (by (with_reducible repeat (first|refine AG ?_ _|refine AI ?_|refine AH ?_ _)); refine Av (cs:= #[.int .i64 A8,.slice none 0 0]) ?_ 1 _ rfl; (with_reducible repeat (first|refine AG ?_ _|refine AI ?_|refine AH ?_ _)); refine Av (cs:= #[.int .i64 0,.slice none 0 0]) ?_ 0 _ rfl; (with_reducible repeat (first|refine AG ?_ _|refine AI ?_|refine AH ?_ _)); exact BK231.out) Try.underlying34 rfl (by kernel_rfl)) rfl ?_
    exact ⟨_,by first|rfl|(simp [AV,AU]<;>rfl)|(simp [*,AV,AU]<;>rfl),by (with_reducible repeat (first|apply Kd.N_alloc|apply Kd.N_drewN|apply Kd.N_drew)); exact Kd.N_mono (Kd.N_far (p:=⟨gb231,1,none⟩) (Kd.N_far (p:=⟨gb231,0,none⟩) (Kd.N_mono HO_233001.out (fun k_ hk=>(⟨hk,hk.2.2.1⟩:_∧k_≠gb231))) (fun _ hk=>hk.2) (.int .i64 A8)) (fun _ hk=>hk.2) (.slice Ao33 x233001_1.length co33)) (fun _ hk=>hk.1.1),by repeat (first|(with_reducible first|exact HB.out|apply AE|apply AC|apply AD|refine AF ?_ GE230.out|refine AF ?_ GE231.out|refine AF ?_ GE232.out)|exact HB.out)⟩
end Go.Proofs.Ytdadecjefafflaa.PAll
end
