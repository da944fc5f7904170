/- A part of what the law's proof leans on. PACKED BY pack.py of this repo. -/
import Derived.Test.YtdadecjefafflaaE3
set_option linter.unusedVariables false
set_option linter.unusedSimpArgs false
set_option linter.defProp false
set_option linter.unusedSectionVars false
section
namespace Go.Proofs.Ytdadecjefafflaa.PAll
set_option maxRecDepth 100000
open Go.RowKit Go.Proofs.YtdadecjefafflaaW.PrintWords Go.Proofs.YtdadecjefafflaaW.PrintLast Go.Proofs.YtdadecjefafflaaW.PrintMore
attribute [local go_sem] Bb BZ Bg Bf BU BT Ba BX
mutual
def B2.l0:Nat→Int→Int→List (S42)→Option (Bool)
 |0,_,_,_=>none
 |k+1,x3,x228000,x228001=>if x3<(x228001.length:Int) then (B2.j1 k x3 (decide (x3<43)) x228000 x228001) else (B2.j1 k x3 false x228000 x228001)
def B2.j1:Nat→Int→Bool→Int→List (S42)→Option (Bool)
 |0,_,_,_,_=>none
 |k+1,x3,x12,x228000,x228001=>if x12=true then (if 0≤x3 then (if x3<(x228001.length:Int) then (if (((AL x228001 x3).f0).size:Int)>40 then (some false) else (if (((AL x228001 x3).f3).length:Int)>42 then (some false) else (B2.l0 k (wrap64 (x3+1)) x228000 x228001))) else (none)) else (none)) else (some (decide ((x228001.length:Int)≤42)))
end
def B2.f (k:Nat) (A8:Int) (l0_1:List (S42)):Option (Bool):=B2.l0 k 0 A8 l0_1
set_option maxHeartbeats 8000000 in
theorem B2.calls (k:Nat) (A8:Int) (A0_1:Option Addr) (c0_1:Nat) (l0_1:List (S42)) (r:Bool) (w:World) (hr0_1:Kd.C k42 w A0_1 l0_1.length l0_1) (hc0_1:l0_1.length≤c0_1) (h:B2.f k A8 l0_1=some r):
  Calls Try.prog 10 #[.agg #[.int .i64 A8,.slice A0_1 l0_1.length c0_1]] w fun e w'=>e= .returned (.bool r)∧Below w.heap.size w w':=by
 have hu24:=Try.underlying24
 have HR0_1:=Aside0.mk hr0_1
 have HC0_1:=Aside0.mk hc0_1
 clear hr0_1 hc0_1
 have HB:=Aside0.mk (Below.refl w.heap.size w)
 have H:(B2.l0 k 0 A8 l0_1)=some r:=h
 clear h
 have H':=Aside0.mk H
 clear H
 go_enter Try.func10,Try.ntmps10
 go_wp2_with (first|((with_reducible refine Ap (N:=1) rfl ?_); (try (refine BC (by rfl) ?_; dsimp only)); refine Ar ?hg (N:=1) ?hd (cs:= #[.int .i64 A8,.slice A0_1 l0_1.length c0_1]) (t:=24) ?hr ?_; (case hd=>rfl); (case hg=>rfl); (case hr=>first|(go_simp; done)|(go_simp; rfl)); intro gb227 hg w2 hbox hb; have n0_:=Aside0.mk (AN zB hb); have n1_:=Aside0.mk (hbox); have n2_:=Aside0.mk ((by rw [hg]; exact (AQ zB):w.heap.size≤gb227)); have n3_:=Aside0.mk ((by rw [hg]; exact (AQ zB):w.heap.size≤gb227)); clear HB; have HB:=n0_; have BK227:=n1_; have GW227:=n2_; have GE227:=n3_; clear n0_ n1_ n2_ n3_; clear hb hbox hg))
 go_loopg [3] k (fun kq v3 w'=>∃(x3_1:Int),v3= .int .i64 x3_1∧Aside0 (B2.l0 kq x3_1 A8 l0_1=some r)∧Aside0 (kq≤k)∧Aside0 (w'.heap[gb227]? =some (.cells #[.int .i64 A8,(.slice A0_1 l0_1.length c0_1)] 24 (0,0)))∧Aside0 (Below w.heap.size w w'))
 case atStart=>exact ⟨(0),zF,H',⟨Nat.le_refl _⟩,⟨by (with_reducible repeat (first|refine AF ?_ _|refine AH ?_|refine AG ?_ _)); exact BK227.out⟩,⟨by repeat (first|(with_reducible first|exact HB.out|apply AE|apply AC|apply AD|refine AI ?_ GE227.out)|exact HB.out)⟩⟩
 case round=>
  clear H'
  try clear c1
  try clear p2
  obtain ⟨x3_1,rfl,HA,HK1,BK227,HB⟩:=hrel
  cases gk with
  |zero=>exact absurd HA.out (by simp [B2.l0])
  | succ k1 =>
   have H:=HA.out
   clear HA
   simp only [B2.l0] at H
   have HC3:=Aside0.mk H
   clear H
   go_upto_region 2 with (fail)
   go_cut [12] (fun v12 wc=>∃(kq:Nat) (x12_2:Bool),v12= .bool x12_2∧Aside0 (B2.j1 kq x3_1 x12_2 A8 l0_1=some r)∧Aside0 (kq≤k1)∧Aside0 (wc.heap[gb227]? =some (.cells #[.int .i64 A8,(.slice A0_1 l0_1.length c0_1)] 24 (0,0)))∧Aside0 (Below w.heap.size w wc))
   case first=>
    have H:=HC3.out
    clear HC3
    by_cases c4:x3_1<(l0_1.length:Int)
    ·rw [if_pos c4] at H
     have c4b0:decide (x3_1<(l0_1.length:Int))=true:=decide_eq_true c4
     clear c4
     (first|rw [c4b0]|(simp only [AZ,Ab]; rw [c4b0])|skip)
     have H':=Aside0.mk H
     clear H
     have hcz5_0:wr.cell? ⟨gb227,0,none⟩=some (.int .i64 A8):=(AK BK227.out 0).trans rfl
     have hcz5_1:wr.cell? ⟨gb227,1,none⟩=some (.slice A0_1 l0_1.length c0_1):=(AK BK227.out 1).trans rfl
     have hfz5_0:=AJ BK227.out 0
     have hfz5_1:=AJ BK227.out 1
     go_wp2
     go_meet
     case rel=>exact ⟨_,(decide (x3_1<43)),zF,H',⟨by have:=HK1.out; first|omega|exact Nat.le_refl _⟩,⟨by (with_reducible repeat (first|refine AF ?_ _|refine AH ?_|refine AG ?_ _)); exact BK227.out⟩,⟨by repeat (first|(with_reducible first|exact HB.out|apply AE|apply AC|apply AD|refine AI ?_ GE227.out)|exact HB.out)⟩⟩
    ·rw [if_neg c4] at H
     have c4b0:decide (x3_1<(l0_1.length:Int))=false:=decide_eq_false c4
     clear c4
     (first|rw [c4b0]|(simp only [AZ,Ab]; rw [c4b0])|skip)
     have H':=Aside0.mk H
     clear H
     have hcz6_0:wr.cell? ⟨gb227,0,none⟩=some (.int .i64 A8):=(AK BK227.out 0).trans rfl
     have hcz6_1:wr.cell? ⟨gb227,1,none⟩=some (.slice A0_1 l0_1.length c0_1):=(AK BK227.out 1).trans rfl
     have hfz6_0:=AJ BK227.out 0
     have hfz6_1:=AJ BK227.out 1
     go_wp2
     go_meet
     case rel=>exact ⟨_,(false),zF,H',⟨by have:=HK1.out; first|omega|exact Nat.le_refl _⟩,⟨by (with_reducible repeat (first|refine AF ?_ _|refine AH ?_|refine AG ?_ _)); exact BK227.out⟩,⟨by repeat (first|(with_reducible first|exact HB.out|apply AE|apply AC|apply AD|refine AI ?_ GE227.out)|exact HB.out)⟩⟩
   case rest =>
    clear HC3
    try clear c1
    try clear p2
    try clear c4
    try clear c4b0
    try clear hcz5_0
    try clear hcz5_1
    try clear hcz6_0
    try clear hcz6_1
    try clear hfz5_0
    try clear hfz5_1
    try clear hfz6_0
    try clear hfz6_1
    try clear p2
    obtain ⟨kq,x12_2,rfl,HA,HJ2,BK227,HB⟩:=hcut
    cases kq with
    |zero=>exact absurd HA.out (by simp [B2.j1])
    | succ kj2=>
     have H:=HA.out
     clear HA
     simp only [B2.j1] at H
     by_cases c7:x12_2=true
     ·subst c7
      have H1:(if 0≤x3_1 then (if x3_1<(l0_1.length:Int) then (if (((AL l0_1 x3_1).f0).size:Int)>40 then (some false) else (if (((AL l0_1 x3_1).f3).length:Int)>42 then (some false) else (B2.l0 kj2 (wrap64 (x3_1+1)) A8 l0_1))) else (none)) else (none))=some r:=by rw [if_pos rfl] at H; exact H
      clear H
      have H:=H1
      clear H1
      by_cases c8:0≤x3_1
      ·rw [if_pos c8] at H
       have c8b0:decide (0≤x3_1)=true:=decide_eq_true c8
       clear c8
       by_cases c9:x3_1<(l0_1.length:Int)
       ·rw [if_pos c9] at H
        have c9b0:decide (x3_1<(l0_1.length:Int))=true:=decide_eq_true c9
        clear c9
        by_cases c10:(((AL l0_1 x3_1).f0).size:Int)>40
        ·rw [if_pos c10] at H
         have c10b0:decide (40<(((AL l0_1 x3_1).f0).size:Int))=true:=decide_eq_true c10
         have c10b1:decide (40<((AL l0_1 x3_1).f0).size)=true:=decide_eq_true zG
         clear c10
         obtain rfl:=Option.some.inj H
         have hcz11_0:wc.cell? ⟨gb227,0,none⟩=some (.int .i64 A8):=(AK BK227.out 0).trans rfl
         have hcz11_1:wc.cell? ⟨gb227,1,none⟩=some (.slice A0_1 l0_1.length c0_1):=(AK BK227.out 1).trans rfl
         have hfz11_0:=AJ BK227.out 0
         have hfz11_1:=AJ BK227.out 1
         have p228:0≤(x3_1:Int):=of_decide_eq_true zA
         have q228:x3_1<(l0_1.length:Int):=of_decide_eq_true zA
         obtain ⟨ad228,A228_3,c228_3,e228,hx228_0,hx228_1,hx228_2,hx228_3,hl228_3,hi228_3⟩:=BR HR0_1.out x3_1 p228 q228
         cases e228
         replace hx228_0:=(HB.out.cell (World.block_lt_of_cell? w _ hx228_0)).trans hx228_0
         replace hx228_1:=(HB.out.cell (World.block_lt_of_cell? w _ hx228_1)).trans hx228_1
         replace hx228_2:=(HB.out.cell (World.block_lt_of_cell? w _ hx228_2)).trans hx228_2
         replace hx228_3:=(HB.out.cell (World.block_lt_of_cell? w _ hx228_3)).trans hx228_3
         have HR228_3:=Aside0.mk hi228_3
         have HC228_3:=Aside0.mk hl228_3
         clear hi228_3 hl228_3
         replace p228:=eq_true p228
         replace q228:=eq_true q228
         go_wp2
         go_ret
         exact ⟨by first|rfl|(simp [AU,AT]<;>rfl)|(simp [*,AU,AT]<;>rfl),by repeat (first|(with_reducible first|exact HB.out|apply AE|apply AC|apply AD|refine AI ?_ GE227.out)|exact HB.out)⟩
        ·rw [if_neg c10] at H
         have c10b0:decide (40<(((AL l0_1 x3_1).f0).size:Int))=false:=decide_eq_false c10
         have c10b1:decide (40<((AL l0_1 x3_1).f0).size)=false:=decide_eq_false zG
         clear c10
         by_cases c12:(((AL l0_1 x3_1).f3).length:Int)>42
         ·rw [if_pos c12] at H
          have c12b0:decide (42<(((AL l0_1 x3_1).f3).length:Int))=true:=decide_eq_true c12
          have c12b1:decide (42<((AL l0_1 x3_1).f3).length)=true:=decide_eq_true zG
          clear c12
          obtain rfl:=Option.some.inj H
          have hcz13_0:wc.cell? ⟨gb227,0,none⟩=some (.int .i64 A8):=(AK BK227.out 0).trans rfl
          have hcz13_1:wc.cell? ⟨gb227,1,none⟩=some (.slice A0_1 l0_1.length c0_1):=(AK BK227.out 1).trans rfl
          have hfz13_0:=AJ BK227.out 0
          have hfz13_1:=AJ BK227.out 1
          have p228:0≤(x3_1:Int):=of_decide_eq_true zA
          have q228:x3_1<(l0_1.length:Int):=of_decide_eq_true zA
          obtain ⟨ad228,A228_3,c228_3,e228,hx228_0,hx228_1,hx228_2,hx228_3,hl228_3,hi228_3⟩:=BR HR0_1.out x3_1 p228 q228
          cases e228
          replace hx228_0:=(HB.out.cell (World.block_lt_of_cell? w _ hx228_0)).trans hx228_0
          replace hx228_1:=(HB.out.cell (World.block_lt_of_cell? w _ hx228_1)).trans hx228_1
          replace hx228_2:=(HB.out.cell (World.block_lt_of_cell? w _ hx228_2)).trans hx228_2
          replace hx228_3:=(HB.out.cell (World.block_lt_of_cell? w _ hx228_3)).trans hx228_3
          have HR228_3:=Aside0.mk hi228_3
          have HC228_3:=Aside0.mk hl228_3
          clear hi228_3 hl228_3
          replace p228:=eq_true p228
          replace q228:=eq_true q228
          have p229:0≤(x3_1:Int):=of_decide_eq_true zA
          have q229:x3_1<(l0_1.length:Int):=of_decide_eq_true zA
          obtain ⟨ad229,A229_3,c229_3,e229,hx229_0,hx229_1,hx229_2,hx229_3,hl229_3,hi229_3⟩:=BR HR0_1.out x3_1 p229 q229
          obtain rfl:ad228=ad229:=(by injection e229)
          replace hx229_0:=(HB.out.cell (World.block_lt_of_cell? w _ hx229_0)).trans hx229_0
          replace hx229_1:=(HB.out.cell (World.block_lt_of_cell? w _ hx229_1)).trans hx229_1
          replace hx229_2:=(HB.out.cell (World.block_lt_of_cell? w _ hx229_2)).trans hx229_2
          replace hx229_3:=(HB.out.cell (World.block_lt_of_cell? w _ hx229_3)).trans hx229_3
          have HR229_3:=Aside0.mk hi229_3
          have HC229_3:=Aside0.mk hl229_3
          clear hi229_3 hl229_3
          replace p229:=eq_true p229
          replace q229:=eq_true q229
          have ea_:=Option.some.inj (hx228_3.symm.trans hx229_3)
          injection ea_ with ea_ en_ ec_
          subst ea_
          subst ec_
          clear en_
          go_wp2
          go_ret
          exact ⟨by first|rfl|(simp [AU,AT]<;>rfl)|(simp [*,AU,AT]<;>rfl),by repeat (first|(with_reducible first|exact HB.out|apply AE|apply AC|apply AD|refine AI ?_ GE227.out)|exact HB.out)⟩
         ·rw [if_neg c12] at H
          have c12b0:decide (42<(((AL l0_1 x3_1).f3).length:Int))=false:=decide_eq_false c12
          have c12b1:decide (42<((AL l0_1 x3_1).f3).length)=false:=decide_eq_false zG
          clear c12
          have H':=Aside0.mk H
          clear H
          have hcz14_0:wc.cell? ⟨gb227,0,none⟩=some (.int .i64 A8):=(AK BK227.out 0).trans rfl
          have hcz14_1:wc.cell? ⟨gb227,1,none⟩=some (.slice A0_1 l0_1.length c0_1):=(AK BK227.out 1).trans rfl
          have hfz14_0:=AJ BK227.out 0
          have hfz14_1:=AJ BK227.out 1
          have p228:0≤(x3_1:Int):=of_decide_eq_true zA
          have q228:x3_1<(l0_1.length:Int):=of_decide_eq_true zA
          obtain ⟨ad228,A228_3,c228_3,e228,hx228_0,hx228_1,hx228_2,hx228_3,hl228_3,hi228_3⟩:=BR HR0_1.out x3_1 p228 q228
          cases e228
          replace hx228_0:=(HB.out.cell (World.block_lt_of_cell? w _ hx228_0)).trans hx228_0
          replace hx228_1:=(HB.out.cell (World.block_lt_of_cell? w _ hx228_1)).trans hx228_1
          replace hx228_2:=(HB.out.cell (World.block_lt_of_cell? w _ hx228_2)).trans hx228_2
          replace hx228_3:=(HB.out.cell (World.block_lt_of_cell? w _ hx228_3)).trans hx228_3
          have HR228_3:=Aside0.mk hi228_3
          have HC228_3:=Aside0.mk hl228_3
          clear hi228_3 hl228_3
          replace p228:=eq_true p228
          replace q228:=eq_true q228
          have p229:0≤(x3_1:Int):=of_decide_eq_true zA
          have q229:x3_1<(l0_1.length:Int):=of_decide_eq_true zA
          obtain ⟨ad229,A229_3,c229_3,e229,hx229_0,hx229_1,hx229_2,hx229_3,hl229_3,hi229_3⟩:=BR HR0_1.out x3_1 p229 q229
          obtain rfl:ad228=ad229:=(by injection e229)
          replace hx229_0:=(HB.out.cell (World.block_lt_of_cell? w _ hx229_0)).trans hx229_0
          replace hx229_1:=(HB.out.cell (World.block_lt_of_cell? w _ hx229_1)).trans hx229_1
          replace hx229_2:=(HB.out.cell (World.block_lt_of_cell? w _ hx229_2)).trans hx229_2
          replace hx229_3:=(HB.out.cell (World.block_lt_of_cell? w _ hx229_3)).trans hx229_3
          have HR229_3:=Aside0.mk hi229_3
          have HC229_3:=Aside0.mk hl229_3
          clear hi229_3 hl229_3
          replace p229:=eq_true p229
          replace q229:=eq_true q229
          have ea_:=Option.some.inj (hx228_3.symm.trans hx229_3)
          injection ea_ with ea_ en_ ec_
          subst ea_
          subst ec_
          clear en_
          go_wp2
          go_roundg kj2
          case measure=>have:=HK1.out; have:=HJ2.out; omega
          case rel=>exact ⟨(wrap64 (x3_1+1)),zF,H',⟨by have:=HK1.out; have:=HJ2.out; omega⟩,⟨by (with_reducible repeat (first|refine AF ?_ _|refine AH ?_|refine AG ?_ _)); exact BK227.out⟩,⟨by repeat (first|(with_reducible first|exact HB.out|apply AE|apply AC|apply AD|refine AI ?_ GE227.out)|exact HB.out)⟩⟩
       ·rw [if_neg c9] at H
        exact absurd H zY
      ·rw [if_neg c8] at H
       exact absurd H zY
     ·replace c7:=Bool.eq_false_iff.mpr c7
      subst c7
      have H1:(some (decide ((l0_1.length:Int)≤42)))=some r:=by rw [if_neg (show ¬(false=true) by decide)] at H; exact H
      clear H
      have H:=H1
      clear H1
      obtain rfl:=Option.some.inj H
      have hcz15_0:wc.cell? ⟨gb227,0,none⟩=some (.int .i64 A8):=(AK BK227.out 0).trans rfl
      have hcz15_1:wc.cell? ⟨gb227,1,none⟩=some (.slice A0_1 l0_1.length c0_1):=(AK BK227.out 1).trans rfl
      have hfz15_0:=AJ BK227.out 0
      have hfz15_1:=AJ BK227.out 1
      go_wp2
      go_ret
      exact ⟨by first|rfl|(simp [AU,AT]<;>rfl)|(simp [*,AU,AT]<;>rfl),by repeat (first|(with_reducible first|exact HB.out|apply AE|apply AC|apply AD|refine AI ?_ GE227.out)|exact HB.out)⟩
def Ax.l0:Nat→List (S42)→Int→Int→Int→List (S64)→Option (Int×(List (S64)))
 |0,_,_,_,_,_=>none
 |k+1,x10,x11,x12,x233000,x233001=>if x12<x11 then (if 0≤x12 then (if x12<(x10.length:Int) then (if x233001.length<2513169434916 then (Ax.l0 k x10 x11 (wrap64 (x12+1)) x233000 (x233001++[(⟨(AL x10 x12).f0,(AL x10 x12).f1,(AL x10 x12).f2,(AL x10 x12).f3⟩:S64)])) else (none)) else (none)) else (none)) else (some (x233000,x233001))
def Ax.f (k:Nat) (A8:Int) (l0_1:List (S42)):Option (Int×(List (S64))):=Ax.l0 k l0_1 (l0_1.length:Int) 0 A8 ([]:List (S64))
set_option maxHeartbeats 8000000 in
theorem Ax.calls (k:Nat) (A8:Int) (P0_1_:Nat→Prop) (A0_1:Option Addr) (c0_1:Nat) (l0_1:List (S42)) (r1:Int) (r2:List (S64)) (w:World) (hs0_1:Kd.V k42 42 w w.heap.size (fun k_=>P0_1_ k_) (.slice A0_1 l0_1.length c0_1) l0_1) (h:Ax.f k A8 l0_1=some (r1,r2)):
  Calls Try.prog 12 #[.agg #[.int .i64 A8,.slice A0_1 l0_1.length c0_1]] w fun e w'=>∃v1_:Value,e= .returned (.agg #[.int .i64 r1,v1_])∧Kd.N k64 64 w' w.heap.size (fun k_=>(P0_1_ k_∨w.heap.size≤k_)) v1_ r2∧Below w.heap.size w w':=by
 have hu24:=Try.underlying24
 have hu34:=Try.underlying34
 have hu42:=Try.underlying42
 have HO0_1:=Aside0.mk (show Kd.V k42 42 w w.heap.size (fun k_=>(P0_1_ k_∨w.heap.size≤k_)) (.slice A0_1 l0_1.length c0_1) l0_1 from Kd.V_mono hs0_1 (fun k_ hk=> .inl hk))
 have HB:=Aside0.mk (Below.refl w.heap.size w)
 have H:(Ax.l0 k l0_1 (l0_1.length:Int) 0 A8 ([]:List (S64)))=some (r1,r2):=h
 clear h
 have H':=Aside0.mk H
 clear H
 go_enter Try.func12,Try.ntmps12
 go_wp2_with (first|((with_reducible refine Ap (N:=1) rfl ?_); refine Ar ?hg (N:=1) ?hd (cs:= #[.int .i64 A8,.slice A0_1 l0_1.length c0_1]) (t:=24) ?hr ?_; (case hd=>rfl); (case hg=>rfl); (case hr=>first|(go_simp; done)|(go_simp; rfl)); intro gb230 hg w2 hbox hb; have n0_:=Aside0.mk (Kd.V_below (Kd.V_elderB (by (with_reducible repeat (first|apply Kd.V_alloc|apply Kd.V_drewN|apply Kd.V_drew)); exact HO0_1.out) gb230 (Nat.le_of_eq hg.symm)) hb); have n1_:=Aside0.mk (AN zB hb); have n2_:=Aside0.mk (hbox); have n3_:=Aside0.mk ((by rw [hg]; exact (AQ zB):w.heap.size≤gb230)); have n4_:=Aside0.mk ((by rw [hg]; exact (AQ zB):w.heap.size≤gb230)); clear HO0_1; clear HB; have HO0_1:=n0_; have HB:=n1_; have BK230:=n2_; have GW230:=n3_; have GE230:=n4_; clear n0_ n1_ n2_ n3_ n4_; clear hb hbox hg)|((with_reducible refine Ap (N:=2) rfl ?_); refine Ar ?hg (N:=2) ?hd (cs:= #[.int .i64 0,.slice none 0 0]) (t:=34) ?hr ?_; (case hd=>rfl); (case hg=>rfl); (case hr=>first|(go_simp; done)|(go_simp; rfl)); intro gb231 hg w3 hbox hb; have n0_:=Aside0.mk (Kd.V_below (Kd.V_elderB (by (with_reducible repeat (first|apply Kd.V_alloc|apply Kd.V_drewN|apply Kd.V_drew)); exact HO0_1.out) gb231 (Nat.le_of_eq hg.symm)) hb); have n1_:=Aside0.mk (AP (g:=gb230) (o:= .cells #[.int .i64 A8,.slice A0_1 l0_1.length c0_1] 24 (0,0)) zA6 hb); have n2_:=Aside0.mk (AN (by repeat (first|(with_reducible first|exact HB.out|apply AE|apply AC|apply AD|refine AI ?_ GE230.out)|exact HB.out)) hb); have n3_:=Aside0.mk (hbox); have n4_:=Aside0.mk ((by rw [hg]; exact (AQ (by repeat (first|(with_reducible first|exact HB.out|apply AE|apply AC|apply AD|refine AI ?_ GE230.out)|exact HB.out))):w.heap.size≤gb231)); have n5_:=Aside0.mk ((by rw [hg]; exact (AQ (by repeat (first|(with_reducible first|exact HB.out|apply AE|apply AC|apply AD|refine AI ?_ GE230.out)|exact HB.out))):w.heap.size≤gb231)); have n6_:=Aside0.mk ((by rw [hg]; exact Nat.ne_of_lt (B5 (g:=gb230) (o:= .cells #[.int .i64 A8,.slice A0_1 l0_1.length c0_1] 24 (0,0)) zA6):gb230≠gb231)); have n7_:=Aside0.mk ((by rw [hg]; exact Nat.ne_of_gt (B5 (g:=gb230) (o:= .cells #[.int .i64 A8,.slice A0_1 l0_1.length c0_1] 24 (0,0)) zA6):gb231≠gb230)); clear HO0_1; clear BK230; clear HB; have HO0_1:=n0_; have BK230:=n1_; have HB:=n2_; have BK231:=n3_; have GW231:=n4_; have GE231:=n5_; have NB230_231:=n6_; have NB231_230:=n7_; clear n0_ n1_ n2_ n3_ n4_ n5_ n6_ n7_; clear hb hbox hg; have hnb4:=NB230_231.out; have hnc4:=NB231_230.out; have hcz5_0:w3.cell? ⟨gb230,0,none⟩=some (.int .i64 A8):=(AK BK230.out 0).trans rfl; have hcz5_1:w3.cell? ⟨gb230,1,none⟩=some (.slice A0_1 l0_1.length c0_1):=(AK BK230.out 1).trans rfl; have hfz5_0:=AJ BK230.out 0; have hfz5_1:=AJ BK230.out 1)|((with_reducible refine Ap (N:=3) rfl ?_); refine Ar ?hg (N:=3) ?hd (cs:= #[.int .i64 0,.slice none 0 0]) (t:=34) ?hr ?_; (case hd=>rfl); (case hg=>rfl); (case hr=>first|(go_simp; done)|(go_simp; rfl)); intro gb232 hg w6 hbox hb; have n0_:=Aside0.mk (Kd.V_below (Kd.V_elderB (by (with_reducible repeat (first|apply Kd.V_alloc|apply Kd.V_drewN|apply Kd.V_drew)); exact HO0_1.out) gb232 (Nat.le_of_eq hg.symm)) hb); have n1_:=Aside0.mk (AP (g:=gb230) (o:= .cells #[.int .i64 A8,.slice A0_1 l0_1.length c0_1] 24 (0,0)) zA6 hb); have n2_:=Aside0.mk (AP (g:=gb231) (o:= .cells #[.int .i64 0,.slice none 0 0] 34 (0,0)) zB4 hb); have n3_:=Aside0.mk (AN (by repeat (first|(with_reducible first|exact HB.out|apply AE|apply AC|apply AD|refine AI ?_ GE230.out|refine AI ?_ GE231.out)|exact HB.out)) hb); have n4_:=Aside0.mk (hbox); have n5_:=Aside0.mk ((by rw [hg]; exact (AQ (by repeat (first|(with_reducible first|exact HB.out|apply AE|apply AC|apply AD|refine AI ?_ GE230.out|refine AI ?_ GE231.out)|exact HB.out))):w.heap.size≤gb232)); have n6_:=Aside0.mk ((by rw [hg]; exact (AQ (by repeat (first|(with_reducible first|exact HB.out|apply AE|apply AC|apply AD|refine AI ?_ GE230.out|refine AI ?_ GE231.out)|exact HB.out))):w.heap.size≤gb232)); have n7_:=Aside0.mk ((by rw [hg]; exact Nat.ne_of_lt (B5 (g:=gb230) (o:= .cells #[.int .i64 A8,.slice A0_1 l0_1.length c0_1] 24 (0,0)) zA6):gb230≠gb232)); have n8_:=Aside0.mk ((by rw [hg]; exact Nat.ne_of_gt (B5 (g:=gb230) (o:= .cells #[.int .i64 A8,.slice A0_1 l0_1.length c0_1] 24 (0,0)) zA6):gb232≠gb230)); have n9_:=Aside0.mk ((by rw [hg]; exact Nat.ne_of_lt (B5 (g:=gb231) (o:= .cells #[.int .i64 0,.slice none 0 0] 34 (0,0)) zB4):gb231≠gb232)); have n10_:=Aside0.mk ((by rw [hg]; exact Nat.ne_of_gt (B5 (g:=gb231) (o:= .cells #[.int .i64 0,.slice none 0 0] 34 (0,0)) zB4):gb232≠gb231)); clear HO0_1; clear BK230; clear BK231; clear HB; have HO0_1:=n0_; have BK230:=n1_; have BK231:=n2_; have HB:=n3_; have BK232:=n4_; have GW232:=n5_; have GE232:=n6_; have NB230_232:=n7_; have NB232_230:=n8_; have NB231_232:=n9_; have NB232_231:=n10_; clear n0_ n1_ n2_ n3_ n4_ n5_ n6_ n7_ n8_ n9_ n10_; clear hb hbox hg; have hnb7:=NB232_230.out; have hnc7:=NB230_232.out; have hnb8:=NB232_231.out; have hnc8:=NB231_232.out; have hcz9_0:w6.cell? ⟨gb232,0,none⟩=some (.int .i64 0):=(AK BK232.out 0).trans rfl; have hcz9_1:w6.cell? ⟨gb232,1,none⟩=some (.slice none 0 0):=(AK BK232.out 1).trans rfl; have hfz9_0:=AJ BK232.out 0; have hfz9_1:=AJ BK232.out 1; have hcz10_0:w6.cell? ⟨gb230,0,none⟩=some (.int .i64 A8):=(AK BK230.out 0).trans rfl; have hcz10_1:w6.cell? ⟨gb230,1,none⟩=some (.slice A0_1 l0_1.length c0_1):=(AK BK230.out 1).trans rfl; have hfz10_0:=AJ BK230.out 0; have hfz10_1:=AJ BK230.out 1))
 go_loopg [12] k (fun kq v12 w'=>∃(x12_1:Int) (x233001_1:List (S64)) (u233001:Value),v12= .int .i64 x12_1∧Aside0 (Ax.l0 kq l0_1 (l0_1.length:Int) x12_1 A8 x233001_1=some (r1,r2))∧Aside0 (kq≤k)∧Aside0 (Kd.V k42 42 w' w.heap.size (fun k_=>(P0_1_ k_∨w.heap.size≤k_)∧some k_≠(u233001:Value).ownBlock∧k_≠gb230∧k_≠gb231∧k_≠gb232) (.slice A0_1 l0_1.length c0_1) l0_1)∧Aside0 (Kd.V k42 42 w' w.heap.size (fun k_=>(P0_1_ k_∨w.heap.size≤k_)∧some k_≠(u233001:Value).ownBlock∧k_≠gb230∧k_≠gb231∧k_≠gb232) (.slice A0_1 l0_1.length c0_1) l0_1)∧Aside0 (Kd.N k64 64 w' w.heap.size (fun k_=>(P0_1_ k_∨w.heap.size≤k_)∧k_≠gb230∧k_≠gb231∧k_≠gb232) u233001 x233001_1)∧Aside0 (w'.heap[gb230]? =some (.cells #[.int .i64 A8,(.slice A0_1 l0_1.length c0_1)] 24 (0,0)))∧Aside0 (w'.heap[gb231]? =some (.cells #[.int .i64 0,(.slice none 0 0)] 34 (0,0)))∧Aside0 (w'.heap[gb232]? =some (.cells #[.int .i64 A8,u233001] 34 (0,0)))∧Aside0 (Below w.heap.size w w'))
 case atStart=>exact ⟨(0),(([]:List (S64))),(.slice none 0 0),zF,H',⟨Nat.le_refl _⟩,⟨by (with_reducible repeat (first|apply Kd.V_alloc|apply Kd.V_drewN|apply Kd.V_drew)); exact Kd.V_mono (Kd.V_far (p:=⟨gb232,1,none⟩) (Kd.V_far (p:=⟨gb232,0,none⟩) (Kd.V_mono HO0_1.out (fun k_ hk=>(⟨hk,hk.2⟩:_∧k_≠gb232))) (fun _ hk=>hk.2) (.int .i64 A8)) (fun _ hk=>hk.2) (.slice none 0 0)) (fun _ hk=>⟨hk.1.1.1.1,⟨(by simp [Value.ownBlock]),⟨hk.1.1.1.2,⟨hk.1.1.2,hk.1.2⟩⟩⟩⟩)⟩,⟨by (with_reducible repeat (first|apply Kd.V_alloc|apply Kd.V_drewN|apply Kd.V_drew)); exact Kd.V_mono (Kd.V_far (p:=⟨gb232,1,none⟩) (Kd.V_far (p:=⟨gb232,0,none⟩) (Kd.V_mono HO0_1.out (fun k_ hk=>(⟨hk,hk.2⟩:_∧k_≠gb232))) (fun _ hk=>hk.2) (.int .i64 A8)) (fun _ hk=>hk.2) (.slice none 0 0)) (fun _ hk=>⟨hk.1.1.1.1,⟨(by simp [Value.ownBlock]),⟨hk.1.1.1.2,⟨hk.1.1.2,hk.1.2⟩⟩⟩⟩)⟩,⟨by first|exact Kd.S_nil _ _ _ _ _|exact Kd.N_nil _ _ _ _ _|exact Kd.V_nil _ _ _ _ _|exact Kd.Q_nil _ _ _ _ _|exact Kd.R_nil _ _ _ _ _⟩,⟨by (with_reducible repeat (first|refine AF ?_ _|refine AH ?_|refine AG ?_ _)); refine AV ?_ NB230_232.out _; (with_reducible repeat (first|refine AF ?_ _|refine AH ?_|refine AG ?_ _)); refine AV ?_ NB230_232.out _; (with_reducible repeat (first|refine AF ?_ _|refine AH ?_|refine AG ?_ _)); exact BK230.out⟩,⟨by (with_reducible repeat (first|refine AF ?_ _|refine AH ?_|refine AG ?_ _)); refine AV ?_ NB231_232.out _; (with_reducible repeat (first|refine AF ?_ _|refine AH ?_|refine AG ?_ _)); refine AV ?_ NB231_232.out _; (with_reducible repeat (first|refine AF ?_ _|refine AH ?_|refine AG ?_ _)); exact BK231.out⟩,⟨by (with_reducible repeat (first|refine AF ?_ _|refine AH ?_|refine AG ?_ _)); refine Al (cs:= #[.int .i64 A8,.slice none 0 0]) ?_ 1 _ rfl; (with_reducible repeat (first|refine AF ?_ _|refine AH ?_|refine AG ?_ _)); refine Al (cs:= #[.int .i64 0,.slice none 0 0]) ?_ 0 _ rfl; (with_reducible repeat (first|refine AF ?_ _|refine AH ?_|refine AG ?_ _)); exact BK232.out⟩,⟨by repeat (first|(with_reducible first|exact HB.out|apply AE|apply AC|apply AD|refine AI ?_ GE230.out|refine AI ?_ GE231.out|refine AI ?_ GE232.out)|exact HB.out)⟩⟩
 case round=>
  clear H'
  try clear c1
  try clear p2
  try clear c4
  try clear c7
  try clear c8
  try clear hcz10_0
  try clear hcz10_1
  try clear hcz5_0
  try clear hcz5_1
  try clear hcz9_0
  try clear hcz9_1
  try clear hfz10_0
  try clear hfz10_1
  try clear hfz5_0
  try clear hfz5_1
  try clear hfz9_0
  try clear hfz9_1
  obtain ⟨x12_1,x233001_1,u233001,rfl,HA,HK1,HO_10,HO_231001,HO_233001,BK230,BK231,BK232,HB⟩:=hrel
  cases gk with
  |zero=>exact absurd HA.out (by simp [Ax.l0])
  | succ k1 =>
   have H:=HA.out
   clear HA
   simp only [Ax.l0] at H
   by_cases c11:x12_1<(l0_1.length:Int)
   ·rw [if_pos c11] at H
    have c11b0:decide (x12_1<(l0_1.length:Int))=true:=decide_eq_true c11
    clear c11
    by_cases c12:0≤x12_1
    ·rw [if_pos c12] at H
     have c12b0:decide (0≤x12_1)=true:=decide_eq_true c12
     clear c12
     by_cases c13:x12_1<(l0_1.length:Int)
     ·rw [if_pos c13] at H
      have c13b0:decide (x12_1<(l0_1.length:Int))=true:=decide_eq_true c13
      clear c13
      by_cases c14:x233001_1.length<2513169434916
      ·rw [if_pos c14] at H
       have LMc14:=Aside0.mk c14
       clear c14
       obtain ⟨y235,hy235⟩:∃y_:List (S64),y_=(x233001_1++[(⟨(AL l0_1 x12_1).f0,(AL l0_1 x12_1).f1,(AL l0_1 x12_1).f2,(AL l0_1 x12_1).f3⟩:S64)]):=⟨_,rfl⟩
       replace H:(Ax.l0 k1 l0_1 (l0_1.length:Int) (wrap64 (x12_1+1)) A8 y235)=some (r1,r2):=by first|(rw [hy235]; with_reducible exact H)|(have H2_:=(Option.bind_some _ _).symm.trans H; rw [hy235]; with_reducible exact H2_)|(have H2_:=(Option.bind_some _ _).symm.trans H; with_reducible exact H2_)|with_reducible exact H|(rw [hy235]; exact H)|exact H
       have Ny235:=Aside0.mk hy235
       clear hy235
       have H':=Aside0.mk H
       clear H
       have p233:0≤(x12_1:Int):=of_decide_eq_true zA
       have q233:x12_1<(l0_1.length:Int):=of_decide_eq_true zA
       obtain ⟨ad233,A233_3,c233_3,e233,hx233_0,hx233_1,hx233_2,hx233_3,hl233_3,hi233_3⟩:=BR (Kd.V_reads' HO_10.out).2.2 x12_1 p233 q233
       cases e233
       obtain ⟨ce233,hce233,hMe233,hcc233⟩:=Kd.V_get HO_10.out z42 x12_1 p233 (by first|exact q233|exact of_decide_eq_true zA|(have e_:=(Kd.V_reads' HO_10.out).1; omega))
       obtain ⟨ua233_3,uc233_3,rfl,ul233_3,ge233_3⟩:=Fy hMe233
       have hv233_3:=hcc233 3 _ rfl
       rw [Bz _ _ 3 zG] at hv233_3
       replace hv233_3:=Option.some.inj (hv233_3.symm.trans hx233_3)
       injection hv233_3 with hva_ hvn_ hvc_
       rw [hva_] at ge233_3
       rw [hvc_] at ul233_3
       have HL233_3:=Aside0.mk (show Kd.V (Kd.int .i64) 3 _ w.heap.size _ _ ((AL l0_1 x12_1).f3) from Kd.V_mk ul233_3 ge233_3)
       clear hva_ hvn_ hvc_ ge233_3 ul233_3
       clear hcc233 hce233
       have HR233_3:=Aside0.mk hi233_3
       have HC233_3:=Aside0.mk hl233_3
       clear hi233_3 hl233_3
       replace p233:=eq_true p233
       replace q233:=eq_true q233
       go_wp2_with (first|((with_reducible refine Ap (N:=5) rfl ?_); refine Ar ?hg (N:=5) ?hd (cs:= #[.string (⟨#[]⟩:ByteArray),.int .i64 0,.int .i64 0,.slice none 0 0]) (t:=42) ?hr ?_; (case hd=>rfl); (case hg=>rfl); (case hr=>first|(go_simp; done)|(go_simp; rfl)); intro gb234 hg w15 hbox hb; have n0_:=Aside0.mk (Kd.V_below (Kd.V_elderB (by (with_reducible repeat (first|apply Kd.V_alloc|apply Kd.V_drewN|apply Kd.V_drew)); exact HO_10.out) gb234 (Nat.le_of_eq hg.symm)) hb); have n1_:=Aside0.mk (Kd.V_below (Kd.V_elderB (by (with_reducible repeat (first|apply Kd.V_alloc|apply Kd.V_drewN|apply Kd.V_drew)); exact HO_231001.out) gb234 (Nat.le_of_eq hg.symm)) hb); have n2_:=Aside0.mk (Kd.N_below (Kd.N_elderB (by (with_reducible repeat (first|apply Kd.N_alloc|apply Kd.N_drewN|apply Kd.N_drew)); exact HO_233001.out) gb234 (Nat.le_of_eq hg.symm)) hb); have n3_:=Aside0.mk (Kd.V_below (Kd.V_elderB (by (with_reducible repeat (first|apply Kd.V_alloc|apply Kd.V_drewN|apply Kd.V_drew)); exact HL233_3.out) gb234 (Nat.le_of_eq hg.symm)) hb); have n4_:=Aside0.mk (AP (g:=gb230) (o:= .cells #[.int .i64 A8,.slice (some ad233) l0_1.length c0_1] 24 (0,0)) zA6 hb); have n5_:=Aside0.mk (AP (g:=gb231) (o:= .cells #[.int .i64 0,.slice none 0 0] 34 (0,0)) zB4 hb); have n6_:=Aside0.mk (AP (g:=gb232) (o:= .cells #[.int .i64 A8,u233001] 34 (0,0)) (by (with_reducible repeat (first|refine AF ?_ _|refine AH ?_|refine AG ?_ _)); exact BK232.out) hb); have n7_:=Aside0.mk (Kd.C_below (by repeat (first|(with_reducible exact HR233_3.out)|(with_reducible refine Kd.C_alloc ?_ _)|(with_reducible refine Kd.C_drewN ?_ _)|(with_reducible refine Kd.C_drew ?_)|exact HR233_3.out)) hb); have n8_:=Aside0.mk (AN (by repeat (first|(with_reducible first|exact HB.out|apply AE|apply AC|apply AD|refine AI ?_ GE230.out|refine AI ?_ GE231.out|refine AI ?_ GE232.out)|exact HB.out)) hb); have n9_:=Aside0.mk (hbox); have n10_:=Aside0.mk ((by rw [hg]; exact (AQ (by repeat (first|(with_reducible first|exact HB.out|apply AE|apply AC|apply AD|refine AI ?_ GE230.out|refine AI ?_ GE231.out|refine AI ?_ GE232.out)|exact HB.out))):w.heap.size≤gb234)); have n11_:=Aside0.mk ((by rw [hg]; exact (AQ (by repeat (first|(with_reducible first|exact HB.out|apply AE|apply AC|apply AD|refine AI ?_ GE230.out|refine AI ?_ GE231.out|refine AI ?_ GE232.out)|exact HB.out))):w.heap.size≤gb234)); have n12_:=Aside0.mk ((by rw [hg]; exact Nat.ne_of_lt (B5 (g:=gb230) (o:= .cells #[.int .i64 A8,.slice (some ad233) l0_1.length c0_1] 24 (0,0)) zA6):gb230≠gb234)); have n13_:=Aside0.mk ((by rw [hg]; exact Nat.ne_of_gt (B5 (g:=gb230) (o:= .cells #[.int .i64 A8,.slice (some ad233) l0_1.length c0_1] 24 (0,0)) zA6):gb234≠gb230)); have n14_:=Aside0.mk ((by rw [hg]; exact Nat.ne_of_lt (B5 (g:=gb231) (o:= .cells #[.int .i64 0,.slice none 0 0] 34 (0,0)) zB4):gb231≠gb234)); have n15_:=Aside0.mk ((by rw [hg]; exact Nat.ne_of_gt (B5 (g:=gb231) (o:= .cells #[.int .i64 0,.slice none 0 0] 34 (0,0)) zB4):gb234≠gb231)); have n16_:=Aside0.mk ((by rw [hg]; exact Nat.ne_of_lt (B5 (g:=gb232) (o:= .cells #[.int .i64 A8,u233001] 34 (0,0)) (by (with_reducible repeat (first|refine AF ?_ _|refine AH ?_|refine AG ?_ _)); exact BK232.out)):gb232≠gb234)); have n17_:=Aside0.mk ((by rw [hg]; exact Nat.ne_of_gt (B5 (g:=gb232) (o:= .cells #[.int .i64 A8,u233001] 34 (0,0)) (by (with_reducible repeat (first|refine AF ?_ _|refine AH ?_|refine AG ?_ _)); exact BK232.out)):gb234≠gb232)); clear HO_10; clear HO_231001; clear HO_233001; clear HL233_3; clear BK230; clear BK231; clear BK232; clear HR233_3; clear HB; have HO_10:=n0_; have HO_231001:=n1_; have HO_233001:=n2_; have HL233_3:=n3_; have BK230:=n4_; have BK231:=n5_; have BK232:=n6_; have HR233_3:=n7_; have HB:=n8_; have BK234:=n9_; have GW234:=n10_; have GE234:=n11_; have NB230_234:=n12_; have NB234_230:=n13_; have NB231_234:=n14_; have NB234_231:=n15_; have NB232_234:=n16_; have NB234_232:=n17_; clear n0_ n1_ n2_ n3_ n4_ n5_ n6_ n7_ n8_ n9_ n10_ n11_ n12_ n13_ n14_ n15_ n16_ n17_; clear hb hbox hg; have hnb16:=NB234_230.out; have hnc16:=NB230_234.out; have hnb17:=NB234_231.out; have hnc17:=NB231_234.out; have hnb18:=NB234_232.out; have hnc18:=NB232_234.out; have hcz19_0:w15.cell? ⟨gb234,0,none⟩=some (.string (⟨#[]⟩:ByteArray)):=(AK BK234.out 0).trans rfl; have hcz19_1:w15.cell? ⟨gb234,1,none⟩=some (.int .i64 0):=(AK BK234.out 1).trans rfl; have hcz19_2:w15.cell? ⟨gb234,2,none⟩=some (.int .i64 0):=(AK BK234.out 2).trans rfl; have hcz19_3:w15.cell? ⟨gb234,3,none⟩=some (.slice none 0 0):=(AK BK234.out 3).trans rfl; have hfz19_0:=AJ BK234.out 0; have hfz19_1:=AJ BK234.out 1; have hfz19_2:=AJ BK234.out 2; have hfz19_3:=AJ BK234.out 3)|((with_reducible refine BW (t:=42) (p:=5) rfl ?_); refine BV (t:=42) (p:=5) (v:= ?vo_w20) (w1:=((((w15.setCell ⟨gb234,0,none⟩ (.string ((AL l0_1 x12_1).f0))).setCell ⟨gb234,1,none⟩ (.int .i64 ((AL l0_1 x12_1).f1))).setCell ⟨gb234,2,none⟩ (.int .i64 ((AL l0_1 x12_1).f2))).setCell ⟨gb234,3,none⟩ (.slice A233_3 ((AL l0_1 x12_1).f3).length c233_3))) ?hg ?ho ?hn ?hr ?_; (case ho=>rfl); (case hg=>rfl); (case hn=>rfl); (case hr=>first|(go_simp; done)|(go_simp; rfl)); intro w20 hw; have n0_:Aside0 (Kd.V k42 42 w20 w.heap.size (fun k_=>(P0_1_ k_∨w.heap.size≤k_)∧some k_≠(u233001:Value).ownBlock∧k_≠gb230∧k_≠gb231∧k_≠gb232∧k_≠gb234) (.slice (some ad233) l0_1.length c0_1) l0_1):=⟨(by rw [hw]; exact (by (with_reducible repeat (first|apply Kd.V_alloc|apply Kd.V_drewN|apply Kd.V_drew)); exact Kd.V_mono (Kd.V_far (p:=⟨gb234,3,none⟩) (Kd.V_far (p:=⟨gb234,2,none⟩) (Kd.V_far (p:=⟨gb234,1,none⟩) (Kd.V_far (p:=⟨gb234,0,none⟩) (Kd.V_mono HO_10.out (fun k_ hk=>(⟨hk,hk.2⟩:_∧k_≠gb234))) (fun _ hk=>hk.2) (.string ((AL l0_1 x12_1).f0))) (fun _ hk=>hk.2) (.int .i64 ((AL l0_1 x12_1).f1))) (fun _ hk=>hk.2) (.int .i64 ((AL l0_1 x12_1).f2))) (fun _ hk=>hk.2) (.slice A233_3 ((AL l0_1 x12_1).f3).length c233_3)) (fun _ hk=>⟨hk.1.1.1,⟨hk.1.1.2.1,⟨hk.1.1.2.2.1,⟨hk.1.1.2.2.2.1,⟨hk.1.1.2.2.2.2,hk.1.2⟩⟩⟩⟩⟩)))⟩; have n1_:Aside0 (Kd.V k42 42 w20 w.heap.size (fun k_=>(P0_1_ k_∨w.heap.size≤k_)∧some k_≠(u233001:Value).ownBlock∧k_≠gb230∧k_≠gb231∧k_≠gb232∧k_≠gb234) (.slice (some ad233) l0_1.length c0_1) l0_1):=⟨(by rw [hw]; exact (by (with_reducible repeat (first|apply Kd.V_alloc|apply Kd.V_drewN|apply Kd.V_drew)); exact Kd.V_mono (Kd.V_far (p:=⟨gb234,3,none⟩) (Kd.V_far (p:=⟨gb234,2,none⟩) (Kd.V_far (p:=⟨gb234,1,none⟩) (Kd.V_far (p:=⟨gb234,0,none⟩) (Kd.V_mono HO_231001.out (fun k_ hk=>(⟨hk,hk.2⟩:_∧k_≠gb234))) (fun _ hk=>hk.2) (.string ((AL l0_1 x12_1).f0))) (fun _ hk=>hk.2) (.int .i64 ((AL l0_1 x12_1).f1))) (fun _ hk=>hk.2) (.int .i64 ((AL l0_1 x12_1).f2))) (fun _ hk=>hk.2) (.slice A233_3 ((AL l0_1 x12_1).f3).length c233_3)) (fun _ hk=>⟨hk.1.1.1,⟨hk.1.1.2.1,⟨hk.1.1.2.2.1,⟨hk.1.1.2.2.2.1,⟨hk.1.1.2.2.2.2,hk.1.2⟩⟩⟩⟩⟩)))⟩; have n2_:Aside0 (Kd.N k64 64 w20 w.heap.size (fun k_=>(P0_1_ k_∨w.heap.size≤k_)∧k_≠gb230∧k_≠gb231∧k_≠gb232∧k_≠gb234) u233001 x233001_1):=⟨(by rw [hw]; exact (by (with_reducible repeat (first|apply Kd.N_alloc|apply Kd.N_drewN|apply Kd.N_drew)); exact Kd.N_mono (Kd.N_far (p:=⟨gb234,3,none⟩) (Kd.N_far (p:=⟨gb234,2,none⟩) (Kd.N_far (p:=⟨gb234,1,none⟩) (Kd.N_far (p:=⟨gb234,0,none⟩) (Kd.N_mono HO_233001.out (fun k_ hk=>(⟨hk,hk.2⟩:_∧k_≠gb234))) (fun _ hk=>hk.2) (.string ((AL l0_1 x12_1).f0))) (fun _ hk=>hk.2) (.int .i64 ((AL l0_1 x12_1).f1))) (fun _ hk=>hk.2) (.int .i64 ((AL l0_1 x12_1).f2))) (fun _ hk=>hk.2) (.slice A233_3 ((AL l0_1 x12_1).f3).length c233_3)) (fun _ hk=>⟨hk.1.1.1,⟨hk.1.1.2.1,⟨hk.1.1.2.2.1,⟨hk.1.1.2.2.2,hk.1.2⟩⟩⟩⟩)))⟩; have n3_:Aside0 (Kd.V (Kd.int .i64) 3 w20 w.heap.size (fun k_=>(P0_1_ k_∨w.heap.size≤k_)∧some k_≠(u233001:Value).ownBlock∧k_≠gb230∧k_≠gb231∧k_≠gb232∧k_≠gb234) (.slice A233_3 ((AL l0_1 x12_1).f3).length c233_3) ((AL l0_1 x12_1).f3)):=⟨(by rw [hw]; exact (by (with_reducible repeat (first|apply Kd.V_alloc|apply Kd.V_drewN|apply Kd.V_drew)); exact Kd.V_mono (Kd.V_far (p:=⟨gb234,3,none⟩) (Kd.V_far (p:=⟨gb234,2,none⟩) (Kd.V_far (p:=⟨gb234,1,none⟩) (Kd.V_far (p:=⟨gb234,0,none⟩) (Kd.V_mono HL233_3.out (fun k_ hk=>(⟨hk,hk.2⟩:_∧k_≠gb234))) (fun _ hk=>hk.2) (.string ((AL l0_1 x12_1).f0))) (fun _ hk=>hk.2) (.int .i64 ((AL l0_1 x12_1).f1))) (fun _ hk=>hk.2) (.int .i64 ((AL l0_1 x12_1).f2))) (fun _ hk=>hk.2) (.slice A233_3 ((AL l0_1 x12_1).f3).length c233_3)) (fun _ hk=>⟨hk.1.1.1,⟨hk.1.1.2.1,⟨hk.1.1.2.2.1,⟨hk.1.1.2.2.2.1,⟨hk.1.1.2.2.2.2,hk.1.2⟩⟩⟩⟩⟩)))⟩; have n4_:Aside0 (w20.heap[gb230]? =some (.cells #[.int .i64 A8,.slice (some ad233) l0_1.length c0_1] 24 (0,0))):=⟨(by rw [hw]; exact (by (with_reducible repeat (first|refine AF ?_ _|refine AH ?_|refine AG ?_ _)); refine AV ?_ NB230_234.out _; (with_reducible repeat (first|refine AF ?_ _|refine AH ?_|refine AG ?_ _)); refine AV ?_ NB230_234.out _; (with_reducible repeat (first|refine AF ?_ _|refine AH ?_|refine AG ?_ _)); refine AV ?_ NB230_234.out _; (with_reducible repeat (first|refine AF ?_ _|refine AH ?_|refine AG ?_ _)); refine AV ?_ NB230_234.out _; (with_reducible repeat (first|refine AF ?_ _|refine AH ?_|refine AG ?_ _)); exact BK230.out))⟩; have n5_:Aside0 (w20.heap[gb231]? =some (.cells #[.int .i64 0,.slice none 0 0] 34 (0,0))):=⟨(by rw [hw]; exact (by (with_reducible repeat (first|refine AF ?_ _|refine AH ?_|refine AG ?_ _)); refine AV ?_ NB231_234.out _; (with_reducible repeat (first|refine AF ?_ _|refine AH ?_|refine AG ?_ _)); refine AV ?_ NB231_234.out _; (with_reducible repeat (first|refine AF ?_ _|refine AH ?_|refine AG ?_ _)); refine AV ?_ NB231_234.out _; (with_reducible repeat (first|refine AF ?_ _|refine AH ?_|refine AG ?_ _)); refine AV ?_ NB231_234.out _; (with_reducible repeat (first|refine AF ?_ _|refine AH ?_|refine AG ?_ _)); exact BK231.out))⟩; have n6_:Aside0 (w20.heap[gb232]? =some (.cells #[.int .i64 A8,u233001] 34 (0,0))):=⟨(by rw [hw]; exact (by (with_reducible repeat (first|refine AF ?_ _|refine AH ?_|refine AG ?_ _)); refine AV ?_ NB232_234.out _; (with_reducible repeat (first|refine AF ?_ _|refine AH ?_|refine AG ?_ _)); refine AV ?_ NB232_234.out _; (with_reducible repeat (first|refine AF ?_ _|refine AH ?_|refine AG ?_ _)); refine AV ?_ NB232_234.out _; (with_reducible repeat (first|refine AF ?_ _|refine AH ?_|refine AG ?_ _)); refine AV ?_ NB232_234.out _; (with_reducible repeat (first|refine AF ?_ _|refine AH ?_|refine AG ?_ _)); exact BK232.out))⟩; have n7_:Aside0 (w20.heap[gb234]? =some (.cells #[.string ((AL l0_1 x12_1).f0),.int .i64 ((AL l0_1 x12_1).f1),.int .i64 ((AL l0_1 x12_1).f2),.slice A233_3 ((AL l0_1 x12_1).f3).length c233_3] 42 (0,0))):=⟨(by rw [hw]; exact (by (with_reducible repeat (first|refine AF ?_ _|refine AH ?_|refine AG ?_ _)); refine Al (cs:= #[.string ((AL l0_1 x12_1).f0),.int .i64 ((AL l0_1 x12_1).f1),.int .i64 ((AL l0_1 x12_1).f2),.slice none 0 0]) ?_ 3 _ rfl; (with_reducible repeat (first|refine AF ?_ _|refine AH ?_|refine AG ?_ _)); refine Al (cs:= #[.string ((AL l0_1 x12_1).f0),.int .i64 ((AL l0_1 x12_1).f1),.int .i64 0,.slice none 0 0]) ?_ 2 _ rfl; (with_reducible repeat (first|refine AF ?_ _|refine AH ?_|refine AG ?_ _)); refine Al (cs:= #[.string ((AL l0_1 x12_1).f0),.int .i64 0,.int .i64 0,.slice none 0 0]) ?_ 1 _ rfl; (with_reducible repeat (first|refine AF ?_ _|refine AH ?_|refine AG ?_ _)); refine Al (cs:= #[.string (⟨#[]⟩:ByteArray),.int .i64 0,.int .i64 0,.slice none 0 0]) ?_ 0 _ rfl; (with_reducible repeat (first|refine AF ?_ _|refine AH ?_|refine AG ?_ _)); exact BK234.out))⟩; have n8_:Aside0 (Below w.heap.size w w20):=⟨(by rw [hw]; exact zC0)⟩; clear hw; clear HO_10; clear HO_231001; clear HO_233001; clear HL233_3; clear BK230; clear BK231; clear BK232; clear BK234; clear HB; have HO_10:=n0_; have HO_231001:=n1_; have HO_233001:=n2_; have HL233_3:=n3_; have BK230:=n4_; have BK231:=n5_; have BK232:=n6_; have BK234:=n7_; have HB:=n8_; clear n0_ n1_ n2_ n3_ n4_ n5_ n6_ n7_ n8_; have hnb21:=NB232_230.out; have hnc21:=NB230_232.out; have hnb22:=NB232_231.out; have hnc22:=NB231_232.out; have hcz23_0:w20.cell? ⟨gb232,0,none⟩=some (.int .i64 A8):=(AK BK232.out 0).trans rfl; have hcz23_1:w20.cell? ⟨gb232,1,none⟩=some (u233001):=(AK BK232.out 1).trans rfl; have hfz23_0:=AJ BK232.out 0; have hfz23_1:=AJ BK232.out 1; have hcz24_0:w20.cell? ⟨gb234,0,none⟩=some (.string ((AL l0_1 x12_1).f0)):=(AK BK234.out 0).trans rfl; have hcz24_1:w20.cell? ⟨gb234,1,none⟩=some (.int .i64 ((AL l0_1 x12_1).f1)):=(AK BK234.out 1).trans rfl; have hcz24_2:w20.cell? ⟨gb234,2,none⟩=some (.int .i64 ((AL l0_1 x12_1).f2)):=(AK BK234.out 2).trans rfl; have hcz24_3:w20.cell? ⟨gb234,3,none⟩=some (.slice A233_3 ((AL l0_1 x12_1).f3).length c233_3):=(AK BK234.out 3).trans rfl; have hfz24_0:=AJ BK234.out 0; have hfz24_1:=AJ BK234.out 1; have hfz24_2:=AJ BK234.out 2; have hfz24_3:=AJ BK234.out 3)|((with_reducible refine Bq (b:= .append) (xs:= #[.tmp 17,.tmp 19]) rfl ?_); at_builtin; refine Kd.N_append k64 (w0:=w) w.heap.size rfl (.tmp 17) (.tmp 19) 32 64 (.agg #[(.string ⟨#[]⟩),(.int .i64 0),(.int .i64 0),(.slice none 0 0)]) 56 rfl Try.underlying32 info64 rfl zZ zG u233001 x233001_1 (⟨(AL l0_1 x12_1).f0,(AL l0_1 x12_1).f1,(AL l0_1 x12_1).f2,(AL l0_1 x12_1).f3⟩:S64) [.string ((AL l0_1 x12_1).f0),.int .i64 ((AL l0_1 x12_1).f1),.int .i64 ((AL l0_1 x12_1).f2),.slice A233_3 ((AL l0_1 x12_1).f3).length c233_3] (fun k_=>(P0_1_ k_∨w.heap.size≤k_)∧k_≠gb230∧k_≠gb231∧k_≠gb232∧k_≠gb234) (fun k_=>((fun k_=>(P0_1_ k_∨w.heap.size≤k_)∧k_≠gb230∧k_≠gb231∧k_≠gb232∧k_≠gb234)) k_∧some k_≠(u233001:Value).ownBlock) rfl rfl ?aP (fun _ hk=>hk) ?aF ?aO ?aB ?aS ?aL ?_; (case aP=>exact (k64_mkF _ _ (⟨(AL l0_1 x12_1).f0,(AL l0_1 x12_1).f1,(AL l0_1 x12_1).f2,(AL l0_1 x12_1).f3⟩:S64) (Kd.V_reads' (Kd.V_mono (ok':=(fun k_=>((fun k_=>(P0_1_ k_∨w.heap.size≤k_)∧k_≠gb230∧k_≠gb231∧k_≠gb232∧k_≠gb234)) k_∧some k_≠(u233001:Value).ownBlock)) (HL233_3.out) (fun k_ hk=>⟨⟨hk.1,⟨hk.2.2.1,⟨hk.2.2.2.1,⟨hk.2.2.2.2.1,hk.2.2.2.2.2⟩⟩⟩⟩,hk.2.1⟩))).2.1 (Kd.V_F (Kd.V_mono (ok':=(fun k_=>((fun k_=>(P0_1_ k_∨w.heap.size≤k_)∧k_≠gb230∧k_≠gb231∧k_≠gb232∧k_≠gb234)) k_∧some k_≠(u233001:Value).ownBlock)) (HL233_3.out) (fun k_ hk=>⟨⟨hk.1,⟨hk.2.2.1,⟨hk.2.2.2.1,⟨hk.2.2.2.2.1,hk.2.2.2.2.2⟩⟩⟩⟩,hk.2.1⟩))))); (case aB=>exact zC0); (case aF=>exact (fun k_ hk=>⟨(.inr (Nat.le_trans (AQ zC0) hk)),Kd.freshB (g:=gb230) (o:= .cells #[.int .i64 A8,.slice (some ad233) l0_1.length c0_1] 24 (0,0)) zA6 k_ hk,Kd.freshB (g:=gb231) (o:= .cells #[.int .i64 0,.slice none 0 0] 34 (0,0)) zB4 k_ hk,Kd.freshB (g:=gb232) (o:= .cells #[.int .i64 A8,u233001] 34 (0,0)) (by (with_reducible repeat (first|refine AF ?_ _|refine AH ?_|refine AG ?_ _)); exact BK232.out) k_ hk,Kd.freshB (g:=gb234) (o:= .cells #[.string ((AL l0_1 x12_1).f0),.int .i64 ((AL l0_1 x12_1).f1),.int .i64 ((AL l0_1 x12_1).f2),.slice A233_3 ((AL l0_1 x12_1).f3).length c233_3] 42 (0,0)) (by (with_reducible repeat (first|refine AF ?_ _|refine AH ?_|refine AG ?_ _)); exact BK234.out) k_ hk⟩)); (case aO=>exact (by (with_reducible repeat (first|apply Kd.N_alloc|apply Kd.N_drewN|apply Kd.N_drew)); exact HO_233001.out)); (case aS=>exact (AQ zC0)); (case aL=>have:=LMc14.out; omega); intro v236 w25 ho hb hg hat; rw [←Ny235.out] at ho; have n0_:=Aside0.mk (Kd.V_afterv (ok:=(fun k_=>(P0_1_ k_∨w.heap.size≤k_)∧k_≠gb230∧k_≠gb231∧k_≠gb232∧k_≠gb234)) (by (with_reducible repeat (first|apply Kd.V_alloc|apply Kd.V_drewN|apply Kd.V_drew)); exact Kd.V_mono HO_10.out (fun _ hk=>⟨⟨hk.1,⟨hk.2.2.1,⟨hk.2.2.2.1,⟨hk.2.2.2.2.1,hk.2.2.2.2.2⟩⟩⟩⟩,hk.2.1⟩)) hg hat); have n1_:=Aside0.mk (Kd.V_afterv (ok:=(fun k_=>(P0_1_ k_∨w.heap.size≤k_)∧k_≠gb230∧k_≠gb231∧k_≠gb232∧k_≠gb234)) (by (with_reducible repeat (first|apply Kd.V_alloc|apply Kd.V_drewN|apply Kd.V_drew)); exact Kd.V_mono HO_231001.out (fun _ hk=>⟨⟨hk.1,⟨hk.2.2.1,⟨hk.2.2.2.1,⟨hk.2.2.2.2.1,hk.2.2.2.2.2⟩⟩⟩⟩,hk.2.1⟩)) hg hat); have n2_:=Aside0.mk (BP (g:=gb230) (o:= .cells #[.int .i64 A8,.slice (some ad233) l0_1.length c0_1] 24 (0,0)) zA6 hg (Kd.N_ne HO_233001.out BK230.out zZ)); have n3_:=Aside0.mk (BP (g:=gb231) (o:= .cells #[.int .i64 0,.slice none 0 0] 34 (0,0)) zB4 hg (Kd.N_ne HO_233001.out BK231.out zZ)); have n4_:=Aside0.mk (BP (g:=gb232) (o:= .cells #[.int .i64 A8,u233001] 34 (0,0)) (by (with_reducible repeat (first|refine AF ?_ _|refine AH ?_|refine AG ?_ _)); exact BK232.out) hg (Kd.N_ne HO_233001.out BK232.out zZ)); have n5_:=Aside0.mk (Kd.V_afterv (ok:=(fun k_=>(P0_1_ k_∨w.heap.size≤k_)∧k_≠gb230∧k_≠gb231∧k_≠gb232∧k_≠gb234)) (by (with_reducible repeat (first|apply Kd.V_alloc|apply Kd.V_drewN|apply Kd.V_drew)); exact Kd.V_mono HL233_3.out (fun _ hk=>⟨⟨hk.1,⟨hk.2.2.1,⟨hk.2.2.2.1,⟨hk.2.2.2.2.1,hk.2.2.2.2.2⟩⟩⟩⟩,hk.2.1⟩)) hg hat); have n6_:=Aside0.mk (BP (g:=gb234) (o:= .cells #[.string ((AL l0_1 x12_1).f0),.int .i64 ((AL l0_1 x12_1).f1),.int .i64 ((AL l0_1 x12_1).f2),.slice A233_3 ((AL l0_1 x12_1).f3).length c233_3] 42 (0,0)) (by (with_reducible repeat (first|refine AF ?_ _|refine AH ?_|refine AG ?_ _)); exact BK234.out) hg (Kd.N_ne HO_233001.out BK234.out zZ)); have n7_:=Aside0.mk (hb); have n8_:=Aside0.mk (ho); clear HO_10; clear HO_231001; clear BK230; clear BK231; clear BK232; clear HL233_3; clear BK234; clear HB; clear HO_233001; have HO_10:=n0_; have HO_231001:=n1_; have BK230:=n2_; have BK231:=n3_; have BK232:=n4_; have HL233_3:=n5_; have BK234:=n6_; have HB:=n7_; have HO237:=n8_; clear n0_ n1_ n2_ n3_ n4_ n5_ n6_ n7_ n8_; clear ho hb hg hat; obtain ⟨Ao26,co26,eo26⟩:=Kd.N_slice HO237.out; subst eo26; have hcz27_0:w25.cell? ⟨gb232,0,none⟩=some (.int .i64 A8):=(AK BK232.out 0).trans rfl; have hcz27_1:w25.cell? ⟨gb232,1,none⟩=some (u233001):=(AK BK232.out 1).trans rfl; have hfz27_0:=AJ BK232.out 0; have hfz27_1:=AJ BK232.out 1))
       go_roundg k1
       case measure=>have:=HK1.out; omega
       case rel=>exact ⟨(wrap64 (x12_1+1)),(y235),(.slice Ao26 y235.length co26),zF,H',⟨by have:=HK1.out; omega⟩,⟨by (with_reducible repeat (first|apply Kd.V_alloc|apply Kd.V_drewN|apply Kd.V_drew)); exact Kd.V_mono (Kd.V_far (p:=⟨gb232,1,none⟩) (Kd.V_mono HO_10.out (fun k_ hk=>(⟨hk,hk.1.2.2.2.1⟩:_∧k_≠gb232))) (fun _ hk=>hk.2) (.slice Ao26 y235.length co26)) (fun _ hk=>⟨hk.1.1.1,⟨hk.1.2,⟨hk.1.1.2.1,⟨hk.1.1.2.2.1,hk.1.1.2.2.2.1⟩⟩⟩⟩)⟩,⟨by (with_reducible repeat (first|apply Kd.V_alloc|apply Kd.V_drewN|apply Kd.V_drew)); exact Kd.V_mono (Kd.V_far (p:=⟨gb232,1,none⟩) (Kd.V_mono HO_231001.out (fun k_ hk=>(⟨hk,hk.1.2.2.2.1⟩:_∧k_≠gb232))) (fun _ hk=>hk.2) (.slice Ao26 y235.length co26)) (fun _ hk=>⟨hk.1.1.1,⟨hk.1.2,⟨hk.1.1.2.1,⟨hk.1.1.2.2.1,hk.1.1.2.2.2.1⟩⟩⟩⟩)⟩,⟨by (with_reducible repeat (first|apply Kd.N_alloc|apply Kd.N_drewN|apply Kd.N_drew)); exact Kd.N_mono (Kd.N_far (p:=⟨gb232,1,none⟩) (Kd.N_mono HO237.out (fun k_ hk=>(⟨hk,hk.2.2.2.1⟩:_∧k_≠gb232))) (fun _ hk=>hk.2) (.slice Ao26 y235.length co26)) (fun _ hk=>⟨hk.1.1,⟨hk.1.2.1,⟨hk.1.2.2.1,hk.1.2.2.2.1⟩⟩⟩)⟩,⟨by (with_reducible repeat (first|refine AF ?_ _|refine AH ?_|refine AG ?_ _)); refine AV ?_ NB230_232.out _; (with_reducible repeat (first|refine AF ?_ _|refine AH ?_|refine AG ?_ _)); exact BK230.out⟩,⟨by (with_reducible repeat (first|refine AF ?_ _|refine AH ?_|refine AG ?_ _)); refine AV ?_ NB231_232.out _; (with_reducible repeat (first|refine AF ?_ _|refine AH ?_|refine AG ?_ _)); exact BK231.out⟩,⟨by (with_reducible repeat (first|refine AF ?_ _|refine AH ?_|refine AG ?_ _)); refine Al (cs:= #[.int .i64 A8,u233001]) ?_ 1 _ rfl; (with_reducible repeat (first|refine AF ?_ _|refine AH ?_|refine AG ?_ _)); exact BK232.out⟩,⟨by repeat (first|(with_reducible first|exact HB.out|apply AE|apply AC|apply AD|refine AI ?_ GE230.out|refine AI ?_ GE231.out|refine AI ?_ GE232.out|refine AI ?_ GE234.out)|exact HB.out)⟩⟩
      ·rw [if_neg c14] at H
       exact absurd H zY
     ·rw [if_neg c13] at H
      exact absurd H zY
    ·rw [if_neg c12] at H
     exact absurd H zY
   ·rw [if_neg c11] at H
    have c11b0:decide (x12_1<(l0_1.length:Int))=false:=decide_eq_false c11
    clear c11
    simp only [Option.some.injEq,Prod.mk.injEq] at H
    obtain ⟨rfl,rfl⟩:=H
    have hnb28:=NB232_230.out
    have hnc28:=NB230_232.out
    have hnb29:=NB232_231.out
    have hnc29:=NB231_232.out
    have hcz30_0:wr.cell? ⟨gb232,0,none⟩=some (.int .i64 A8):=(AK BK232.out 0).trans rfl
    have hcz30_1:wr.cell? ⟨gb232,1,none⟩=some (u233001):=(AK BK232.out 1).trans rfl
    have hfz30_0:=AJ BK232.out 0
    have hfz30_1:=AJ BK232.out 1
    have hnb31:=NB231_230.out
    have hnc31:=NB230_231.out
    have hcz32_0:wr.cell? ⟨gb231,0,none⟩=some (.int .i64 0):=(AK BK231.out 0).trans rfl
    have hcz32_1:wr.cell? ⟨gb231,1,none⟩=some (.slice none 0 0):=(AK BK231.out 1).trans rfl
    have hfz32_0:=AJ BK231.out 0
    have hfz32_1:=AJ BK231.out 1
    obtain ⟨Ao33,co33,eo33⟩:=Kd.N_slice HO_233001.out
    subst eo33
    go_wp2
    refine bodyPost_ret (results_cell_row rfl _ _ gb231 34 #[.int .i64 A8,.slice Ao33 x233001_1.length co33] (0,0) _ rfl (by (with_reducible repeat (first|refine AF ?_ _|refine AH ?_|refine AG ?_ _)); refine Al (cs:= #[.int .i64 A8,.slice none 0 0]) ?_ 1 _ rfl; (with_reducible repeat (first|refine AF ?_ _|refine AH ?_|refine AG ?_ _)); refine Al (cs:= #[.int .i64 0,.slice none 0 0]) ?_ 0 _ rfl; (with_reducible repeat (first|refine AF ?_ _|refine AH ?_|refine AG ?_ _)); exact BK231.out) Try.underlying34 rfl zI) rfl ?_
    exact ⟨_,by first|rfl|(simp [AU,AT]<;>rfl)|(simp [*,AU,AT]<;>rfl),by (with_reducible repeat (first|apply Kd.N_alloc|apply Kd.N_drewN|apply Kd.N_drew)); exact Kd.N_mono (Kd.N_far (p:=⟨gb231,1,none⟩) (Kd.N_far (p:=⟨gb231,0,none⟩) (Kd.N_mono HO_233001.out (fun k_ hk=>(⟨hk,hk.2.2.1⟩:_∧k_≠gb231))) (fun _ hk=>hk.2) (.int .i64 A8)) (fun _ hk=>hk.2) (.slice Ao33 x233001_1.length co33)) (fun _ hk=>hk.1.1),by repeat (first|(with_reducible first|exact HB.out|apply AE|apply AC|apply AD|refine AI ?_ GE230.out|refine AI ?_ GE231.out|refine AI ?_ GE232.out)|exact HB.out)⟩
end Go.Proofs.Ytdadecjefafflaa.PAll
end
section
namespace Go.Proofs.Ytdadecjefafflaa.PAll
set_option maxRecDepth 100000
open Go.RowKit Go.Proofs.YtdadecjefafflaaW.PrintWords Go.Proofs.YtdadecjefafflaaW.PrintLast Go.Proofs.YtdadecjefafflaaW.PrintMore
attribute [local go_sem] Bb BZ Bg Bf BU BT Ba BX
def BF.f (k:Nat) (A8:Int) (l0_1:List (S64)) (l1:List (S47)):Option (Int×Int):=(Ag.f k A8 l0_1 l1).bind fun t310=>(if t310=0 then ((AY.f k A8 l0_1 l1).bind fun t311=>(some (t311,0))) else (some (0,t310)))
set_option maxHeartbeats 8000000 in
theorem BF.calls (k:Nat) (A8:Int) (A0_1:Option Addr) (c0_1:Nat) (l0_1:List (S64)) (A1:Option Addr) (c1:Nat) (l1:List (S47)) (r1:Int) (r2:Int) (w:World) (hr0_1:Kd.C k64 w A0_1 l0_1.length l0_1) (hc0_1:l0_1.length≤c0_1) (hr1:Kd.C k47 w A1 l1.length l1) (hc1:l1.length≤c1) (h:BF.f k A8 l0_1 l1=some (r1,r2)):
  Calls Try.prog 20 #[.agg #[.int .i64 A8,.slice A0_1 l0_1.length c0_1],.slice A1 l1.length c1] w fun e w'=>e= .returned (.tuple #[.int .i64 r1,.int .i64 r2])∧Below w.heap.size w w':=by
 have hu34:=Try.underlying34
 have HR0_1:=Aside0.mk hr0_1
 have HC0_1:=Aside0.mk hc0_1
 clear hr0_1 hc0_1
 have HR1:=Aside0.mk hr1
 have HC1:=Aside0.mk hc1
 clear hr1 hc1
 have HB:=Aside0.mk (Below.refl w.heap.size w)
 have H:((Ag.f k A8 l0_1 l1).bind fun t310=>(if t310=0 then ((AY.f k A8 l0_1 l1).bind fun t311=>(some (t311,0))) else (some (0,t310))))=some (r1,r2):=h
 clear h
 replace H:=Option.bind_eq_some_iff.mp H
 obtain ⟨t310,A30,H⟩:=H
 replace H:(if t310=0 then ((AY.f k A8 l0_1 l1).bind fun t311=>(some (t311,0))) else (some (0,t310)))=some (r1,r2):=H
 have A3:=Aside0.mk A30
 clear A30
 by_cases c4:t310=0
 ·rw [if_pos c4] at H
  have c4b0:(t310==0)=true:=beq_iff_eq.mpr c4
  have c4b1:(t310 !=0)=false:=bne_eq_false_iff_eq.mpr c4
  clear c4
  replace H:=Option.bind_eq_some_iff.mp H
  obtain ⟨t311,A50,H⟩:=H
  replace H:(some (t311,0))=some (r1,r2):=H
  have A5:=Aside0.mk A50
  clear A50
  simp only [Option.some.injEq,Prod.mk.injEq] at H
  obtain ⟨rfl,rfl⟩:=H
  go_enter Try.func20,Try.ntmps20
  go_wp2_with (first|((with_reducible refine Ap (N:=2) rfl ?_); refine Ar ?hg (N:=2) ?hd (cs:= #[.int .i64 A8,.slice A0_1 l0_1.length c0_1]) (t:=34) ?hr ?_; (case hd=>rfl); (case hg=>rfl); (case hr=>first|(go_simp; done)|(go_simp; rfl)); intro gb309 hg w6 hbox hb; have n0_:=Aside0.mk (AN zB hb); have n1_:=Aside0.mk (hbox); have n2_:=Aside0.mk ((by rw [hg]; exact (AQ zB):w.heap.size≤gb309)); have n3_:=Aside0.mk ((by rw [hg]; exact (AQ zB):w.heap.size≤gb309)); clear HB; have HB:=n0_; have BK309:=n1_; have GW309:=n2_; have GE309:=n3_; clear n0_ n1_ n2_ n3_; clear hb hbox hg; have hcz7_0:w6.cell? ⟨gb309,0,none⟩=some (.int .i64 A8):=(AK BK309.out 0).trans rfl; have hcz7_1:w6.cell? ⟨gb309,1,none⟩=some (.slice A0_1 l0_1.length c0_1):=(AK BK309.out 1).trans rfl; have hfz7_0:=AJ BK309.out 0; have hfz7_1:=AJ BK309.out 1)|((with_reducible refine Ae (f:=28) rfl ?_); refine B6 (some 9) rfl rfl Try.func28 zI rfl #[.agg #[.int .i64 A8,.slice A0_1 l0_1.length c0_1],.slice A1 l1.length c1] rfl zD ?_; (with_reducible refine (Ag.calls k A8 _ _ l0_1 _ _ l1 t310 _ ?side1 ?side2 ?side3 ?side4 A3.out).mono ?_); (case side1=>repeat (first|exact (Kd.C_below HR0_1.out HB.out)|(with_reducible refine Kd.C_alloc ?_ _)|(with_reducible refine Kd.C_drewN ?_ _)|(with_reducible refine Kd.C_drew ?_))); (case side2=>exact HC0_1.out); (case side3=>repeat (first|exact (Kd.C_below HR1.out HB.out)|(with_reducible refine Kd.C_alloc ?_ _)|(with_reducible refine Kd.C_drewN ?_ _)|(with_reducible refine Kd.C_drew ?_))); (case side4=>exact HC1.out); rintro e w8 ⟨rfl,hb⟩; refine ⟨_,rfl,?_⟩; have n0_:=Aside0.mk (AP (g:=gb309) (o:= .cells #[.int .i64 A8,.slice A0_1 l0_1.length c0_1] 34 (0,0)) (by (with_reducible repeat (first|refine AF ?_ _|refine AH ?_|refine AG ?_ _)); exact BK309.out) hb); have n1_:=Aside0.mk (AN (by repeat (first|(with_reducible first|exact HB.out|apply AE|apply AC|apply AD|refine AI ?_ GE309.out)|exact HB.out)) hb); clear BK309; clear HB; have BK309:=n0_; have HB:=n1_; clear n0_ n1_; (try clear hb); (try clear hb2); (try clear hk); (try clear hi); have hcz9_0:w8.cell? ⟨gb309,0,none⟩=some (.int .i64 A8):=(AK BK309.out 0).trans rfl; have hcz9_1:w8.cell? ⟨gb309,1,none⟩=some (.slice A0_1 l0_1.length c0_1):=(AK BK309.out 1).trans rfl; have hfz9_0:=AJ BK309.out 0; have hfz9_1:=AJ BK309.out 1)|((with_reducible refine Ae (f:=33) rfl ?_); refine B6 (some 15) rfl rfl Try.func33 zI rfl #[.agg #[.int .i64 A8,.slice A0_1 l0_1.length c0_1],.slice A1 l1.length c1] rfl zD ?_; (with_reducible refine (AY.calls k A8 _ _ l0_1 _ _ l1 t311 _ ?side1 ?side2 ?side3 ?side4 A5.out).mono ?_); (case side1=>repeat (first|exact (Kd.C_below HR0_1.out HB.out)|(with_reducible refine Kd.C_alloc ?_ _)|(with_reducible refine Kd.C_drewN ?_ _)|(with_reducible refine Kd.C_drew ?_))); (case side2=>exact HC0_1.out); (case side3=>repeat (first|exact (Kd.C_below HR1.out HB.out)|(with_reducible refine Kd.C_alloc ?_ _)|(with_reducible refine Kd.C_drewN ?_ _)|(with_reducible refine Kd.C_drew ?_))); (case side4=>exact HC1.out); rintro e w10 ⟨rfl,hb⟩; refine ⟨_,rfl,?_⟩; have n0_:=Aside0.mk (AP (g:=gb309) (o:= .cells #[.int .i64 A8,.slice A0_1 l0_1.length c0_1] 34 (0,0)) (by (with_reducible repeat (first|refine AF ?_ _|refine AH ?_|refine AG ?_ _)); exact BK309.out) hb); have n1_:=Aside0.mk (AN (by repeat (first|(with_reducible first|exact HB.out|apply AE|apply AC|apply AD|refine AI ?_ GE309.out)|exact HB.out)) hb); clear BK309; clear HB; have BK309:=n0_; have HB:=n1_; clear n0_ n1_; (try clear hb); (try clear hb2); (try clear hk); (try clear hi)))
  go_ret2
  exact ⟨by first|rfl|(simp [AU,AT]<;>rfl)|(simp [*,AU,AT]<;>rfl),by repeat (first|(with_reducible first|exact HB.out|apply AE|apply AC|apply AD|refine AI ?_ GE309.out)|exact HB.out)⟩
 ·rw [if_neg c4] at H
  have c4b0:(t310==0)=false:=beq_eq_false_iff_ne.mpr c4
  have c4b1:(t310 !=0)=true:=bne_iff_ne.mpr c4
  simp only [Option.some.injEq,Prod.mk.injEq] at H
  obtain ⟨rfl,rfl⟩:=H
  go_enter Try.func20,Try.ntmps20
  go_wp2_with (first|((with_reducible refine Ap (N:=2) rfl ?_); refine Ar ?hg (N:=2) ?hd (cs:= #[.int .i64 A8,.slice A0_1 l0_1.length c0_1]) (t:=34) ?hr ?_; (case hd=>rfl); (case hg=>rfl); (case hr=>first|(go_simp; done)|(go_simp; rfl)); intro gb309 hg w11 hbox hb; have n0_:=Aside0.mk (AN zB hb); have n1_:=Aside0.mk (hbox); have n2_:=Aside0.mk ((by rw [hg]; exact (AQ zB):w.heap.size≤gb309)); have n3_:=Aside0.mk ((by rw [hg]; exact (AQ zB):w.heap.size≤gb309)); clear HB; have HB:=n0_; have BK309:=n1_; have GW309:=n2_; have GE309:=n3_; clear n0_ n1_ n2_ n3_; clear hb hbox hg; have hcz12_0:w11.cell? ⟨gb309,0,none⟩=some (.int .i64 A8):=(AK BK309.out 0).trans rfl; have hcz12_1:w11.cell? ⟨gb309,1,none⟩=some (.slice A0_1 l0_1.length c0_1):=(AK BK309.out 1).trans rfl; have hfz12_0:=AJ BK309.out 0; have hfz12_1:=AJ BK309.out 1)|((with_reducible refine Ae (f:=28) rfl ?_); refine B6 (some 9) rfl rfl Try.func28 zI rfl #[.agg #[.int .i64 A8,.slice A0_1 l0_1.length c0_1],.slice A1 l1.length c1] rfl zD ?_; (with_reducible refine (Ag.calls k A8 _ _ l0_1 _ _ l1 t310 _ ?side1 ?side2 ?side3 ?side4 A3.out).mono ?_); (case side1=>repeat (first|exact (Kd.C_below HR0_1.out HB.out)|(with_reducible refine Kd.C_alloc ?_ _)|(with_reducible refine Kd.C_drewN ?_ _)|(with_reducible refine Kd.C_drew ?_))); (case side2=>exact HC0_1.out); (case side3=>repeat (first|exact (Kd.C_below HR1.out HB.out)|(with_reducible refine Kd.C_alloc ?_ _)|(with_reducible refine Kd.C_drewN ?_ _)|(with_reducible refine Kd.C_drew ?_))); (case side4=>exact HC1.out); rintro e w13 ⟨rfl,hb⟩; refine ⟨_,rfl,?_⟩; have n0_:=Aside0.mk (AP (g:=gb309) (o:= .cells #[.int .i64 A8,.slice A0_1 l0_1.length c0_1] 34 (0,0)) (by (with_reducible repeat (first|refine AF ?_ _|refine AH ?_|refine AG ?_ _)); exact BK309.out) hb); have n1_:=Aside0.mk (AN (by repeat (first|(with_reducible first|exact HB.out|apply AE|apply AC|apply AD|refine AI ?_ GE309.out)|exact HB.out)) hb); clear BK309; clear HB; have BK309:=n0_; have HB:=n1_; clear n0_ n1_; (try clear hb); (try clear hb2); (try clear hk); (try clear hi)))
  go_ret2
  exact ⟨by first|rfl|(simp [AU,AT]<;>rfl)|(simp [*,AU,AT]<;>rfl),by repeat (first|(with_reducible first|exact HB.out|apply AE|apply AC|apply AD|refine AI ?_ GE309.out)|exact HB.out)⟩
end Go.Proofs.Ytdadecjefafflaa.PAll
end
section
namespace Go.Proofs.Ytdadecjefafflaa.PAll
set_option maxRecDepth 100000
open Go.RowKit Go.Proofs.YtdadecjefafflaaW.PrintWords Go.Proofs.YtdadecjefafflaaW.PrintLast Go.Proofs.YtdadecjefafflaaW.PrintMore
attribute [local go_sem] Bb BZ Bg Bf BU BT Ba BX
def BJ.f (a0:Int):Option (Bool):=if a0≥97 then (if a0≤122 then (some true) else (if a0≥65 then (some (decide (a0≤90))) else (some false))) else (if a0≥65 then (some (decide (a0≤90))) else (some false))
set_option maxHeartbeats 8000000 in
theorem BJ.calls (a0:Int) (r:Bool) (w:World) (h:BJ.f a0=some r):
  Calls Try.prog 70 #[.int .u8 a0] w fun e w'=>e= .returned (.bool r)∧Drawn0 w w':=by
 have H:(if a0≥97 then (if a0≤122 then (some true) else (if a0≥65 then (some (decide (a0≤90))) else (some false))) else (if a0≥65 then (some (decide (a0≤90))) else (some false)))=some r:=h
 clear h
 by_cases c2:a0≥97
 ·rw [if_pos c2] at H
  have c2b0:decide (97≤a0)=true:=decide_eq_true c2
  clear c2
  by_cases c3:a0≤122
  ·rw [if_pos c3] at H
   have c3b0:decide (a0≤122)=true:=decide_eq_true c3
   clear c3
   obtain rfl:=Option.some.inj H
   go_enter Try.func70,Try.ntmps70
   go_wp2
   go_ret
   exact ⟨by first|rfl|(simp; done)|(simp [*]; done),by repeat (first|exact Drawn0.refl _|apply Drawn0.step)⟩
  ·rw [if_neg c3] at H
   have c3b0:decide (a0≤122)=false:=decide_eq_false c3
   clear c3
   by_cases c4:a0≥65
   ·rw [if_pos c4] at H
    have c4b0:decide (65≤a0)=true:=decide_eq_true c4
    clear c4
    obtain rfl:=Option.some.inj H
    go_enter Try.func70,Try.ntmps70
    go_wp2
    go_ret
    exact ⟨by first|rfl|(simp; done)|(simp [*]; done),by repeat (first|exact Drawn0.refl _|apply Drawn0.step)⟩
   ·rw [if_neg c4] at H
    have c4b0:decide (65≤a0)=false:=decide_eq_false c4
    clear c4
    obtain rfl:=Option.some.inj H
    go_enter Try.func70,Try.ntmps70
    go_wp2
    go_ret
    exact ⟨by first|rfl|(simp; done)|(simp [*]; done),by repeat (first|exact Drawn0.refl _|apply Drawn0.step)⟩
 ·rw [if_neg c2] at H
  have c2b0:decide (97≤a0)=false:=decide_eq_false c2
  clear c2
  by_cases c5:a0≥65
  ·rw [if_pos c5] at H
   have c5b0:decide (65≤a0)=true:=decide_eq_true c5
   clear c5
   obtain rfl:=Option.some.inj H
   go_enter Try.func70,Try.ntmps70
   go_wp2
   go_ret
   exact ⟨by first|rfl|(simp; done)|(simp [*]; done),by repeat (first|exact Drawn0.refl _|apply Drawn0.step)⟩
  ·rw [if_neg c5] at H
   have c5b0:decide (65≤a0)=false:=decide_eq_false c5
   clear c5
   obtain rfl:=Option.some.inj H
   go_enter Try.func70,Try.ntmps70
   go_wp2
   go_ret
   exact ⟨by first|rfl|(simp; done)|(simp [*]; done),by repeat (first|exact Drawn0.refl _|apply Drawn0.step)⟩
def BM.f (a0:Int):Option (Bool):=if a0≥48 then (some (decide (a0≤57))) else (some false)
set_option maxHeartbeats 8000000 in
theorem BM.calls (a0:Int) (r:Bool) (w:World) (h:BM.f a0=some r):
  Calls Try.prog 71 #[.int .u8 a0] w fun e w'=>e= .returned (.bool r)∧Drawn0 w w':=by
 have H:(if a0≥48 then (some (decide (a0≤57))) else (some false))=some r:=h
 clear h
 by_cases c2:a0≥48
 ·rw [if_pos c2] at H
  have c2b0:decide (48≤a0)=true:=decide_eq_true c2
  clear c2
  obtain rfl:=Option.some.inj H
  go_enter Try.func71,Try.ntmps71
  go_wp2
  go_ret
  exact ⟨by first|rfl|(simp; done)|(simp [*]; done),by repeat (first|exact Drawn0.refl _|apply Drawn0.step)⟩
 ·rw [if_neg c2] at H
  have c2b0:decide (48≤a0)=false:=decide_eq_false c2
  clear c2
  obtain rfl:=Option.some.inj H
  go_enter Try.func71,Try.ntmps71
  go_wp2
  go_ret
  exact ⟨by first|rfl|(simp; done)|(simp [*]; done),by repeat (first|exact Drawn0.refl _|apply Drawn0.step)⟩
def At.l0:Nat→ByteArray→Int→Option (Bool)
 |0,_,_=>none
 |k+1,x0,x3=>if x3<(x0.size:Int) then (if 0≤x3 then ((BJ.f (bt x0 x3)).bind fun t351=>(if t351=true then (At.l0 k x0 (wrap64 (x3+1))) else (if x3=0 then (some false) else ((BM.f (bt x0 x3)).bind fun t352=>(if t352=true then (At.l0 k x0 (wrap64 (x3+1))) else (if (bt x0 x3)=45 then (At.l0 k x0 (wrap64 (x3+1))) else (if (bt x0 x3)=95 then (At.l0 k x0 (wrap64 (x3+1))) else (some false)))))))) else (none)) else (some (decide ((x0.size:Int)>0)))
def At.f (k:Nat) (a0:ByteArray):Option (Bool):=At.l0 k a0 0
set_option maxHeartbeats 8000000 in
theorem At.calls (k:Nat) (a0:ByteArray) (r:Bool) (w:World) (h:At.f k a0=some r):
  Calls Try.prog 62 #[.string a0] w fun e w'=>e= .returned (.bool r)∧Drawn0 w w':=by
 have H:(At.l0 k a0 0)=some r:=h
 clear h
 have H':=Aside0.mk H
 clear H
 go_enter Try.func62,Try.ntmps62
 go_wp2
 go_loopg [3] k (fun kq v3 w'=>∃(x3_1:Int),v3= .int .i64 x3_1∧Aside0 (At.l0 kq a0 x3_1=some r)∧Aside0 (kq≤k)∧Drawn0 w w')
 case atStart=>exact ⟨(0),zF,H',⟨Nat.le_refl _⟩,by repeat (first|exact Drawn0.refl _|apply Drawn0.step)⟩
 case round=>
  clear H'
  obtain ⟨x3_1,rfl,HA,HK1,⟨m1,rfl⟩⟩:=hrel
  cases gk with
  |zero=>exact absurd HA.out (by simp [At.l0])
  | succ k1 =>
   have H:=HA.out
   clear HA
   simp only [At.l0] at H
   by_cases c2:x3_1<(a0.size:Int)
   ·rw [if_pos c2] at H
    have c2b0:decide (x3_1<(a0.size:Int))=true:=decide_eq_true c2
    clear c2
    by_cases c3:0≤x3_1
    ·rw [if_pos c3] at H
     have c3b0:decide (0≤x3_1)=true:=decide_eq_true c3
     clear c3
     replace H:=Option.bind_eq_some_iff.mp H
     obtain ⟨t351,A50,H⟩:=H
     replace H:(if t351=true then (At.l0 k1 a0 (wrap64 (x3_1+1))) else (if x3_1=0 then (some false) else ((BM.f (bt a0 x3_1)).bind fun t352=>(if t352=true then (At.l0 k1 a0 (wrap64 (x3_1+1))) else (if (bt a0 x3_1)=45 then (At.l0 k1 a0 (wrap64 (x3_1+1))) else (if (bt a0 x3_1)=95 then (At.l0 k1 a0 (wrap64 (x3_1+1))) else (some false)))))))=some r:=H
     have A5:=Aside0.mk A50
     clear A50
     by_cases c6:t351=true
     ·subst c6
      have H1:(At.l0 k1 a0 (wrap64 (x3_1+1)))=some r:=by rw [if_pos rfl] at H; exact H
      clear H
      have H:=H1
      clear H1
      have H':=Aside0.mk H
      clear H
      have p4:0≤(x3_1:Int):=of_decide_eq_true zA
      have q4:x3_1<(a0.size:Int):=of_decide_eq_true zA
      have hx4:=CF a0 x3_1
      replace p4:=eq_true p4
      replace q4:=eq_true q4
      go_wp2_with (first|((with_reducible refine Ae (f:=70) rfl ?_); refine B6 (some 13) rfl rfl Try.func70 zI rfl #[.int .u8 (bt a0 x3_1)] rfl zD ?_; (with_reducible refine (BJ.calls (bt a0 x3_1) true _ A5.out).mono ?_); rintro e w' ⟨rfl,⟨nd,rfl⟩⟩; refine ⟨_,rfl,?_⟩))
      go_roundg k1
      case measure=>have:=HK1.out; omega
      case rel=>exact ⟨(wrap64 (x3_1+1)),zF,H',⟨by have:=HK1.out; omega⟩,by repeat (first|exact Drawn0.refl _|apply Drawn0.step)⟩
     ·replace c6:=Bool.eq_false_iff.mpr c6
      subst c6
      have H1:(if x3_1=0 then (some false) else ((BM.f (bt a0 x3_1)).bind fun t352=>(if t352=true then (At.l0 k1 a0 (wrap64 (x3_1+1))) else (if (bt a0 x3_1)=45 then (At.l0 k1 a0 (wrap64 (x3_1+1))) else (if (bt a0 x3_1)=95 then (At.l0 k1 a0 (wrap64 (x3_1+1))) else (some false))))))=some r:=by rw [if_neg (show ¬(false=true) by decide)] at H; exact H
      clear H
      have H:=H1
      clear H1
      by_cases c7:x3_1=0
      ·rw [if_pos c7] at H
       have c7b0:(x3_1==0)=true:=beq_iff_eq.mpr c7
       have c7b1:(x3_1 !=0)=false:=bne_eq_false_iff_eq.mpr c7
       clear c7
       obtain rfl:=Option.some.inj H
       have p4:0≤(x3_1:Int):=of_decide_eq_true zA
       have q4:x3_1<(a0.size:Int):=of_decide_eq_true zA
       have hx4:=CF a0 x3_1
       replace p4:=eq_true p4
       replace q4:=eq_true q4
       go_wp2_with (first|((with_reducible refine Ae (f:=70) rfl ?_); refine B6 (some 13) rfl rfl Try.func70 zI rfl #[.int .u8 (bt a0 x3_1)] rfl zD ?_; (with_reducible refine (BJ.calls (bt a0 x3_1) false _ A5.out).mono ?_); rintro e w' ⟨rfl,⟨nd,rfl⟩⟩; refine ⟨_,rfl,?_⟩))
       go_ret
       exact ⟨by first|rfl|(simp; done)|(simp [*]; done),by repeat (first|exact Drawn0.refl _|apply Drawn0.step)⟩
      ·rw [if_neg c7] at H
       have c7b0:(x3_1==0)=false:=beq_eq_false_iff_ne.mpr c7
       have c7b1:(x3_1 !=0)=true:=bne_iff_ne.mpr c7
       replace H:=Option.bind_eq_some_iff.mp H
       obtain ⟨t352,A90,H⟩:=H
       replace H:(if t352=true then (At.l0 k1 a0 (wrap64 (x3_1+1))) else (if (bt a0 x3_1)=45 then (At.l0 k1 a0 (wrap64 (x3_1+1))) else (if (bt a0 x3_1)=95 then (At.l0 k1 a0 (wrap64 (x3_1+1))) else (some false))))=some r:=H
       have A9:=Aside0.mk A90
       clear A90
       by_cases c10:t352=true
       ·subst c10
        have H1:(At.l0 k1 a0 (wrap64 (x3_1+1)))=some r:=by rw [if_pos rfl] at H; exact H
        clear H
        have H:=H1
        clear H1
        have H':=Aside0.mk H
        clear H
        have p4:0≤(x3_1:Int):=of_decide_eq_true zA
        have q4:x3_1<(a0.size:Int):=of_decide_eq_true zA
        have hx4:=CF a0 x3_1
        replace p4:=eq_true p4
        replace q4:=eq_true q4
        go_wp2_with (first|((with_reducible refine Ae (f:=70) rfl ?_); refine B6 (some 13) rfl rfl Try.func70 zI rfl #[.int .u8 (bt a0 x3_1)] rfl zD ?_; (with_reducible refine (BJ.calls (bt a0 x3_1) false _ A5.out).mono ?_); rintro e w' ⟨rfl,⟨nd,rfl⟩⟩; refine ⟨_,rfl,?_⟩; have p8:0≤(x3_1:Int):=of_decide_eq_true zA; have q8:x3_1<(a0.size:Int):=of_decide_eq_true zA; have hx8:=CF a0 x3_1; replace p8:=eq_true p8; replace q8:=eq_true q8)|(go_at_call 71; (with_reducible refine (BM.calls (bt a0 x3_1) true _ A9.out).mono ?_); rintro e w' ⟨rfl,⟨nd,rfl⟩⟩))
        go_roundg k1
        case measure=>have:=HK1.out; omega
        case rel=>exact ⟨(wrap64 (x3_1+1)),zF,H',⟨by have:=HK1.out; omega⟩,by repeat (first|exact Drawn0.refl _|apply Drawn0.step)⟩
       ·replace c10:=Bool.eq_false_iff.mpr c10
        subst c10
        have H1:(if (bt a0 x3_1)=45 then (At.l0 k1 a0 (wrap64 (x3_1+1))) else (if (bt a0 x3_1)=95 then (At.l0 k1 a0 (wrap64 (x3_1+1))) else (some false)))=some r:=by rw [if_neg (show ¬(false=true) by decide)] at H; exact H
        clear H
        have H:=H1
        clear H1
        by_cases c12:(bt a0 x3_1)=45
        ·rw [if_pos c12] at H
         have c12b0:((bt a0 x3_1)==45)=true:=beq_iff_eq.mpr c12
         have c12b1:((bt a0 x3_1) !=45)=false:=bne_eq_false_iff_eq.mpr c12
         clear c12
         have H':=Aside0.mk H
         clear H
         have p4:0≤(x3_1:Int):=of_decide_eq_true zA
         have q4:x3_1<(a0.size:Int):=of_decide_eq_true zA
         have hx4:=CF a0 x3_1
         replace p4:=eq_true p4
         replace q4:=eq_true q4
         go_wp2_with (first|((with_reducible refine Ae (f:=70) rfl ?_); refine B6 (some 13) rfl rfl Try.func70 zI rfl #[.int .u8 (bt a0 x3_1)] rfl zD ?_; (with_reducible refine (BJ.calls (bt a0 x3_1) false _ A5.out).mono ?_); rintro e w' ⟨rfl,⟨nd,rfl⟩⟩; refine ⟨_,rfl,?_⟩; have p8:0≤(x3_1:Int):=of_decide_eq_true zA; have q8:x3_1<(a0.size:Int):=of_decide_eq_true zA; have hx8:=CF a0 x3_1; replace p8:=eq_true p8; replace q8:=eq_true q8)|(go_at_call 71; (with_reducible refine (BM.calls (bt a0 x3_1) false _ A9.out).mono ?_); rintro e w' ⟨rfl,⟨nd,rfl⟩⟩; have p11:0≤(x3_1:Int):=of_decide_eq_true zA; have q11:x3_1<(a0.size:Int):=of_decide_eq_true zA; have hx11:=CF a0 x3_1; replace p11:=eq_true p11; replace q11:=eq_true q11))
         go_roundg k1
         case measure=>have:=HK1.out; omega
         case rel=>exact ⟨(wrap64 (x3_1+1)),zF,H',⟨by have:=HK1.out; omega⟩,by repeat (first|exact Drawn0.refl _|apply Drawn0.step)⟩
        ·rw [if_neg c12] at H
         have c12b0:((bt a0 x3_1)==45)=false:=beq_eq_false_iff_ne.mpr c12
         have c12b1:((bt a0 x3_1) !=45)=true:=bne_iff_ne.mpr c12
         by_cases c14:(bt a0 x3_1)=95
         ·rw [if_pos c14] at H
          have c14b0:((bt a0 x3_1)==95)=true:=beq_iff_eq.mpr c14
          have c14b1:((bt a0 x3_1) !=95)=false:=bne_eq_false_iff_eq.mpr c14
          clear c14
          have H':=Aside0.mk H
          clear H
          have p4:0≤(x3_1:Int):=of_decide_eq_true zA
          have q4:x3_1<(a0.size:Int):=of_decide_eq_true zA
          have hx4:=CF a0 x3_1
          replace p4:=eq_true p4
          replace q4:=eq_true q4
          go_wp2_with (first|((with_reducible refine Ae (f:=70) rfl ?_); refine B6 (some 13) rfl rfl Try.func70 zI rfl #[.int .u8 (bt a0 x3_1)] rfl zD ?_; (with_reducible refine (BJ.calls (bt a0 x3_1) false _ A5.out).mono ?_); rintro e w' ⟨rfl,⟨nd,rfl⟩⟩; refine ⟨_,rfl,?_⟩; have p8:0≤(x3_1:Int):=of_decide_eq_true zA; have q8:x3_1<(a0.size:Int):=of_decide_eq_true zA; have hx8:=CF a0 x3_1; replace p8:=eq_true p8; replace q8:=eq_true q8)|(go_at_call 71; (with_reducible refine (BM.calls (bt a0 x3_1) false _ A9.out).mono ?_); rintro e w' ⟨rfl,⟨nd,rfl⟩⟩; have p11:0≤(x3_1:Int):=of_decide_eq_true zA; have q11:x3_1<(a0.size:Int):=of_decide_eq_true zA; have hx11:=CF a0 x3_1; replace p11:=eq_true p11; replace q11:=eq_true q11; have p13:0≤(x3_1:Int):=of_decide_eq_true zA; have q13:x3_1<(a0.size:Int):=of_decide_eq_true zA; have hx13:=CF a0 x3_1; replace p13:=eq_true p13; replace q13:=eq_true q13))
          go_roundg k1
          case measure=>have:=HK1.out; omega
          case rel=>exact ⟨(wrap64 (x3_1+1)),zF,H',⟨by have:=HK1.out; omega⟩,by repeat (first|exact Drawn0.refl _|apply Drawn0.step)⟩
         ·rw [if_neg c14] at H
          have c14b0:((bt a0 x3_1)==95)=false:=beq_eq_false_iff_ne.mpr c14
          have c14b1:((bt a0 x3_1) !=95)=true:=bne_iff_ne.mpr c14
          obtain rfl:=Option.some.inj H
          have p4:0≤(x3_1:Int):=of_decide_eq_true zA
          have q4:x3_1<(a0.size:Int):=of_decide_eq_true zA
          have hx4:=CF a0 x3_1
          replace p4:=eq_true p4
          replace q4:=eq_true q4
          go_wp2_with (first|((with_reducible refine Ae (f:=70) rfl ?_); refine B6 (some 13) rfl rfl Try.func70 zI rfl #[.int .u8 (bt a0 x3_1)] rfl zD ?_; (with_reducible refine (BJ.calls (bt a0 x3_1) false _ A5.out).mono ?_); rintro e w' ⟨rfl,⟨nd,rfl⟩⟩; refine ⟨_,rfl,?_⟩; have p8:0≤(x3_1:Int):=of_decide_eq_true zA; have q8:x3_1<(a0.size:Int):=of_decide_eq_true zA; have hx8:=CF a0 x3_1; replace p8:=eq_true p8; replace q8:=eq_true q8)|(go_at_call 71; (with_reducible refine (BM.calls (bt a0 x3_1) false _ A9.out).mono ?_); rintro e w' ⟨rfl,⟨nd,rfl⟩⟩; have p11:0≤(x3_1:Int):=of_decide_eq_true zA; have q11:x3_1<(a0.size:Int):=of_decide_eq_true zA; have hx11:=CF a0 x3_1; replace p11:=eq_true p11; replace q11:=eq_true q11; have p13:0≤(x3_1:Int):=of_decide_eq_true zA; have q13:x3_1<(a0.size:Int):=of_decide_eq_true zA; have hx13:=CF a0 x3_1; replace p13:=eq_true p13; replace q13:=eq_true q13))
          go_ret
          exact ⟨by first|rfl|(simp; done)|(simp [*]; done),by repeat (first|exact Drawn0.refl _|apply Drawn0.step)⟩
    ·rw [if_neg c3] at H
     exact absurd H zY
   ·rw [if_neg c2] at H
    have c2b0:decide (x3_1<(a0.size:Int))=false:=decide_eq_false c2
    clear c2
    obtain rfl:=Option.some.inj H
    go_wp2
    go_ret
    exact ⟨by first|rfl|(simp; done)|(simp [*]; done),by repeat (first|exact Drawn0.refl _|apply Drawn0.step)⟩
end Go.Proofs.Ytdadecjefafflaa.PAll
end
section
namespace Go.Proofs.Ytdadecjefafflaa.PAll
set_option maxRecDepth 100000
open Go.RowKit Go.Proofs.YtdadecjefafflaaW.PrintWords Go.Proofs.YtdadecjefafflaaW.PrintLast Go.Proofs.YtdadecjefafflaaW.PrintMore
attribute [local go_sem] Bb BZ Bg Bf BU BT Ba BX
def BA.l0:Nat→ByteArray→List ByteArray→Int→Option (Bool)
 |0,_,_,_=>none
 |k+1,x0,x3,x4=>if x4<(x3.length:Int) then (if 0≤x4 then (if (rdOf ByteArray.empty x3 x4).toList=x0.toList then (some true) else (BA.l0 k x0 x3 (wrap64 (x4+1)))) else (none)) else (some false)
def BA.f (k:Nat) (a0:ByteArray):Option (Bool):=BA.l0 k a0 (([(⟨#[100,101,115,105,103,110]⟩:ByteArray),(⟨#[111,114,100,101,114]⟩:ByteArray),(⟨#[109,105,114,114,111,114]⟩:ByteArray),(⟨#[116,105,101,114]⟩:ByteArray),(⟨#[97,110,103,108,101]⟩:ByteArray),(⟨#[97,116]⟩:ByteArray),(⟨#[100,101,112,116,104]⟩:ByteArray),(⟨#[109,101,101,116]⟩:ByteArray),(⟨#[101,100,103,101]⟩:ByteArray),(⟨#[104,101,105,103,104,116]⟩:ByteArray),(⟨#[116,104,114,111,117,103,104]⟩:ByteArray)]:List ByteArray)) 0
set_option maxHeartbeats 8000000 in
theorem BA.calls (k:Nat) (a0:ByteArray) (r:Bool) (w:World) (h:BA.f k a0=some r):
  Calls Try.prog 63 #[.string a0] w fun e w'=>e= .returned (.bool r)∧Below w.heap.size w w':=by
 have HB:=Aside0.mk (Below.refl w.heap.size w)
 have H:(BA.l0 k a0 (([(⟨#[100,101,115,105,103,110]⟩:ByteArray),(⟨#[111,114,100,101,114]⟩:ByteArray),(⟨#[109,105,114,114,111,114]⟩:ByteArray),(⟨#[116,105,101,114]⟩:ByteArray),(⟨#[97,110,103,108,101]⟩:ByteArray),(⟨#[97,116]⟩:ByteArray),(⟨#[100,101,112,116,104]⟩:ByteArray),(⟨#[109,101,101,116]⟩:ByteArray),(⟨#[101,100,103,101]⟩:ByteArray),(⟨#[104,101,105,103,104,116]⟩:ByteArray),(⟨#[116,104,114,111,117,103,104]⟩:ByteArray)]:List ByteArray)) 0)=some r:=h
 clear h
 obtain ⟨y353,hy353⟩:∃y_:List ByteArray,y_=(([(⟨#[100,101,115,105,103,110]⟩:ByteArray),(⟨#[111,114,100,101,114]⟩:ByteArray),(⟨#[109,105,114,114,111,114]⟩:ByteArray),(⟨#[116,105,101,114]⟩:ByteArray),(⟨#[97,110,103,108,101]⟩:ByteArray),(⟨#[97,116]⟩:ByteArray),(⟨#[100,101,112,116,104]⟩:ByteArray),(⟨#[109,101,101,116]⟩:ByteArray),(⟨#[101,100,103,101]⟩:ByteArray),(⟨#[104,101,105,103,104,116]⟩:ByteArray),(⟨#[116,104,114,111,117,103,104]⟩:ByteArray)]:List ByteArray)):=⟨_,rfl⟩
 replace H:(BA.l0 k a0 y353 0)=some r:=by first|(rw [hy353]; with_reducible exact H)|(have H2_:=(Option.bind_some _ _).symm.trans H; rw [hy353]; with_reducible exact H2_)|(have H2_:=(Option.bind_some _ _).symm.trans H; with_reducible exact H2_)|with_reducible exact H|(rw [hy353]; exact H)|exact H
 have Ny353:=Aside0.mk hy353
 clear hy353
 have H':=Aside0.mk H
 clear H
 go_enter Try.func63,Try.ntmps63
 go_wp2_with (first|((with_reducible refine Ap (N:=5) rfl ?_); refine Kd.R_lit Kd.string _ 9 ?hg (N:=5) ?hd (xs:=([(⟨#[100,101,115,105,103,110]⟩:ByteArray),(⟨#[111,114,100,101,114]⟩:ByteArray),(⟨#[109,105,114,114,111,114]⟩:ByteArray),(⟨#[116,105,101,114]⟩:ByteArray),(⟨#[97,110,103,108,101]⟩:ByteArray),(⟨#[97,116]⟩:ByteArray),(⟨#[100,101,112,116,104]⟩:ByteArray),(⟨#[109,101,101,116]⟩:ByteArray),(⟨#[101,100,103,101]⟩:ByteArray),(⟨#[104,101,105,103,104,116]⟩:ByteArray),(⟨#[116,104,114,111,117,103,104]⟩:ByteArray)]:List ByteArray)) (inner:=[.string (⟨#[100,101,115,105,103,110]⟩:ByteArray),.string (⟨#[111,114,100,101,114]⟩:ByteArray),.string (⟨#[109,105,114,114,111,114]⟩:ByteArray),.string (⟨#[116,105,101,114]⟩:ByteArray),.string (⟨#[97,110,103,108,101]⟩:ByteArray),.string (⟨#[97,116]⟩:ByteArray),.string (⟨#[100,101,112,116,104]⟩:ByteArray),.string (⟨#[109,101,101,116]⟩:ByteArray),.string (⟨#[101,100,103,101]⟩:ByteArray),.string (⟨#[104,101,105,103,104,116]⟩:ByteArray),.string (⟨#[116,104,114,111,117,103,104]⟩:ByteArray)]) (ok:=fun _=>True) (okp:=fun _=>True) ?hr ?hp (fun _ hk=>hk) trivial (Below.refl _ _) (Nat.le_refl _) zY ?_; (case hd=>rfl); (case hg=>rfl); (case hr=>first|(go_simp; done)|(go_simp; rfl)); (case hp=>exact (Reps.one (show Kd.M Kd.string _ _ _ (⟨#[100,101,115,105,103,110]⟩:ByteArray) [.string (⟨#[100,101,115,105,103,110]⟩:ByteArray)] from rfl) (Reps.one (show Kd.M Kd.string _ _ _ (⟨#[111,114,100,101,114]⟩:ByteArray) [.string (⟨#[111,114,100,101,114]⟩:ByteArray)] from rfl) (Reps.one (show Kd.M Kd.string _ _ _ (⟨#[109,105,114,114,111,114]⟩:ByteArray) [.string (⟨#[109,105,114,114,111,114]⟩:ByteArray)] from rfl) (Reps.one (show Kd.M Kd.string _ _ _ (⟨#[116,105,101,114]⟩:ByteArray) [.string (⟨#[116,105,101,114]⟩:ByteArray)] from rfl) (Reps.one (show Kd.M Kd.string _ _ _ (⟨#[97,110,103,108,101]⟩:ByteArray) [.string (⟨#[97,110,103,108,101]⟩:ByteArray)] from rfl) (Reps.one (show Kd.M Kd.string _ _ _ (⟨#[97,116]⟩:ByteArray) [.string (⟨#[97,116]⟩:ByteArray)] from rfl) (Reps.one (show Kd.M Kd.string _ _ _ (⟨#[100,101,112,116,104]⟩:ByteArray) [.string (⟨#[100,101,112,116,104]⟩:ByteArray)] from rfl) (Reps.one (show Kd.M Kd.string _ _ _ (⟨#[109,101,101,116]⟩:ByteArray) [.string (⟨#[109,101,101,116]⟩:ByteArray)] from rfl) (Reps.one (show Kd.M Kd.string _ _ _ (⟨#[101,100,103,101]⟩:ByteArray) [.string (⟨#[101,100,103,101]⟩:ByteArray)] from rfl) (Reps.one (show Kd.M Kd.string _ _ _ (⟨#[104,101,105,103,104,116]⟩:ByteArray) [.string (⟨#[104,101,105,103,104,116]⟩:ByteArray)] from rfl) (Reps.one (show Kd.M Kd.string _ _ _ (⟨#[116,104,114,111,117,103,104]⟩:ByteArray) [.string (⟨#[116,104,114,111,117,103,104]⟩:ByteArray)] from rfl) (Reps.none _ _))))))))))))); intro v354 w2 ho3 hb hg_ hnew_; clear hg_ hnew_; (first|rw [←Ny353.out] at ho3|(simp only [Int.reduceToNat] at ho3; rw [←Ny353.out] at ho3)); have n0_:=Aside0.mk (Kd.R_lower ho3 (AQ zB)); have n1_:=Aside0.mk (AN zB hb); clear HB; have HO355:=n0_; have HB:=n1_; clear n0_ n1_; clear hb ho3))
 go_loopg [4] k (fun kq v4 w'=>∃(x4_1:Int),v4= .int .i64 x4_1∧Aside0 (BA.l0 kq a0 y353 x4_1=some r)∧Aside0 (kq≤k)∧Aside0 (Kd.R Kd.string 9 w' w.heap.size (fun _=>True) v354 y353)∧Aside0 (Below w.heap.size w w'))
 case atStart=>exact ⟨(0),zF,H',⟨Nat.le_refl _⟩,⟨by (with_reducible repeat (first|apply Kd.R_alloc|apply Kd.R_drewN|apply Kd.R_drew)); exact HO355.out⟩,⟨by repeat (first|(with_reducible first|exact HB.out|apply AE|apply AC|apply AD)|exact HB.out)⟩⟩
 case round=>
  clear H'
  try clear p2
  obtain ⟨x4_1,rfl,HA,HK1,HO_3,HB⟩:=hrel
  cases gk with
  |zero=>exact absurd HA.out (by simp [BA.l0])
  | succ k1=>
   have H:=HA.out
   clear HA
   simp only [BA.l0] at H
   by_cases c4:x4_1<(y353.length:Int)
   ·rw [if_pos c4] at H
    have c4b0:decide (x4_1<(y353.length:Int))=true:=decide_eq_true c4
    clear c4
    by_cases c5:0≤x4_1
    ·rw [if_pos c5] at H
     have c5b0:decide (0≤x4_1)=true:=decide_eq_true c5
     clear c5
     by_cases c6:(rdOf ByteArray.empty y353 x4_1).toList=a0.toList
     ·rw [if_pos c6] at H
      have c6b0:((rdOf ByteArray.empty y353 x4_1).toList==a0.toList)=true:=beq_iff_eq.mpr c6
      have c6b1:((rdOf ByteArray.empty y353 x4_1).toList !=a0.toList)=false:=bne_eq_false_iff_eq.mpr c6
      clear c6
      obtain rfl:=Option.some.inj H
      obtain ⟨Ao7,co7,eo7⟩:=Kd.R_slice HO_3.out
      subst eo7
      have p356:0≤(x4_1:Int):=of_decide_eq_true zA
      have q356:x4_1<(y353.length:Int):=of_decide_eq_true zA
      obtain ⟨ad356,e356,hx356_0⟩:=Kd.at_string (Kd.R_reads' HO_3.out).2.2 x4_1 p356 q356
      cases e356
      replace p356:=eq_true p356
      replace q356:=eq_true q356
      go_wp2
      go_ret
      exact ⟨by first|rfl|(simp [AU,AT]<;>rfl)|(simp [*,AU,AT]<;>rfl),by repeat (first|(with_reducible first|exact HB.out|apply AE|apply AC|apply AD)|exact HB.out)⟩
     ·rw [if_neg c6] at H
      have c6b0:((rdOf ByteArray.empty y353 x4_1).toList==a0.toList)=false:=beq_eq_false_iff_ne.mpr c6
      have c6b1:((rdOf ByteArray.empty y353 x4_1).toList !=a0.toList)=true:=bne_iff_ne.mpr c6
      have H':=Aside0.mk H
      clear H
      obtain ⟨Ao8,co8,eo8⟩:=Kd.R_slice HO_3.out
      subst eo8
      have p356:0≤(x4_1:Int):=of_decide_eq_true zA
      have q356:x4_1<(y353.length:Int):=of_decide_eq_true zA
      obtain ⟨ad356,e356,hx356_0⟩:=Kd.at_string (Kd.R_reads' HO_3.out).2.2 x4_1 p356 q356
      cases e356
      replace p356:=eq_true p356
      replace q356:=eq_true q356
      go_wp2
      go_roundg k1
      case measure=>have:=HK1.out; omega
      case rel=>exact ⟨(wrap64 (x4_1+1)),zF,H',⟨by have:=HK1.out; omega⟩,⟨by (with_reducible repeat (first|apply Kd.R_alloc|apply Kd.R_drewN|apply Kd.R_drew)); exact HO_3.out⟩,⟨by repeat (first|(with_reducible first|exact HB.out|apply AE|apply AC|apply AD)|exact HB.out)⟩⟩
    ·rw [if_neg c5] at H
     exact absurd H zY
   ·rw [if_neg c4] at H
    have c4b0:decide (x4_1<(y353.length:Int))=false:=decide_eq_false c4
    clear c4
    obtain rfl:=Option.some.inj H
    obtain ⟨Ao9,co9,eo9⟩:=Kd.R_slice HO_3.out
    subst eo9
    go_wp2
    go_ret
    exact ⟨by first|rfl|(simp [AU,AT]<;>rfl)|(simp [*,AU,AT]<;>rfl),by repeat (first|(with_reducible first|exact HB.out|apply AE|apply AC|apply AD)|exact HB.out)⟩
def B9.f (k:Nat) (a0:ByteArray):Option (Bool):=(At.f k a0).bind fun t357=>(if t357=true then (if (a0.size:Int)≤30 then ((BA.f k a0).bind fun t358=>(some (!t358))) else (some false)) else (some false))
set_option maxHeartbeats 8000000 in
theorem B9.calls (k:Nat) (a0:ByteArray) (r:Bool) (w:World) (h:B9.f k a0=some r):
  Calls Try.prog 55 #[.string a0] w fun e w'=>e= .returned (.bool r)∧Below w.heap.size w w':=by
 have HB:=Aside0.mk (Below.refl w.heap.size w)
 have H:((At.f k a0).bind fun t357=>(if t357=true then (if (a0.size:Int)≤30 then ((BA.f k a0).bind fun t358=>(some (!t358))) else (some false)) else (some false)))=some r:=h
 clear h
 replace H:=Option.bind_eq_some_iff.mp H
 obtain ⟨t357,A20,H⟩:=H
 replace H:(if t357=true then (if (a0.size:Int)≤30 then ((BA.f k a0).bind fun t358=>(some (!t358))) else (some false)) else (some false))=some r:=H
 have A2:=Aside0.mk A20
 clear A20
 by_cases c3:t357=true
 ·subst c3
  have H1:(if (a0.size:Int)≤30 then ((BA.f k a0).bind fun t358=>(some (!t358))) else (some false))=some r:=by rw [if_pos rfl] at H; exact H
  clear H
  have H:=H1
  clear H1
  by_cases c4:(a0.size:Int)≤30
  ·rw [if_pos c4] at H
   have c4b0:decide ((a0.size:Int)≤30)=true:=decide_eq_true c4
   have c4b1:decide (a0.size≤30)=true:=decide_eq_true zG
   clear c4
   replace H:=Option.bind_eq_some_iff.mp H
   obtain ⟨t358,A50,H⟩:=H
   replace H:(some (!t358))=some r:=H
   have A5:=Aside0.mk A50
   clear A50
   obtain rfl:=Option.some.inj H
   go_enter Try.func55,Try.ntmps55
   go_wp2_with (first|((with_reducible refine Ae (f:=62) rfl ?_); refine B6 (some 4) rfl rfl Try.func62 zI rfl #[.string a0] rfl zD ?_; (with_reducible refine (At.calls k a0 true _ A2.out).mono ?_); rintro e w' ⟨rfl,⟨nd,rfl⟩⟩; refine ⟨_,rfl,?_⟩)|(go_at_call 63; (with_reducible refine (BA.calls k a0 t358 _ A5.out).mono ?_); rintro e w6 ⟨rfl,hb⟩; have n0_:=Aside0.mk (AN zB hb); clear HB; have HB:=n0_; clear n0_; (try clear hb); (try clear hb2); (try clear hk); (try clear hi)))
   go_ret
   exact ⟨by first|rfl|(simp [AU,AT]<;>rfl)|(simp [*,AU,AT]<;>rfl),by repeat (first|(with_reducible first|exact HB.out|apply AE|apply AC|apply AD)|exact HB.out)⟩
  ·rw [if_neg c4] at H
   have c4b0:decide ((a0.size:Int)≤30)=false:=decide_eq_false c4
   have c4b1:decide (a0.size≤30)=false:=decide_eq_false zG
   clear c4
   obtain rfl:=Option.some.inj H
   go_enter Try.func55,Try.ntmps55
   go_wp2_with (first|((with_reducible refine Ae (f:=62) rfl ?_); refine B6 (some 4) rfl rfl Try.func62 zI rfl #[.string a0] rfl zD ?_; (with_reducible refine (At.calls k a0 true _ A2.out).mono ?_); rintro e w' ⟨rfl,⟨nd,rfl⟩⟩; refine ⟨_,rfl,?_⟩))
   go_ret
   exact ⟨by first|rfl|(simp [AU,AT]<;>rfl)|(simp [*,AU,AT]<;>rfl),by repeat (first|(with_reducible first|exact HB.out|apply AE|apply AC|apply AD)|exact HB.out)⟩
 ·replace c3:=Bool.eq_false_iff.mpr c3
  subst c3
  have H1:(some false)=some r:=by rw [if_neg (show ¬(false=true) by decide)] at H; exact H
  clear H
  have H:=H1
  clear H1
  obtain rfl:=Option.some.inj H
  go_enter Try.func55,Try.ntmps55
  go_wp2_with (first|((with_reducible refine Ae (f:=62) rfl ?_); refine B6 (some 4) rfl rfl Try.func62 zI rfl #[.string a0] rfl zD ?_; (with_reducible refine (At.calls k a0 false _ A2.out).mono ?_); rintro e w' ⟨rfl,⟨nd,rfl⟩⟩; refine ⟨_,rfl,?_⟩))
  go_ret
  exact ⟨by first|rfl|(simp [AU,AT]<;>rfl)|(simp [*,AU,AT]<;>rfl),by repeat (first|(with_reducible first|exact HB.out|apply AE|apply AC|apply AD)|exact HB.out)⟩
end Go.Proofs.Ytdadecjefafflaa.PAll
end
section
namespace Go.Proofs.Ytdadecjefafflaa.PAll
set_option maxRecDepth 100000
open Go.RowKit Go.Proofs.YtdadecjefafflaaW.PrintWords Go.Proofs.YtdadecjefafflaaW.PrintLast Go.Proofs.YtdadecjefafflaaW.PrintMore
attribute [local go_sem] Bb BZ Bg Bf BU BT Ba BX
mutual
def AR.j0:Nat→Bool→Int→List (S42)→Option (Bool)
 |0,_,_,_=>none
 |k+1,x20,x360000,x360001=>if x20=true then (some false) else (AR.l0 k 0 x360000 x360001)
def AR.l0:Nat→Int→Int→List (S42)→Option (Bool)
 |0,_,_,_=>none
 |k+1,x3,x360000,x360001=>if x3<(x360001.length:Int) then (if 0≤x3 then ((B9.f k ((AL x360001 x3).f0)).bind fun t362=>(if t362=true then (if ((AL x360001 x3).f1)<1 then (AR.j2 k x3 true x360000 x360001 ((AL x360001 x3).f0) ((AL x360001 x3).f1) ((AL x360001 x3).f2) ((AL x360001 x3).f3)) else (if ((AL x360001 x3).f1)>10000 then (AR.j2 k x3 true x360000 x360001 ((AL x360001 x3).f0) ((AL x360001 x3).f1) ((AL x360001 x3).f2) ((AL x360001 x3).f3)) else (if ((AL x360001 x3).f2)<0 then (AR.j2 k x3 true x360000 x360001 ((AL x360001 x3).f0) ((AL x360001 x3).f1) ((AL x360001 x3).f2) ((AL x360001 x3).f3)) else (AR.j2 k x3 (decide (((AL x360001 x3).f2)>1000000)) x360000 x360001 ((AL x360001 x3).f0) ((AL x360001 x3).f1) ((AL x360001 x3).f2) ((AL x360001 x3).f3))))) else (AR.j2 k x3 true x360000 x360001 ((AL x360001 x3).f0) ((AL x360001 x3).f1) ((AL x360001 x3).f2) ((AL x360001 x3).f3)))) else (none)) else (some true)
def AR.j2:Nat→Int→Bool→Int→List (S42)→ByteArray→Int→Int→List Int→Option (Bool)
 |0,_,_,_,_,_,_,_,_=>none
 |k+1,x3,x56,x360000,x360001,x362000,x362001,x362002,x362003=>if x56=true then (some false) else (AR.l1 k x3 0 x360000 x360001 x362000 x362001 x362002 x362003)
def AR.l1:Nat→Int→Int→Int→List (S42)→ByteArray→Int→Int→List Int→Option (Bool)
 |0,_,_,_,_,_,_,_,_=>none
 |k+1,x3,x5,x360000,x360001,x362000,x362001,x362002,x362003=>if x5<x3 then (if 0≤x5 then (if x5<(x360001.length:Int) then (if ((AL x360001 x5).f0).toList=x362000.toList then (some false) else (AR.l1 k x3 (wrap64 (x5+1)) x360000 x360001 x362000 x362001 x362002 x362003)) else (none)) else (none)) else (AR.l2 k x3 0 x360000 x360001 x362000 x362001 x362002 x362003)
def AR.l2:Nat→Int→Int→Int→List (S42)→ByteArray→Int→Int→List Int→Option (Bool)
 |0,_,_,_,_,_,_,_,_=>none
 |k+1,x3,x6,x360000,x360001,x362000,x362001,x362002,x362003=>if x6<(x362003.length:Int) then (if 0≤x6 then (if (rd x362003 x6)<0 then (some false) else (if (rd x362003 x6)≥x3 then (some false) else (if x6>0 then (if 0≤(wrap64 (x6-1)) then (if (wrap64 (x6-1))<(x362003.length:Int) then (if (rd x362003 (wrap64 (x6-1)))≥(rd x362003 x6) then (some false) else (AR.l2 k x3 (wrap64 (x6+1)) x360000 x360001 x362000 x362001 x362002 x362003)) else (none)) else (none)) else (AR.l2 k x3 (wrap64 (x6+1)) x360000 x360001 x362000 x362001 x362002 x362003)))) else (none)) else (AR.l0 k (wrap64 (x3+1)) x360000 x360001)
end
def AR.f (k:Nat) (A8:Int) (l0_1:List (S42)):Option (Bool):=if A8<1 then (AR.j0 k true A8 l0_1) else (if A8>4 then (AR.j0 k true A8 l0_1) else (AR.j0 k (decide ((l0_1.length:Int)>40)) A8 l0_1))
set_option maxHeartbeats 8000000 in
theorem AR.calls (k : Nat) (A8:Int) (A0_1:Option Addr) (c0_1:Nat) (l0_1:List (S42)) (r:Bool) (w:World) (hr0_1:Kd.C k42 w A0_1 l0_1.length l0_1) (hc0_1:l0_1.length≤c0_1) (h:AR.f k A8 l0_1=some r):
    Calls Try.prog 36 #[.agg #[.int .i64 A8,.slice A0_1 l0_1.length c0_1]] w fun e w'=>e= .returned (.bool r)∧Below w.heap.size w w':=by
  have hu24:=Try.underlying24
  have hu42:=Try.underlying42
  have HR0_1:=Aside0.mk hr0_1
  have HC0_1:=Aside0.mk hc0_1
  clear hr0_1 hc0_1
  have HB:=Aside0.mk (Below.refl w.heap.size w)
  have H:(if A8<1 then (AR.j0 k true A8 l0_1) else (if A8>4 then (AR.j0 k true A8 l0_1) else (AR.j0 k (decide ((l0_1.length:Int)>40)) A8 l0_1)))=some r:=h
  clear h
  have HC2:=Aside0.mk H
  clear H
  go_enter Try.func36,Try.ntmps36
  go_upto_region 1 with (first|((with_reducible refine Ap (N:=1) rfl ?_); (try (refine BC (by rfl) ?_; dsimp only)); refine Ar ?hg (N:=1) ?hd (cs:= #[.int .i64 A8,.slice A0_1 l0_1.length c0_1]) (t:=24) ?hr ?_; (case hd=>rfl); (case hg=>rfl); (case hr=>first|(go_simp; done)|(go_simp; rfl)); intro gb359 hg w3 hbox hb; have n0_:=Aside0.mk (AN zB hb); have n1_:=Aside0.mk (hbox); have n2_:=Aside0.mk ((by rw [hg]; exact (AQ zB):w.heap.size≤gb359)); have n3_:=Aside0.mk ((by rw [hg]; exact (AQ zB):w.heap.size≤gb359)); clear HB; have HB:=n0_; have BK359:=n1_; have GW359:=n2_; have GE359:=n3_; clear n0_ n1_ n2_ n3_; clear hb hbox hg))
  repeat (go_quiet (first|((with_reducible refine Ap (N:=1) rfl ?_); (try (refine BC (by rfl) ?_; dsimp only)); refine Ar ?hg (N:=1) ?hd (cs:= #[.int .i64 A8,.slice A0_1 l0_1.length c0_1]) (t:=24) ?hr ?_; (case hd=>rfl); (case hg=>rfl); (case hr=>first|(go_simp; done)|(go_simp; rfl)); intro gb359 hg w3 hbox hb; have n0_:=Aside0.mk (AN zB hb); have n1_:=Aside0.mk (hbox); have n2_:=Aside0.mk ((by rw [hg]; exact (AQ zB):w.heap.size≤gb359)); have n3_:=Aside0.mk ((by rw [hg]; exact (AQ zB):w.heap.size≤gb359)); clear HB; have HB:=n0_; have BK359:=n1_; have GW359:=n2_; have GE359:=n3_; clear n0_ n1_ n2_ n3_; clear hb hbox hg)); go_upto_region 1 with (first|((with_reducible refine Ap (N:=1) rfl ?_); (try (refine BC (by rfl) ?_; dsimp only)); refine Ar ?hg (N:=1) ?hd (cs:= #[.int .i64 A8,.slice A0_1 l0_1.length c0_1]) (t:=24) ?hr ?_; (case hd=>rfl); (case hg=>rfl); (case hr=>first|(go_simp; done)|(go_simp; rfl)); intro gb359 hg w3 hbox hb; have n0_:=Aside0.mk (AN zB hb); have n1_:=Aside0.mk (hbox); have n2_:=Aside0.mk ((by rw [hg]; exact (AQ zB):w.heap.size≤gb359)); have n3_:=Aside0.mk ((by rw [hg]; exact (AQ zB):w.heap.size≤gb359)); clear HB; have HB:=n0_; have BK359:=n1_; have GW359:=n2_; have GE359:=n3_; clear n0_ n1_ n2_ n3_; clear hb hbox hg)))
  (try simp only [Act.put,List.setIfInBounds_toArray,List.set_cons_zero,List.set_cons_succ])
  go_cut [20] (fun v20 wc=>∃(kq:Nat) (x20_1:Bool),v20= .bool x20_1∧Aside0 (AR.j0 kq x20_1 A8 l0_1=some r)∧Aside0 (kq≤k)∧Aside0 (wc.heap[gb359]? =some (.cells #[.int .i64 A8,(.slice A0_1 l0_1.length c0_1)] 24 (0,0)))∧Aside0 (Below w.heap.size w wc))
  case first=>
    have H:=HC2.out
    clear HC2
    by_cases c4:A8<1
    · rw [if_pos c4] at H
      have c4b0:decide (A8<1)=true:=decide_eq_true c4
      clear c4
      (first|rw [c4b0]|(simp only [AZ,Ab]; rw [c4b0])|skip)
      have H':=Aside0.mk H
      clear H
      have hcz5_0:w3.cell? ⟨gb359,0,none⟩=some (.int .i64 A8):=(AK BK359.out 0).trans rfl
      have hcz5_1:w3.cell? ⟨gb359,1,none⟩=some (.slice A0_1 l0_1.length c0_1):=(AK BK359.out 1).trans rfl
      have hfz5_0:=AJ BK359.out 0
      have hfz5_1:=AJ BK359.out 1
      go_wp2
      repeat (go_quiet (fail); try go_wp2)
      go_meet
      case rel=>exact ⟨_,(true),zF,H',⟨by first|omega|exact Nat.le_refl _⟩,⟨by (with_reducible repeat (first|refine AF ?_ _|refine AH ?_|refine AG ?_ _)); exact BK359.out⟩,⟨by repeat (first|(with_reducible first|exact HB.out|apply AE|apply AC|apply AD|refine AI ?_ GE359.out)|exact HB.out)⟩⟩
    · rw [if_neg c4] at H
      have c4b0:decide (A8<1)=false:=decide_eq_false c4
      clear c4
      (first|rw [c4b0]|(simp only [AZ,Ab]; rw [c4b0])|skip)
      by_cases c6:A8>4
      · rw [if_pos c6] at H
        have c6b0:decide (4<A8)=true:=decide_eq_true c6
        clear c6
        have H':=Aside0.mk H
        clear H
        have hcz7_0:w3.cell? ⟨gb359,0,none⟩=some (.int .i64 A8):=(AK BK359.out 0).trans rfl
        have hcz7_1:w3.cell? ⟨gb359,1,none⟩=some (.slice A0_1 l0_1.length c0_1):=(AK BK359.out 1).trans rfl
        have hfz7_0:=AJ BK359.out 0
        have hfz7_1:=AJ BK359.out 1
        go_wp2
        repeat (go_quiet (fail); try go_wp2)
        go_meet
        case rel=>exact ⟨_,(true),zF,H',⟨by first|omega|exact Nat.le_refl _⟩,⟨by (with_reducible repeat (first|refine AF ?_ _|refine AH ?_|refine AG ?_ _)); exact BK359.out⟩,⟨by repeat (first|(with_reducible first|exact HB.out|apply AE|apply AC|apply AD|refine AI ?_ GE359.out)|exact HB.out)⟩⟩
      · rw [if_neg c6] at H
        have c6b0:decide (4<A8)=false:=decide_eq_false c6
        clear c6
        have H':=Aside0.mk H
        clear H
        have hcz8_0:w3.cell? ⟨gb359,0,none⟩=some (.int .i64 A8):=(AK BK359.out 0).trans rfl
        have hcz8_1:w3.cell? ⟨gb359,1,none⟩=some (.slice A0_1 l0_1.length c0_1):=(AK BK359.out 1).trans rfl
        have hfz8_0:=AJ BK359.out 0
        have hfz8_1:=AJ BK359.out 1
        go_wp2
        repeat (go_quiet (fail); try go_wp2)
        go_meet
        case rel=>exact ⟨_,(decide ((l0_1.length:Int)>40)),zF,H',⟨by first|omega|exact Nat.le_refl _⟩,⟨by (with_reducible repeat (first|refine AF ?_ _|refine AH ?_|refine AG ?_ _)); exact BK359.out⟩,⟨by repeat (first|(with_reducible first|exact HB.out|apply AE|apply AC|apply AD|refine AI ?_ GE359.out)|exact HB.out)⟩⟩
  case rest =>
    clear HC2
    try clear p2
    try clear c3
    try clear c4
    try clear c4b0
    try clear c6
    try clear c6b0
    try clear hcz5_0
    try clear hcz5_1
    try clear hcz7_0
    try clear hcz7_1
    try clear hcz8_0
    try clear hcz8_1
    try clear hfz5_0
    try clear hfz5_1
    try clear hfz7_0
    try clear hfz7_1
    try clear hfz8_0
    try clear hfz8_1
    obtain ⟨kq,x20_1,rfl,HA,HJ1,BK359,HB⟩:=hcut
    cases kq with
    |zero=>exact absurd HA.out (by simp [AR.j0])
    | succ kj1=>
      have H:=HA.out
      clear HA
      simp only [AR.j0] at H
      by_cases c9:x20_1=true
      · subst c9
        have H1:(some false)=some r:=by rw [if_pos rfl] at H; exact H
        clear H
        have H:=H1
        clear H1
        obtain rfl:=Option.some.inj H
        go_wp2
        repeat (go_quiet (fail); try go_wp2)
        go_ret
        exact ⟨by first|rfl|(simp [AU,AT]<;>rfl)|(simp [*,AU,AT]<;>rfl),by repeat (first|(with_reducible first|exact HB.out|apply AE|apply AC|apply AD|refine AI ?_ GE359.out)|exact HB.out)⟩
      · replace c9 := Bool.eq_false_iff.mpr c9
        subst c9
        have H1:(AR.l0 kj1 0 A8 l0_1)=some r:=by rw [if_neg (show ¬(false=true) by decide)] at H; exact H
        clear H
        have H:=H1
        clear H1
        have H':=Aside0.mk H
        clear H
        go_wp2
        repeat (go_quiet (fail); try go_wp2)
        go_loopg [3] kj1 (fun kq v3 w'=>∃(x3_2:Int),v3= .int .i64 x3_2∧Aside0 (AR.l0 kq x3_2 A8 l0_1=some r)∧Aside0 (kq≤kj1)∧Aside0 (w'.heap[gb359]? =some (.cells #[.int .i64 A8,(.slice A0_1 l0_1.length c0_1)] 24 (0,0)))∧Aside0 (Below w.heap.size w w'))
        case atStart=>exact ⟨(0),zF,H',⟨Nat.le_refl _⟩,⟨by (with_reducible repeat (first|refine AF ?_ _|refine AH ?_|refine AG ?_ _)); exact BK359.out⟩,⟨by repeat (first|(with_reducible first|exact HB.out|apply AE|apply AC|apply AD|refine AI ?_ GE359.out)|exact HB.out)⟩⟩
        case round=>
          clear H'
          try clear p2
          try clear c3
          try clear c4
          try clear c4b0
          try clear c6
          try clear c6b0
          try clear c9
          try clear hcz5_0
          try clear hcz5_1
          try clear hcz7_0
          try clear hcz7_1
          try clear hcz8_0
          try clear hcz8_1
          try clear hfz5_0
          try clear hfz5_1
          try clear hfz7_0
          try clear hfz7_1
          try clear hfz8_0
          try clear hfz8_1
          try clear p2
          obtain ⟨x3_2,rfl,HA,HK2,BK359,HB⟩:=hrel
          cases gk with
          |zero=>exact absurd HA.out (by simp [AR.l0])
          | succ k2 =>
            have H:=HA.out
            clear HA
            simp only [AR.l0] at H
            by_cases c10:x3_2<(l0_1.length:Int)
            · rw [if_pos c10] at H
              have c10b0:decide (x3_2<(l0_1.length:Int))=true:=decide_eq_true c10
              clear c10
              by_cases c11:0≤x3_2
              · rw [if_pos c11] at H
                have c11b0:decide (0≤x3_2)=true:=decide_eq_true c11
                clear c11
                have HC12:=Aside0.mk H
                clear H
                have hcz13_0:wr.cell? ⟨gb359,0,none⟩=some (.int .i64 A8):=(AK BK359.out 0).trans rfl
                have hcz13_1:wr.cell? ⟨gb359,1,none⟩=some (.slice A0_1 l0_1.length c0_1):=(AK BK359.out 1).trans rfl
                have hfz13_0:=AJ BK359.out 0
                have hfz13_1:=AJ BK359.out 1
                have p360:0≤(x3_2:Int):=of_decide_eq_true zA
                have q360:x3_2<(l0_1.length:Int):=of_decide_eq_true zA
                obtain ⟨ad360,A360_3,c360_3,e360,hx360_0,hx360_1,hx360_2,hx360_3,hl360_3,hi360_3⟩:=BR HR0_1.out x3_2 p360 q360
                cases e360
                replace hx360_0:=(HB.out.cell (World.block_lt_of_cell? w _ hx360_0)).trans hx360_0
                replace hx360_1:=(HB.out.cell (World.block_lt_of_cell? w _ hx360_1)).trans hx360_1
                replace hx360_2:=(HB.out.cell (World.block_lt_of_cell? w _ hx360_2)).trans hx360_2
                replace hx360_3:=(HB.out.cell (World.block_lt_of_cell? w _ hx360_3)).trans hx360_3
                have HR360_3:=Aside0.mk hi360_3
                have HC360_3:=Aside0.mk hl360_3
                clear hi360_3 hl360_3
                replace p360:=eq_true p360
                replace q360:=eq_true q360
                go_upto_region 7 with (first|((with_reducible refine Ap (N:=4) rfl ?_); (try (refine BC (by rfl) ?_; dsimp only)); refine Ar ?hg (N:=4) ?hd (cs:= #[.string (⟨#[]⟩:ByteArray),.int .i64 0,.int .i64 0,.slice none 0 0]) (t:=42) ?hr ?_; (case hd=>rfl); (case hg=>rfl); (case hr=>first|(go_simp; done)|(go_simp; rfl)); intro gb361 hg w14 hbox hb; have n0_:=Aside0.mk (AP (g:=gb359) (o:= .cells #[.int .i64 A8,.slice (some ad360) l0_1.length c0_1] 24 (0,0)) zB2 hb); have n1_:=Aside0.mk (AN zA9 hb); have n2_:=Aside0.mk (hbox); have n3_:=Aside0.mk ((by rw [hg]; exact (AQ zA9):w.heap.size≤gb361)); have n4_:=Aside0.mk ((by rw [hg]; exact (AQ zA9):w.heap.size≤gb361)); have n5_:=Aside0.mk ((by rw [hg]; exact Nat.ne_of_lt (B5 (g:=gb359) (o:= .cells #[.int .i64 A8,.slice (some ad360) l0_1.length c0_1] 24 (0,0)) zB2):gb359≠gb361)); have n6_:=Aside0.mk ((by rw [hg]; exact Nat.ne_of_gt (B5 (g:=gb359) (o:= .cells #[.int .i64 A8,.slice (some ad360) l0_1.length c0_1] 24 (0,0)) zB2):gb361≠gb359)); clear BK359; clear HB; have BK359:=n0_; have HB:=n1_; have BK361:=n2_; have GW361:=n3_; have GE361:=n4_; have NB359_361:=n5_; have NB361_359:=n6_; clear n0_ n1_ n2_ n3_ n4_ n5_ n6_; clear hb hbox hg; have hnb15:=NB361_359.out; have hnc15:=NB359_361.out; have hcz16_0:w14.cell? ⟨gb361,0,none⟩=some (.string (⟨#[]⟩:ByteArray)):=(AK BK361.out 0).trans rfl; have hcz16_1:w14.cell? ⟨gb361,1,none⟩=some (.int .i64 0):=(AK BK361.out 1).trans rfl; have hcz16_2:w14.cell? ⟨gb361,2,none⟩=some (.int .i64 0):=(AK BK361.out 2).trans rfl; have hcz16_3:w14.cell? ⟨gb361,3,none⟩=some (.slice none 0 0):=(AK BK361.out 3).trans rfl; have hfz16_0:=AJ BK361.out 0; have hfz16_1:=AJ BK361.out 1; have hfz16_2:=AJ BK361.out 2; have hfz16_3:=AJ BK361.out 3))
                repeat (go_quiet (first|((with_reducible refine Ap (N:=4) rfl ?_); (try (refine BC (by rfl) ?_; dsimp only)); refine Ar ?hg (N:=4) ?hd (cs:= #[.string (⟨#[]⟩:ByteArray),.int .i64 0,.int .i64 0,.slice none 0 0]) (t:=42) ?hr ?_; (case hd=>rfl); (case hg=>rfl); (case hr=>first|(go_simp; done)|(go_simp; rfl)); intro gb361 hg w14 hbox hb; have n0_:=Aside0.mk (AP (g:=gb359) (o:= .cells #[.int .i64 A8,.slice (some ad360) l0_1.length c0_1] 24 (0,0)) zB2 hb); have n1_:=Aside0.mk (AN zA9 hb); have n2_:=Aside0.mk (hbox); have n3_:=Aside0.mk ((by rw [hg]; exact (AQ zA9):w.heap.size≤gb361)); have n4_:=Aside0.mk ((by rw [hg]; exact (AQ zA9):w.heap.size≤gb361)); have n5_:=Aside0.mk ((by rw [hg]; exact Nat.ne_of_lt (B5 (g:=gb359) (o:= .cells #[.int .i64 A8,.slice (some ad360) l0_1.length c0_1] 24 (0,0)) zB2):gb359≠gb361)); have n6_:=Aside0.mk ((by rw [hg]; exact Nat.ne_of_gt (B5 (g:=gb359) (o:= .cells #[.int .i64 A8,.slice (some ad360) l0_1.length c0_1] 24 (0,0)) zB2):gb361≠gb359)); clear BK359; clear HB; have BK359:=n0_; have HB:=n1_; have BK361:=n2_; have GW361:=n3_; have GE361:=n4_; have NB359_361:=n5_; have NB361_359:=n6_; clear n0_ n1_ n2_ n3_ n4_ n5_ n6_; clear hb hbox hg; have hnb15:=NB361_359.out; have hnc15:=NB359_361.out; have hcz16_0:w14.cell? ⟨gb361,0,none⟩=some (.string (⟨#[]⟩:ByteArray)):=(AK BK361.out 0).trans rfl; have hcz16_1:w14.cell? ⟨gb361,1,none⟩=some (.int .i64 0):=(AK BK361.out 1).trans rfl; have hcz16_2:w14.cell? ⟨gb361,2,none⟩=some (.int .i64 0):=(AK BK361.out 2).trans rfl; have hcz16_3:w14.cell? ⟨gb361,3,none⟩=some (.slice none 0 0):=(AK BK361.out 3).trans rfl; have hfz16_0:=AJ BK361.out 0; have hfz16_1:=AJ BK361.out 1; have hfz16_2:=AJ BK361.out 2; have hfz16_3:=AJ BK361.out 3)); go_upto_region 7 with (first|((with_reducible refine Ap (N:=4) rfl ?_); (try (refine BC (by rfl) ?_; dsimp only)); refine Ar ?hg (N:=4) ?hd (cs:= #[.string (⟨#[]⟩:ByteArray),.int .i64 0,.int .i64 0,.slice none 0 0]) (t:=42) ?hr ?_; (case hd=>rfl); (case hg=>rfl); (case hr=>first|(go_simp; done)|(go_simp; rfl)); intro gb361 hg w14 hbox hb; have n0_:=Aside0.mk (AP (g:=gb359) (o:= .cells #[.int .i64 A8,.slice (some ad360) l0_1.length c0_1] 24 (0,0)) zB2 hb); have n1_:=Aside0.mk (AN zA9 hb); have n2_:=Aside0.mk (hbox); have n3_:=Aside0.mk ((by rw [hg]; exact (AQ zA9):w.heap.size≤gb361)); have n4_:=Aside0.mk ((by rw [hg]; exact (AQ zA9):w.heap.size≤gb361)); have n5_:=Aside0.mk ((by rw [hg]; exact Nat.ne_of_lt (B5 (g:=gb359) (o:= .cells #[.int .i64 A8,.slice (some ad360) l0_1.length c0_1] 24 (0,0)) zB2):gb359≠gb361)); have n6_:=Aside0.mk ((by rw [hg]; exact Nat.ne_of_gt (B5 (g:=gb359) (o:= .cells #[.int .i64 A8,.slice (some ad360) l0_1.length c0_1] 24 (0,0)) zB2):gb361≠gb359)); clear BK359; clear HB; have BK359:=n0_; have HB:=n1_; have BK361:=n2_; have GW361:=n3_; have GE361:=n4_; have NB359_361:=n5_; have NB361_359:=n6_; clear n0_ n1_ n2_ n3_ n4_ n5_ n6_; clear hb hbox hg; have hnb15:=NB361_359.out; have hnc15:=NB359_361.out; have hcz16_0:w14.cell? ⟨gb361,0,none⟩=some (.string (⟨#[]⟩:ByteArray)):=(AK BK361.out 0).trans rfl; have hcz16_1:w14.cell? ⟨gb361,1,none⟩=some (.int .i64 0):=(AK BK361.out 1).trans rfl; have hcz16_2:w14.cell? ⟨gb361,2,none⟩=some (.int .i64 0):=(AK BK361.out 2).trans rfl; have hcz16_3:w14.cell? ⟨gb361,3,none⟩=some (.slice none 0 0):=(AK BK361.out 3).trans rfl; have hfz16_0:=AJ BK361.out 0; have hfz16_1:=AJ BK361.out 1; have hfz16_2:=AJ BK361.out 2; have hfz16_3:=AJ BK361.out 3)))
                (try simp only [Act.put,List.setIfInBounds_toArray,List.set_cons_zero,List.set_cons_succ])
                go_cut [56] (fun v56 wc=>∃(kq:Nat) (x56_11:Bool),v56= .bool x56_11∧Aside0 (AR.j2 kq x3_2 x56_11 A8 l0_1 ((AL l0_1 x3_2).f0) ((AL l0_1 x3_2).f1) ((AL l0_1 x3_2).f2) ((AL l0_1 x3_2).f3)=some r)∧Aside0 (kq≤k2)∧Aside0 (wc.heap[gb359]? =some (.cells #[.int .i64 A8,(.slice (some ad360) l0_1.length c0_1)] 24 (0,0)))∧Aside0 (wc.heap[gb361]? =some (.cells #[.string ((AL l0_1 x3_2).f0),.int .i64 ((AL l0_1 x3_2).f1),.int .i64 ((AL l0_1 x3_2).f2),(.slice A360_3 ((AL l0_1 x3_2).f3).length c360_3)] 42 (0,0)))∧Aside0 (Below w.heap.size w wc))
                case first=>
                  have H:=HC12.out
                  clear HC12
                  replace H:=Option.bind_eq_some_iff.mp H
                  obtain ⟨t362,A170,H⟩:=H
                  replace H:(if t362=true then (if ((AL l0_1 x3_2).f1)<1 then (AR.j2 k2 x3_2 true A8 l0_1 ((AL l0_1 x3_2).f0) ((AL l0_1 x3_2).f1) ((AL l0_1 x3_2).f2) ((AL l0_1 x3_2).f3)) else (if ((AL l0_1 x3_2).f1)>10000 then (AR.j2 k2 x3_2 true A8 l0_1 ((AL l0_1 x3_2).f0) ((AL l0_1 x3_2).f1) ((AL l0_1 x3_2).f2) ((AL l0_1 x3_2).f3)) else (if ((AL l0_1 x3_2).f2)<0 then (AR.j2 k2 x3_2 true A8 l0_1 ((AL l0_1 x3_2).f0) ((AL l0_1 x3_2).f1) ((AL l0_1 x3_2).f2) ((AL l0_1 x3_2).f3)) else (AR.j2 k2 x3_2 (decide (((AL l0_1 x3_2).f2)>1000000)) A8 l0_1 ((AL l0_1 x3_2).f0) ((AL l0_1 x3_2).f1) ((AL l0_1 x3_2).f2) ((AL l0_1 x3_2).f3))))) else (AR.j2 k2 x3_2 true A8 l0_1 ((AL l0_1 x3_2).f0) ((AL l0_1 x3_2).f1) ((AL l0_1 x3_2).f2) ((AL l0_1 x3_2).f3)))=some r:=H
                  have A17:=Aside0.mk A170
                  clear A170
                  by_cases c18:t362=true
                  · subst c18
                    have H1:(if ((AL l0_1 x3_2).f1)<1 then (AR.j2 k2 x3_2 true A8 l0_1 ((AL l0_1 x3_2).f0) ((AL l0_1 x3_2).f1) ((AL l0_1 x3_2).f2) ((AL l0_1 x3_2).f3)) else (if ((AL l0_1 x3_2).f1)>10000 then (AR.j2 k2 x3_2 true A8 l0_1 ((AL l0_1 x3_2).f0) ((AL l0_1 x3_2).f1) ((AL l0_1 x3_2).f2) ((AL l0_1 x3_2).f3)) else (if ((AL l0_1 x3_2).f2)<0 then (AR.j2 k2 x3_2 true A8 l0_1 ((AL l0_1 x3_2).f0) ((AL l0_1 x3_2).f1) ((AL l0_1 x3_2).f2) ((AL l0_1 x3_2).f3)) else (AR.j2 k2 x3_2 (decide (((AL l0_1 x3_2).f2)>1000000)) A8 l0_1 ((AL l0_1 x3_2).f0) ((AL l0_1 x3_2).f1) ((AL l0_1 x3_2).f2) ((AL l0_1 x3_2).f3)))))=some r:=by rw [if_pos rfl] at H; exact H
                    clear H
                    have H:=H1
                    clear H1
                    by_cases c19:((AL l0_1 x3_2).f1)<1
                    · rw [if_pos c19] at H
                      have c19b0:decide (((AL l0_1 x3_2).f1)<1)=true:=decide_eq_true c19
                      clear c19
                      (first|rw [c19b0]|(simp only [AZ,Ab]; rw [c19b0])|skip)
                      have H':=Aside0.mk H
                      clear H
                      have hnb20:=NB361_359.out
                      have hnc20:=NB359_361.out
                      have hcz21_0:w14.cell? ⟨gb361,0,none⟩=some (.string (⟨#[]⟩:ByteArray)):=(AK BK361.out 0).trans rfl
                      have hcz21_1:w14.cell? ⟨gb361,1,none⟩=some (.int .i64 0):=(AK BK361.out 1).trans rfl
                      have hcz21_2:w14.cell? ⟨gb361,2,none⟩=some (.int .i64 0):=(AK BK361.out 2).trans rfl
                      have hcz21_3:w14.cell? ⟨gb361,3,none⟩=some (.slice none 0 0):=(AK BK361.out 3).trans rfl
                      have hfz21_0:=AJ BK361.out 0
                      have hfz21_1:=AJ BK361.out 1
                      have hfz21_2:=AJ BK361.out 2
                      have hfz21_3:=AJ BK361.out 3
                      go_wp2_with (first|(go_at_call 55; (with_reducible refine (B9.calls k2 ((AL l0_1 x3_2).f0) true _ A17.out).mono ?_); rintro e w22 ⟨rfl,hb⟩; have n0_:=Aside0.mk (AP (g:=gb359) (o:= .cells #[.int .i64 A8,.slice (some ad360) l0_1.length c0_1] 24 (0,0)) zE hb); have n1_:=Aside0.mk (AP (g:=gb361) (o:= .cells #[.string ((AL l0_1 x3_2).f0),.int .i64 ((AL l0_1 x3_2).f1),.int .i64 ((AL l0_1 x3_2).f2),.slice A360_3 ((AL l0_1 x3_2).f3).length c360_3] 42 (0,0)) zC hb); have n2_:=Aside0.mk (AN zP hb); clear BK359; clear BK361; clear HB; have BK359:=n0_; have BK361:=n1_; have HB:=n2_; clear n0_ n1_ n2_; (try clear hb); (try clear hb2); (try clear hk); (try clear hi); have hcz23_0:w22.cell? ⟨gb361,0,none⟩=some (.string ((AL l0_1 x3_2).f0)):=(AK BK361.out 0).trans rfl; have hcz23_1:w22.cell? ⟨gb361,1,none⟩=some (.int .i64 ((AL l0_1 x3_2).f1)):=(AK BK361.out 1).trans rfl; have hcz23_2:w22.cell? ⟨gb361,2,none⟩=some (.int .i64 ((AL l0_1 x3_2).f2)):=(AK BK361.out 2).trans rfl; have hcz23_3:w22.cell? ⟨gb361,3,none⟩=some (.slice A360_3 ((AL l0_1 x3_2).f3).length c360_3):=(AK BK361.out 3).trans rfl; have hfz23_0:=AJ BK361.out 0; have hfz23_1:=AJ BK361.out 1; have hfz23_2:=AJ BK361.out 2; have hfz23_3:=AJ BK361.out 3))
                      repeat (go_quiet (first|(go_at_call 55; (with_reducible refine (B9.calls k2 ((AL l0_1 x3_2).f0) true _ A17.out).mono ?_); rintro e w22 ⟨rfl,hb⟩; have n0_:=Aside0.mk (AP (g:=gb359) (o:= .cells #[.int .i64 A8,.slice (some ad360) l0_1.length c0_1] 24 (0,0)) zE hb); have n1_:=Aside0.mk (AP (g:=gb361) (o:= .cells #[.string ((AL l0_1 x3_2).f0),.int .i64 ((AL l0_1 x3_2).f1),.int .i64 ((AL l0_1 x3_2).f2),.slice A360_3 ((AL l0_1 x3_2).f3).length c360_3] 42 (0,0)) zC hb); have n2_:=Aside0.mk (AN zP hb); clear BK359; clear BK361; clear HB; have BK359:=n0_; have BK361:=n1_; have HB:=n2_; clear n0_ n1_ n2_; (try clear hb); (try clear hb2); (try clear hk); (try clear hi); have hcz23_0:w22.cell? ⟨gb361,0,none⟩=some (.string ((AL l0_1 x3_2).f0)):=(AK BK361.out 0).trans rfl; have hcz23_1:w22.cell? ⟨gb361,1,none⟩=some (.int .i64 ((AL l0_1 x3_2).f1)):=(AK BK361.out 1).trans rfl; have hcz23_2:w22.cell? ⟨gb361,2,none⟩=some (.int .i64 ((AL l0_1 x3_2).f2)):=(AK BK361.out 2).trans rfl; have hcz23_3:w22.cell? ⟨gb361,3,none⟩=some (.slice A360_3 ((AL l0_1 x3_2).f3).length c360_3):=(AK BK361.out 3).trans rfl; have hfz23_0:=AJ BK361.out 0; have hfz23_1:=AJ BK361.out 1; have hfz23_2:=AJ BK361.out 2; have hfz23_3:=AJ BK361.out 3; clear A17)); try go_wp2_with (first|(go_at_call 55; (with_reducible refine (B9.calls k2 ((AL l0_1 x3_2).f0) true _ A17.out).mono ?_); rintro e w22 ⟨rfl,hb⟩; have n0_:=Aside0.mk (AP (g:=gb359) (o:= .cells #[.int .i64 A8,.slice (some ad360) l0_1.length c0_1] 24 (0,0)) zE hb); have n1_:=Aside0.mk (AP (g:=gb361) (o:= .cells #[.string ((AL l0_1 x3_2).f0),.int .i64 ((AL l0_1 x3_2).f1),.int .i64 ((AL l0_1 x3_2).f2),.slice A360_3 ((AL l0_1 x3_2).f3).length c360_3] 42 (0,0)) zC hb); have n2_:=Aside0.mk (AN zP hb); clear BK359; clear BK361; clear HB; have BK359:=n0_; have BK361:=n1_; have HB:=n2_; clear n0_ n1_ n2_; (try clear hb); (try clear hb2); (try clear hk); (try clear hi); have hcz23_0:w22.cell? ⟨gb361,0,none⟩=some (.string ((AL l0_1 x3_2).f0)):=(AK BK361.out 0).trans rfl; have hcz23_1:w22.cell? ⟨gb361,1,none⟩=some (.int .i64 ((AL l0_1 x3_2).f1)):=(AK BK361.out 1).trans rfl; have hcz23_2:w22.cell? ⟨gb361,2,none⟩=some (.int .i64 ((AL l0_1 x3_2).f2)):=(AK BK361.out 2).trans rfl; have hcz23_3:w22.cell? ⟨gb361,3,none⟩=some (.slice A360_3 ((AL l0_1 x3_2).f3).length c360_3):=(AK BK361.out 3).trans rfl; have hfz23_0:=AJ BK361.out 0; have hfz23_1:=AJ BK361.out 1; have hfz23_2:=AJ BK361.out 2; have hfz23_3:=AJ BK361.out 3; clear A17)))
                      go_meet
                      case rel=>exact ⟨_,(true),zF,H',⟨by have:=HJ1.out; have:=HK2.out; first|omega|exact Nat.le_refl _⟩,⟨by (with_reducible repeat (first|refine AF ?_ _|refine AH ?_|refine AG ?_ _)); exact BK359.out⟩,⟨by (with_reducible repeat (first|refine AF ?_ _|refine AH ?_|refine AG ?_ _)); exact BK361.out⟩,⟨by repeat (first|(with_reducible first|exact HB.out|apply AE|apply AC|apply AD|refine AI ?_ GE359.out|refine AI ?_ GE361.out)|exact HB.out)⟩⟩
                    · rw [if_neg c19] at H
                      have c19b0:decide (((AL l0_1 x3_2).f1)<1)=false:=decide_eq_false c19
                      clear c19
                      (first|rw [c19b0]|(simp only [AZ,Ab]; rw [c19b0])|skip)
                      by_cases c24:((AL l0_1 x3_2).f1)>10000
                      · rw [if_pos c24] at H
                        have c24b0:decide (10000<((AL l0_1 x3_2).f1))=true:=decide_eq_true c24
                        clear c24
                        have H':=Aside0.mk H
                        clear H
                        have hnb25:=NB361_359.out
                        have hnc25:=NB359_361.out
                        have hcz26_0:w14.cell? ⟨gb361,0,none⟩=some (.string (⟨#[]⟩:ByteArray)):=(AK BK361.out 0).trans rfl
                        have hcz26_1:w14.cell? ⟨gb361,1,none⟩=some (.int .i64 0):=(AK BK361.out 1).trans rfl
                        have hcz26_2:w14.cell? ⟨gb361,2,none⟩=some (.int .i64 0):=(AK BK361.out 2).trans rfl
                        have hcz26_3:w14.cell? ⟨gb361,3,none⟩=some (.slice none 0 0):=(AK BK361.out 3).trans rfl
                        have hfz26_0:=AJ BK361.out 0
                        have hfz26_1:=AJ BK361.out 1
                        have hfz26_2:=AJ BK361.out 2
                        have hfz26_3:=AJ BK361.out 3
                        go_wp2_with (first|(go_at_call 55; (with_reducible refine (B9.calls k2 ((AL l0_1 x3_2).f0) true _ A17.out).mono ?_); rintro e w27 ⟨rfl,hb⟩; have n0_:=Aside0.mk (AP (g:=gb359) (o:= .cells #[.int .i64 A8,.slice (some ad360) l0_1.length c0_1] 24 (0,0)) zE hb); have n1_:=Aside0.mk (AP (g:=gb361) (o:= .cells #[.string ((AL l0_1 x3_2).f0),.int .i64 ((AL l0_1 x3_2).f1),.int .i64 ((AL l0_1 x3_2).f2),.slice A360_3 ((AL l0_1 x3_2).f3).length c360_3] 42 (0,0)) zC hb); have n2_:=Aside0.mk (AN zP hb); clear BK359; clear BK361; clear HB; have BK359:=n0_; have BK361:=n1_; have HB:=n2_; clear n0_ n1_ n2_; (try clear hb); (try clear hb2); (try clear hk); (try clear hi); have hcz28_0:w27.cell? ⟨gb361,0,none⟩=some (.string ((AL l0_1 x3_2).f0)):=(AK BK361.out 0).trans rfl; have hcz28_1:w27.cell? ⟨gb361,1,none⟩=some (.int .i64 ((AL l0_1 x3_2).f1)):=(AK BK361.out 1).trans rfl; have hcz28_2:w27.cell? ⟨gb361,2,none⟩=some (.int .i64 ((AL l0_1 x3_2).f2)):=(AK BK361.out 2).trans rfl; have hcz28_3:w27.cell? ⟨gb361,3,none⟩=some (.slice A360_3 ((AL l0_1 x3_2).f3).length c360_3):=(AK BK361.out 3).trans rfl; have hfz28_0:=AJ BK361.out 0; have hfz28_1:=AJ BK361.out 1; have hfz28_2:=AJ BK361.out 2; have hfz28_3:=AJ BK361.out 3))
                        repeat (go_quiet (first|(go_at_call 55; (with_reducible refine (B9.calls k2 ((AL l0_1 x3_2).f0) true _ A17.out).mono ?_); rintro e w27 ⟨rfl,hb⟩; have n0_:=Aside0.mk (AP (g:=gb359) (o:= .cells #[.int .i64 A8,.slice (some ad360) l0_1.length c0_1] 24 (0,0)) zE hb); have n1_:=Aside0.mk (AP (g:=gb361) (o:= .cells #[.string ((AL l0_1 x3_2).f0),.int .i64 ((AL l0_1 x3_2).f1),.int .i64 ((AL l0_1 x3_2).f2),.slice A360_3 ((AL l0_1 x3_2).f3).length c360_3] 42 (0,0)) zC hb); have n2_:=Aside0.mk (AN zP hb); clear BK359; clear BK361; clear HB; have BK359:=n0_; have BK361:=n1_; have HB:=n2_; clear n0_ n1_ n2_; (try clear hb); (try clear hb2); (try clear hk); (try clear hi); have hcz28_0:w27.cell? ⟨gb361,0,none⟩=some (.string ((AL l0_1 x3_2).f0)):=(AK BK361.out 0).trans rfl; have hcz28_1:w27.cell? ⟨gb361,1,none⟩=some (.int .i64 ((AL l0_1 x3_2).f1)):=(AK BK361.out 1).trans rfl; have hcz28_2:w27.cell? ⟨gb361,2,none⟩=some (.int .i64 ((AL l0_1 x3_2).f2)):=(AK BK361.out 2).trans rfl; have hcz28_3:w27.cell? ⟨gb361,3,none⟩=some (.slice A360_3 ((AL l0_1 x3_2).f3).length c360_3):=(AK BK361.out 3).trans rfl; have hfz28_0:=AJ BK361.out 0; have hfz28_1:=AJ BK361.out 1; have hfz28_2:=AJ BK361.out 2; have hfz28_3:=AJ BK361.out 3; clear A17)); try go_wp2_with (first|(go_at_call 55; (with_reducible refine (B9.calls k2 ((AL l0_1 x3_2).f0) true _ A17.out).mono ?_); rintro e w27 ⟨rfl,hb⟩; have n0_:=Aside0.mk (AP (g:=gb359) (o:= .cells #[.int .i64 A8,.slice (some ad360) l0_1.length c0_1] 24 (0,0)) zE hb); have n1_:=Aside0.mk (AP (g:=gb361) (o:= .cells #[.string ((AL l0_1 x3_2).f0),.int .i64 ((AL l0_1 x3_2).f1),.int .i64 ((AL l0_1 x3_2).f2),.slice A360_3 ((AL l0_1 x3_2).f3).length c360_3] 42 (0,0)) zC hb); have n2_:=Aside0.mk (AN zP hb); clear BK359; clear BK361; clear HB; have BK359:=n0_; have BK361:=n1_; have HB:=n2_; clear n0_ n1_ n2_; (try clear hb); (try clear hb2); (try clear hk); (try clear hi); have hcz28_0:w27.cell? ⟨gb361,0,none⟩=some (.string ((AL l0_1 x3_2).f0)):=(AK BK361.out 0).trans rfl; have hcz28_1:w27.cell? ⟨gb361,1,none⟩=some (.int .i64 ((AL l0_1 x3_2).f1)):=(AK BK361.out 1).trans rfl; have hcz28_2:w27.cell? ⟨gb361,2,none⟩=some (.int .i64 ((AL l0_1 x3_2).f2)):=(AK BK361.out 2).trans rfl; have hcz28_3:w27.cell? ⟨gb361,3,none⟩=some (.slice A360_3 ((AL l0_1 x3_2).f3).length c360_3):=(AK BK361.out 3).trans rfl; have hfz28_0:=AJ BK361.out 0; have hfz28_1:=AJ BK361.out 1; have hfz28_2:=AJ BK361.out 2; have hfz28_3:=AJ BK361.out 3; clear A17)))
                        go_meet
                        case rel=>exact ⟨_,(true),zF,H',⟨by have:=HJ1.out; have:=HK2.out; first|omega|exact Nat.le_refl _⟩,⟨by (with_reducible repeat (first|refine AF ?_ _|refine AH ?_|refine AG ?_ _)); exact BK359.out⟩,⟨by (with_reducible repeat (first|refine AF ?_ _|refine AH ?_|refine AG ?_ _)); exact BK361.out⟩,⟨by repeat (first|(with_reducible first|exact HB.out|apply AE|apply AC|apply AD|refine AI ?_ GE359.out|refine AI ?_ GE361.out)|exact HB.out)⟩⟩
                      · rw [if_neg c24] at H
                        have c24b0:decide (10000<((AL l0_1 x3_2).f1))=false:=decide_eq_false c24
                        clear c24
                        by_cases c29:((AL l0_1 x3_2).f2)<0
                        · rw [if_pos c29] at H
                          have c29b0:decide (((AL l0_1 x3_2).f2)<0)=true:=decide_eq_true c29
                          clear c29
                          have H':=Aside0.mk H
                          clear H
                          have hnb30:=NB361_359.out
                          have hnc30:=NB359_361.out
                          have hcz31_0:w14.cell? ⟨gb361,0,none⟩=some (.string (⟨#[]⟩:ByteArray)):=(AK BK361.out 0).trans rfl
                          have hcz31_1:w14.cell? ⟨gb361,1,none⟩=some (.int .i64 0):=(AK BK361.out 1).trans rfl
                          have hcz31_2:w14.cell? ⟨gb361,2,none⟩=some (.int .i64 0):=(AK BK361.out 2).trans rfl
                          have hcz31_3:w14.cell? ⟨gb361,3,none⟩=some (.slice none 0 0):=(AK BK361.out 3).trans rfl
                          have hfz31_0:=AJ BK361.out 0
                          have hfz31_1:=AJ BK361.out 1
                          have hfz31_2:=AJ BK361.out 2
                          have hfz31_3:=AJ BK361.out 3
                          go_wp2_with (first|(go_at_call 55; (with_reducible refine (B9.calls k2 ((AL l0_1 x3_2).f0) true _ A17.out).mono ?_); rintro e w32 ⟨rfl,hb⟩; have n0_:=Aside0.mk (AP (g:=gb359) (o:= .cells #[.int .i64 A8,.slice (some ad360) l0_1.length c0_1] 24 (0,0)) zE hb); have n1_:=Aside0.mk (AP (g:=gb361) (o:= .cells #[.string ((AL l0_1 x3_2).f0),.int .i64 ((AL l0_1 x3_2).f1),.int .i64 ((AL l0_1 x3_2).f2),.slice A360_3 ((AL l0_1 x3_2).f3).length c360_3] 42 (0,0)) zC hb); have n2_:=Aside0.mk (AN zP hb); clear BK359; clear BK361; clear HB; have BK359:=n0_; have BK361:=n1_; have HB:=n2_; clear n0_ n1_ n2_; (try clear hb); (try clear hb2); (try clear hk); (try clear hi); have hcz33_0:w32.cell? ⟨gb361,0,none⟩=some (.string ((AL l0_1 x3_2).f0)):=(AK BK361.out 0).trans rfl; have hcz33_1:w32.cell? ⟨gb361,1,none⟩=some (.int .i64 ((AL l0_1 x3_2).f1)):=(AK BK361.out 1).trans rfl; have hcz33_2:w32.cell? ⟨gb361,2,none⟩=some (.int .i64 ((AL l0_1 x3_2).f2)):=(AK BK361.out 2).trans rfl; have hcz33_3:w32.cell? ⟨gb361,3,none⟩=some (.slice A360_3 ((AL l0_1 x3_2).f3).length c360_3):=(AK BK361.out 3).trans rfl; have hfz33_0:=AJ BK361.out 0; have hfz33_1:=AJ BK361.out 1; have hfz33_2:=AJ BK361.out 2; have hfz33_3:=AJ BK361.out 3))
                          repeat (go_quiet (first|(go_at_call 55; (with_reducible refine (B9.calls k2 ((AL l0_1 x3_2).f0) true _ A17.out).mono ?_); rintro e w32 ⟨rfl,hb⟩; have n0_:=Aside0.mk (AP (g:=gb359) (o:= .cells #[.int .i64 A8,.slice (some ad360) l0_1.length c0_1] 24 (0,0)) zE hb); have n1_:=Aside0.mk (AP (g:=gb361) (o:= .cells #[.string ((AL l0_1 x3_2).f0),.int .i64 ((AL l0_1 x3_2).f1),.int .i64 ((AL l0_1 x3_2).f2),.slice A360_3 ((AL l0_1 x3_2).f3).length c360_3] 42 (0,0)) zC hb); have n2_:=Aside0.mk (AN zP hb); clear BK359; clear BK361; clear HB; have BK359:=n0_; have BK361:=n1_; have HB:=n2_; clear n0_ n1_ n2_; (try clear hb); (try clear hb2); (try clear hk); (try clear hi); have hcz33_0:w32.cell? ⟨gb361,0,none⟩=some (.string ((AL l0_1 x3_2).f0)):=(AK BK361.out 0).trans rfl; have hcz33_1:w32.cell? ⟨gb361,1,none⟩=some (.int .i64 ((AL l0_1 x3_2).f1)):=(AK BK361.out 1).trans rfl; have hcz33_2:w32.cell? ⟨gb361,2,none⟩=some (.int .i64 ((AL l0_1 x3_2).f2)):=(AK BK361.out 2).trans rfl; have hcz33_3:w32.cell? ⟨gb361,3,none⟩=some (.slice A360_3 ((AL l0_1 x3_2).f3).length c360_3):=(AK BK361.out 3).trans rfl; have hfz33_0:=AJ BK361.out 0; have hfz33_1:=AJ BK361.out 1; have hfz33_2:=AJ BK361.out 2; have hfz33_3:=AJ BK361.out 3; clear A17)); try go_wp2_with (first|(go_at_call 55; (with_reducible refine (B9.calls k2 ((AL l0_1 x3_2).f0) true _ A17.out).mono ?_); rintro e w32 ⟨rfl,hb⟩; have n0_:=Aside0.mk (AP (g:=gb359) (o:= .cells #[.int .i64 A8,.slice (some ad360) l0_1.length c0_1] 24 (0,0)) zE hb); have n1_:=Aside0.mk (AP (g:=gb361) (o:= .cells #[.string ((AL l0_1 x3_2).f0),.int .i64 ((AL l0_1 x3_2).f1),.int .i64 ((AL l0_1 x3_2).f2),.slice A360_3 ((AL l0_1 x3_2).f3).length c360_3] 42 (0,0)) zC hb); have n2_:=Aside0.mk (AN zP hb); clear BK359; clear BK361; clear HB; have BK359:=n0_; have BK361:=n1_; have HB:=n2_; clear n0_ n1_ n2_; (try clear hb); (try clear hb2); (try clear hk); (try clear hi); have hcz33_0:w32.cell? ⟨gb361,0,none⟩=some (.string ((AL l0_1 x3_2).f0)):=(AK BK361.out 0).trans rfl; have hcz33_1:w32.cell? ⟨gb361,1,none⟩=some (.int .i64 ((AL l0_1 x3_2).f1)):=(AK BK361.out 1).trans rfl; have hcz33_2:w32.cell? ⟨gb361,2,none⟩=some (.int .i64 ((AL l0_1 x3_2).f2)):=(AK BK361.out 2).trans rfl; have hcz33_3:w32.cell? ⟨gb361,3,none⟩=some (.slice A360_3 ((AL l0_1 x3_2).f3).length c360_3):=(AK BK361.out 3).trans rfl; have hfz33_0:=AJ BK361.out 0; have hfz33_1:=AJ BK361.out 1; have hfz33_2:=AJ BK361.out 2; have hfz33_3:=AJ BK361.out 3; clear A17)))
                          go_meet
                          case rel=>exact ⟨_,(true),zF,H',⟨by have:=HJ1.out; have:=HK2.out; first|omega|exact Nat.le_refl _⟩,⟨by (with_reducible repeat (first|refine AF ?_ _|refine AH ?_|refine AG ?_ _)); exact BK359.out⟩,⟨by (with_reducible repeat (first|refine AF ?_ _|refine AH ?_|refine AG ?_ _)); exact BK361.out⟩,⟨by repeat (first|(with_reducible first|exact HB.out|apply AE|apply AC|apply AD|refine AI ?_ GE359.out|refine AI ?_ GE361.out)|exact HB.out)⟩⟩
                        · rw [if_neg c29] at H
                          have c29b0:decide (((AL l0_1 x3_2).f2)<0)=false:=decide_eq_false c29
                          clear c29
                          have H':=Aside0.mk H
                          clear H
                          have hnb34:=NB361_359.out
                          have hnc34:=NB359_361.out
                          have hcz35_0:w14.cell? ⟨gb361,0,none⟩=some (.string (⟨#[]⟩:ByteArray)):=(AK BK361.out 0).trans rfl
                          have hcz35_1:w14.cell? ⟨gb361,1,none⟩=some (.int .i64 0):=(AK BK361.out 1).trans rfl
                          have hcz35_2:w14.cell? ⟨gb361,2,none⟩=some (.int .i64 0):=(AK BK361.out 2).trans rfl
                          have hcz35_3:w14.cell? ⟨gb361,3,none⟩=some (.slice none 0 0):=(AK BK361.out 3).trans rfl
                          have hfz35_0:=AJ BK361.out 0
                          have hfz35_1:=AJ BK361.out 1
                          have hfz35_2:=AJ BK361.out 2
                          have hfz35_3:=AJ BK361.out 3
                          go_wp2_with (first|(go_at_call 55; (with_reducible refine (B9.calls k2 ((AL l0_1 x3_2).f0) true _ A17.out).mono ?_); rintro e w36 ⟨rfl,hb⟩; have n0_:=Aside0.mk (AP (g:=gb359) (o:= .cells #[.int .i64 A8,.slice (some ad360) l0_1.length c0_1] 24 (0,0)) zE hb); have n1_:=Aside0.mk (AP (g:=gb361) (o:= .cells #[.string ((AL l0_1 x3_2).f0),.int .i64 ((AL l0_1 x3_2).f1),.int .i64 ((AL l0_1 x3_2).f2),.slice A360_3 ((AL l0_1 x3_2).f3).length c360_3] 42 (0,0)) zC hb); have n2_:=Aside0.mk (AN zP hb); clear BK359; clear BK361; clear HB; have BK359:=n0_; have BK361:=n1_; have HB:=n2_; clear n0_ n1_ n2_; (try clear hb); (try clear hb2); (try clear hk); (try clear hi); have hcz37_0:w36.cell? ⟨gb361,0,none⟩=some (.string ((AL l0_1 x3_2).f0)):=(AK BK361.out 0).trans rfl; have hcz37_1:w36.cell? ⟨gb361,1,none⟩=some (.int .i64 ((AL l0_1 x3_2).f1)):=(AK BK361.out 1).trans rfl; have hcz37_2:w36.cell? ⟨gb361,2,none⟩=some (.int .i64 ((AL l0_1 x3_2).f2)):=(AK BK361.out 2).trans rfl; have hcz37_3:w36.cell? ⟨gb361,3,none⟩=some (.slice A360_3 ((AL l0_1 x3_2).f3).length c360_3):=(AK BK361.out 3).trans rfl; have hfz37_0:=AJ BK361.out 0; have hfz37_1:=AJ BK361.out 1; have hfz37_2:=AJ BK361.out 2; have hfz37_3:=AJ BK361.out 3))
                          repeat (go_quiet (first|(go_at_call 55; (with_reducible refine (B9.calls k2 ((AL l0_1 x3_2).f0) true _ A17.out).mono ?_); rintro e w36 ⟨rfl,hb⟩; have n0_:=Aside0.mk (AP (g:=gb359) (o:= .cells #[.int .i64 A8,.slice (some ad360) l0_1.length c0_1] 24 (0,0)) zE hb); have n1_:=Aside0.mk (AP (g:=gb361) (o:= .cells #[.string ((AL l0_1 x3_2).f0),.int .i64 ((AL l0_1 x3_2).f1),.int .i64 ((AL l0_1 x3_2).f2),.slice A360_3 ((AL l0_1 x3_2).f3).length c360_3] 42 (0,0)) zC hb); have n2_:=Aside0.mk (AN zP hb); clear BK359; clear BK361; clear HB; have BK359:=n0_; have BK361:=n1_; have HB:=n2_; clear n0_ n1_ n2_; (try clear hb); (try clear hb2); (try clear hk); (try clear hi); have hcz37_0:w36.cell? ⟨gb361,0,none⟩=some (.string ((AL l0_1 x3_2).f0)):=(AK BK361.out 0).trans rfl; have hcz37_1:w36.cell? ⟨gb361,1,none⟩=some (.int .i64 ((AL l0_1 x3_2).f1)):=(AK BK361.out 1).trans rfl; have hcz37_2:w36.cell? ⟨gb361,2,none⟩=some (.int .i64 ((AL l0_1 x3_2).f2)):=(AK BK361.out 2).trans rfl; have hcz37_3:w36.cell? ⟨gb361,3,none⟩=some (.slice A360_3 ((AL l0_1 x3_2).f3).length c360_3):=(AK BK361.out 3).trans rfl; have hfz37_0:=AJ BK361.out 0; have hfz37_1:=AJ BK361.out 1; have hfz37_2:=AJ BK361.out 2; have hfz37_3:=AJ BK361.out 3; clear A17)); try go_wp2_with (first|(go_at_call 55; (with_reducible refine (B9.calls k2 ((AL l0_1 x3_2).f0) true _ A17.out).mono ?_); rintro e w36 ⟨rfl,hb⟩; have n0_:=Aside0.mk (AP (g:=gb359) (o:= .cells #[.int .i64 A8,.slice (some ad360) l0_1.length c0_1] 24 (0,0)) zE hb); have n1_:=Aside0.mk (AP (g:=gb361) (o:= .cells #[.string ((AL l0_1 x3_2).f0),.int .i64 ((AL l0_1 x3_2).f1),.int .i64 ((AL l0_1 x3_2).f2),.slice A360_3 ((AL l0_1 x3_2).f3).length c360_3] 42 (0,0)) zC hb); have n2_:=Aside0.mk (AN zP hb); clear BK359; clear BK361; clear HB; have BK359:=n0_; have BK361:=n1_; have HB:=n2_; clear n0_ n1_ n2_; (try clear hb); (try clear hb2); (try clear hk); (try clear hi); have hcz37_0:w36.cell? ⟨gb361,0,none⟩=some (.string ((AL l0_1 x3_2).f0)):=(AK BK361.out 0).trans rfl; have hcz37_1:w36.cell? ⟨gb361,1,none⟩=some (.int .i64 ((AL l0_1 x3_2).f1)):=(AK BK361.out 1).trans rfl; have hcz37_2:w36.cell? ⟨gb361,2,none⟩=some (.int .i64 ((AL l0_1 x3_2).f2)):=(AK BK361.out 2).trans rfl; have hcz37_3:w36.cell? ⟨gb361,3,none⟩=some (.slice A360_3 ((AL l0_1 x3_2).f3).length c360_3):=(AK BK361.out 3).trans rfl; have hfz37_0:=AJ BK361.out 0; have hfz37_1:=AJ BK361.out 1; have hfz37_2:=AJ BK361.out 2; have hfz37_3:=AJ BK361.out 3; clear A17)))
                          go_meet
                          case rel=>exact ⟨_,(decide (((AL l0_1 x3_2).f2)>1000000)),zF,H',⟨by have:=HJ1.out; have:=HK2.out; first|omega|exact Nat.le_refl _⟩,⟨by (with_reducible repeat (first|refine AF ?_ _|refine AH ?_|refine AG ?_ _)); exact BK359.out⟩,⟨by (with_reducible repeat (first|refine AF ?_ _|refine AH ?_|refine AG ?_ _)); exact BK361.out⟩,⟨by repeat (first|(with_reducible first|exact HB.out|apply AE|apply AC|apply AD|refine AI ?_ GE359.out|refine AI ?_ GE361.out)|exact HB.out)⟩⟩
                  · replace c18:=Bool.eq_false_iff.mpr c18
                    subst c18
                    have H1:(AR.j2 k2 x3_2 true A8 l0_1 ((AL l0_1 x3_2).f0) ((AL l0_1 x3_2).f1) ((AL l0_1 x3_2).f2) ((AL l0_1 x3_2).f3))=some r:=by rw [if_neg (show ¬(false=true) by decide)] at H; exact H
                    clear H
                    have H:=H1
                    clear H1
                    have H':=Aside0.mk H
                    clear H
                    have hnb38:=NB361_359.out
                    have hnc38:=NB359_361.out
                    have hcz39_0:w14.cell? ⟨gb361,0,none⟩=some (.string (⟨#[]⟩:ByteArray)):=(AK BK361.out 0).trans rfl
                    have hcz39_1:w14.cell? ⟨gb361,1,none⟩=some (.int .i64 0):=(AK BK361.out 1).trans rfl
                    have hcz39_2:w14.cell? ⟨gb361,2,none⟩=some (.int .i64 0):=(AK BK361.out 2).trans rfl
                    have hcz39_3:w14.cell? ⟨gb361,3,none⟩=some (.slice none 0 0):=(AK BK361.out 3).trans rfl
                    have hfz39_0:=AJ BK361.out 0
                    have hfz39_1:=AJ BK361.out 1
                    have hfz39_2:=AJ BK361.out 2
                    have hfz39_3:=AJ BK361.out 3
                    go_wp2_with (first|(go_at_call 55; (with_reducible refine (B9.calls k2 ((AL l0_1 x3_2).f0) false _ A17.out).mono ?_); rintro e w40 ⟨rfl,hb⟩; have n0_:=Aside0.mk (AP (g:=gb359) (o:= .cells #[.int .i64 A8,.slice (some ad360) l0_1.length c0_1] 24 (0,0)) zE hb); have n1_:=Aside0.mk (AP (g:=gb361) (o:= .cells #[.string ((AL l0_1 x3_2).f0),.int .i64 ((AL l0_1 x3_2).f1),.int .i64 ((AL l0_1 x3_2).f2),.slice A360_3 ((AL l0_1 x3_2).f3).length c360_3] 42 (0,0)) zC hb); have n2_:=Aside0.mk (AN zP hb); clear BK359; clear BK361; clear HB; have BK359:=n0_; have BK361:=n1_; have HB:=n2_; clear n0_ n1_ n2_; (try clear hb); (try clear hb2); (try clear hk); (try clear hi)))
                    repeat (go_quiet (first|(go_at_call 55; (with_reducible refine (B9.calls k2 ((AL l0_1 x3_2).f0) false _ A17.out).mono ?_); rintro e w40 ⟨rfl,hb⟩; have n0_:=Aside0.mk (AP (g:=gb359) (o:= .cells #[.int .i64 A8,.slice (some ad360) l0_1.length c0_1] 24 (0,0)) zE hb); have n1_:=Aside0.mk (AP (g:=gb361) (o:= .cells #[.string ((AL l0_1 x3_2).f0),.int .i64 ((AL l0_1 x3_2).f1),.int .i64 ((AL l0_1 x3_2).f2),.slice A360_3 ((AL l0_1 x3_2).f3).length c360_3] 42 (0,0)) zC hb); have n2_:=Aside0.mk (AN zP hb); clear BK359; clear BK361; clear HB; have BK359:=n0_; have BK361:=n1_; have HB:=n2_; clear n0_ n1_ n2_; (try clear hb); (try clear hb2); (try clear hk); (try clear hi); clear A17)); try go_wp2_with (first|(go_at_call 55; (with_reducible refine (B9.calls k2 ((AL l0_1 x3_2).f0) false _ A17.out).mono ?_); rintro e w40 ⟨rfl,hb⟩; have n0_:=Aside0.mk (AP (g:=gb359) (o:= .cells #[.int .i64 A8,.slice (some ad360) l0_1.length c0_1] 24 (0,0)) zE hb); have n1_:=Aside0.mk (AP (g:=gb361) (o:= .cells #[.string ((AL l0_1 x3_2).f0),.int .i64 ((AL l0_1 x3_2).f1),.int .i64 ((AL l0_1 x3_2).f2),.slice A360_3 ((AL l0_1 x3_2).f3).length c360_3] 42 (0,0)) zC hb); have n2_:=Aside0.mk (AN zP hb); clear BK359; clear BK361; clear HB; have BK359:=n0_; have BK361:=n1_; have HB:=n2_; clear n0_ n1_ n2_; (try clear hb); (try clear hb2); (try clear hk); (try clear hi); clear A17)))
                    go_meet
                    case rel=>exact ⟨_,(true),zF,H',⟨by have:=HJ1.out; have:=HK2.out; first|omega|exact Nat.le_refl _⟩,⟨by (with_reducible repeat (first|refine AF ?_ _|refine AH ?_|refine AG ?_ _)); exact BK359.out⟩,⟨by (with_reducible repeat (first|refine AF ?_ _|refine AH ?_|refine AG ?_ _)); exact BK361.out⟩,⟨by repeat (first|(with_reducible first|exact HB.out|apply AE|apply AC|apply AD|refine AI ?_ GE359.out|refine AI ?_ GE361.out)|exact HB.out)⟩⟩
                case rest =>
                  clear HC12
                  try clear c1
                  try clear c2
                  try clear p2
                  try clear c3
                  try clear p3
                  try clear q3
                  try clear hx3
                  try clear c4
                  try clear c4b0
                  try clear c6
                  try clear c6b0
                  try clear c9
                  try clear c10
                  try clear c10b0
                  try clear c11
                  try clear c11b0
                  try clear c15
                  try clear c18
                  try clear c19
                  try clear c19b0
                  try clear c20
                  try clear c24
                  try clear c24b0
                  try clear c25
                  try clear c29
                  try clear c29b0
                  try clear c30
                  try clear c34
                  try clear c36
                  try clear p36
                  try clear q36
                  try clear hx36
                  try clear c38
                  try clear hcz13_0
                  try clear hcz13_1
                  try clear hcz16_0
                  try clear hcz16_1
                  try clear hcz16_2
                  try clear hcz16_3
                  try clear hcz21_0
                  try clear hcz21_1
                  try clear hcz21_2
                  try clear hcz21_3
                  try clear hcz23_0
                  try clear hcz23_1
                  try clear hcz23_2
                  try clear hcz23_3
                  try clear hcz26_0
                  try clear hcz26_1
                  try clear hcz26_2
                  try clear hcz26_3
                  try clear hcz28_0
                  try clear hcz28_1
                  try clear hcz28_2
                  try clear hcz28_3
                  try clear hcz31_0
                  try clear hcz31_1
                  try clear hcz31_2
                  try clear hcz31_3
                  try clear hcz33_0
                  try clear hcz33_1
                  try clear hcz33_2
                  try clear hcz33_3
                  try clear hcz35_0
                  try clear hcz35_1
                  try clear hcz35_2
                  try clear hcz35_3
                  try clear hcz37_0
                  try clear hcz37_1
                  try clear hcz37_2
                  try clear hcz37_3
                  try clear hcz39_0
                  try clear hcz39_1
                  try clear hcz39_2
                  try clear hcz39_3
                  try clear hcz5_0
                  try clear hcz5_1
                  try clear hcz7_0
                  try clear hcz7_1
                  try clear hcz8_0
                  try clear hcz8_1
                  try clear hfz13_0
                  try clear hfz13_1
                  try clear hfz16_0
                  try clear hfz16_1
                  try clear hfz16_2
                  try clear hfz16_3
                  try clear hfz21_0
                  try clear hfz21_1
                  try clear hfz21_2
                  try clear hfz21_3
                  try clear hfz23_0
                  try clear hfz23_1
                  try clear hfz23_2
                  try clear hfz23_3
                  try clear hfz26_0
                  try clear hfz26_1
                  try clear hfz26_2
                  try clear hfz26_3
                  try clear hfz28_0
                  try clear hfz28_1
                  try clear hfz28_2
                  try clear hfz28_3
                  try clear hfz31_0
                  try clear hfz31_1
                  try clear hfz31_2
                  try clear hfz31_3
                  try clear hfz33_0
                  try clear hfz33_1
                  try clear hfz33_2
                  try clear hfz33_3
                  try clear hfz35_0
                  try clear hfz35_1
                  try clear hfz35_2
                  try clear hfz35_3
                  try clear hfz37_0
                  try clear hfz37_1
                  try clear hfz37_2
                  try clear hfz37_3
                  try clear hfz39_0
                  try clear hfz39_1
                  try clear hfz39_2
                  try clear hfz39_3
                  try clear hfz5_0
                  try clear hfz5_1
                  try clear hfz7_0
                  try clear hfz7_1
                  try clear hfz8_0
                  try clear hfz8_1
                  try clear hx360_0
                  try clear hx360_1
                  try clear hx360_2
                  try clear hx360_3
                  try clear p2
                  try clear p360
                  try clear q360
                  obtain ⟨kq,x56_11,rfl,HA,HJ11,BK359,BK361,HB⟩:=hcut
                  cases kq with
                  |zero=>exact absurd HA.out (by simp [AR.j2])
                  | succ kj11 =>
                    have H:=HA.out
                    clear HA
                    simp only [AR.j2] at H
                    by_cases c41:x56_11=true
                    · subst c41
                      have H1:(some false)=some r:=by rw [if_pos rfl] at H; exact H
                      clear H
                      have H:=H1
                      clear H1
                      obtain rfl:=Option.some.inj H
                      go_wp2
                      repeat (go_quiet (fail); try go_wp2)
                      go_ret
                      exact ⟨by first|rfl|(simp [AU,AT]<;>rfl)|(simp [*,AU,AT]<;>rfl),by repeat (first|(with_reducible first|exact HB.out|apply AE|apply AC|apply AD|refine AI ?_ GE359.out|refine AI ?_ GE361.out)|exact HB.out)⟩
                    · replace c41 :=Bool.eq_false_iff.mpr c41
                      subst c41
                      have H1:(AR.l1 kj11 x3_2 0 A8 l0_1 ((AL l0_1 x3_2).f0) ((AL l0_1 x3_2).f1) ((AL l0_1 x3_2).f2) ((AL l0_1 x3_2).f3))=some r:=by rw [if_neg (show ¬(false=true) by decide)] at H; exact H
                      clear H
                      have H:=H1
                      clear H1
                      have H':=Aside0.mk H
                      clear H
                      go_wp2
                      repeat (go_quiet (fail); try go_wp2)
                      go_loopg [5] kj11 (fun kq v5 w'=>∃(x5_4:Int),v5= .int .i64 x5_4∧Aside0 (AR.l1 kq x3_2 x5_4 A8 l0_1 ((AL l0_1 x3_2).f0) ((AL l0_1 x3_2).f1) ((AL l0_1 x3_2).f2) ((AL l0_1 x3_2).f3)=some r)∧Aside0 (kq≤kj11)∧Aside0 (w'.heap[gb359]? =some (.cells #[.int .i64 A8,(.slice (some ad360) l0_1.length c0_1)] 24 (0,0)))∧Aside0 (w'.heap[gb361]? =some (.cells #[.string ((AL l0_1 x3_2).f0),.int .i64 ((AL l0_1 x3_2).f1),.int .i64 ((AL l0_1 x3_2).f2),(.slice A360_3 ((AL l0_1 x3_2).f3).length c360_3)] 42 (0,0)))∧Aside0 (Below w.heap.size w w'))
                      case atStart=>exact ⟨(0),zF,H',⟨Nat.le_refl _⟩,⟨by (with_reducible repeat (first|refine AF ?_ _|refine AH ?_|refine AG ?_ _)); exact BK359.out⟩,⟨by (with_reducible repeat (first|refine AF ?_ _|refine AH ?_|refine AG ?_ _)); exact BK361.out⟩,⟨by repeat (first|(with_reducible first|exact HB.out|apply AE|apply AC|apply AD|refine AI ?_ GE359.out|refine AI ?_ GE361.out)|exact HB.out)⟩⟩
                      case round=>
                        clear H'
                        try clear c1
                        try clear c2
                        try clear p2
                        try clear c3
                        try clear p3
                        try clear q3
                        try clear hx3
                        try clear c4
                        try clear c4b0
                        try clear c6
                        try clear c6b0
                        try clear c9
                        try clear c10
                        try clear c10b0
                        try clear c11
                        try clear c11b0
                        try clear c15
                        try clear c18
                        try clear c19
                        try clear c19b0
                        try clear c20
                        try clear c24
                        try clear c24b0
                        try clear c25
                        try clear c29
                        try clear c29b0
                        try clear c30
                        try clear c34
                        try clear c36
                        try clear p36
                        try clear q36
                        try clear hx36
                        try clear c38
                        try clear c41
                        try clear hcz13_0
                        try clear hcz13_1
                        try clear hcz16_0
                        try clear hcz16_1
                        try clear hcz16_2
                        try clear hcz16_3
                        try clear hcz21_0
                        try clear hcz21_1
                        try clear hcz21_2
                        try clear hcz21_3
                        try clear hcz23_0
                        try clear hcz23_1
                        try clear hcz23_2
                        try clear hcz23_3
                        try clear hcz26_0
                        try clear hcz26_1
                        try clear hcz26_2
                        try clear hcz26_3
                        try clear hcz28_0
                        try clear hcz28_1
                        try clear hcz28_2
                        try clear hcz28_3
                        try clear hcz31_0
                        try clear hcz31_1
                        try clear hcz31_2
                        try clear hcz31_3
                        try clear hcz33_0
                        try clear hcz33_1
                        try clear hcz33_2
                        try clear hcz33_3
                        try clear hcz35_0
                        try clear hcz35_1
                        try clear hcz35_2
                        try clear hcz35_3
                        try clear hcz37_0
                        try clear hcz37_1
                        try clear hcz37_2
                        try clear hcz37_3
                        try clear hcz39_0
                        try clear hcz39_1
                        try clear hcz39_2
                        try clear hcz39_3
                        try clear hcz5_0
                        try clear hcz5_1
                        try clear hcz7_0
                        try clear hcz7_1
                        try clear hcz8_0
                        try clear hcz8_1
                        try clear hfz13_0
                        try clear hfz13_1
                        try clear hfz16_0
                        try clear hfz16_1
                        try clear hfz16_2
                        try clear hfz16_3
                        try clear hfz21_0
                        try clear hfz21_1
                        try clear hfz21_2
                        try clear hfz21_3
                        try clear hfz23_0
                        try clear hfz23_1
                        try clear hfz23_2
                        try clear hfz23_3
                        try clear hfz26_0
                        try clear hfz26_1
                        try clear hfz26_2
                        try clear hfz26_3
                        try clear hfz28_0
                        try clear hfz28_1
                        try clear hfz28_2
                        try clear hfz28_3
                        try clear hfz31_0
                        try clear hfz31_1
                        try clear hfz31_2
                        try clear hfz31_3
                        try clear hfz33_0
                        try clear hfz33_1
                        try clear hfz33_2
                        try clear hfz33_3
                        try clear hfz35_0
                        try clear hfz35_1
                        try clear hfz35_2
                        try clear hfz35_3
                        try clear hfz37_0
                        try clear hfz37_1
                        try clear hfz37_2
                        try clear hfz37_3
                        try clear hfz39_0
                        try clear hfz39_1
                        try clear hfz39_2
                        try clear hfz39_3
                        try clear hfz5_0
                        try clear hfz5_1
                        try clear hfz7_0
                        try clear hfz7_1
                        try clear hfz8_0
                        try clear hfz8_1
                        try clear hx360_0
                        try clear hx360_1
                        try clear hx360_2
                        try clear hx360_3
                        try clear p2
                        try clear p3
                        try clear p36
                        try clear p360
                        try clear q3
                        try clear q36
                        try clear q360
                        obtain ⟨x5_4,rfl,HA,HK4,BK359,BK361,HB⟩:=hrel
                        cases gk with
                        |zero=>exact absurd HA.out (by simp [AR.l1])
                        | succ k4 =>
                          have H:=HA.out
                          clear HA
                          simp only [AR.l1] at H
                          by_cases c42:x5_4<x3_2
                          · rw [if_pos c42] at H
                            have c42b0:decide (x5_4<x3_2)=true:=decide_eq_true c42
                            clear c42
                            by_cases c43:0≤x5_4
                            · rw [if_pos c43] at H
                              have c43b0:decide (0≤x5_4)=true:=decide_eq_true c43
                              clear c43
                              by_cases c44:x5_4<(l0_1.length:Int)
                              · rw [if_pos c44] at H
                                have c44b0:decide (x5_4<(l0_1.length:Int))=true:=decide_eq_true c44
                                clear c44
                                by_cases c45:((AL l0_1 x5_4).f0).toList=((AL l0_1 x3_2).f0).toList
                                · rw [if_pos c45] at H
                                  have c45b0:(((AL l0_1 x5_4).f0).toList==((AL l0_1 x3_2).f0).toList)=true:=beq_iff_eq.mpr c45
                                  have c45b1:(((AL l0_1 x5_4).f0).toList !=((AL l0_1 x3_2).f0).toList)=false:=bne_eq_false_iff_eq.mpr c45
                                  clear c45
                                  obtain rfl:=Option.some.inj H
                                  have hnb46:=NB359_361.out
                                  have hnc46:=NB361_359.out
                                  have hcz47_0:wr.cell? ⟨gb359,0,none⟩=some (.int .i64 A8):=(AK BK359.out 0).trans rfl
                                  have hcz47_1:wr.cell? ⟨gb359,1,none⟩=some (.slice (some ad360) l0_1.length c0_1):=(AK BK359.out 1).trans rfl
                                  have hfz47_0:=AJ BK359.out 0
                                  have hfz47_1:=AJ BK359.out 1
                                  have p363:0≤(x5_4:Int):=of_decide_eq_true zA
                                  have q363:x5_4<(l0_1.length:Int):=of_decide_eq_true zA
                                  obtain ⟨ad363,A363_3,c363_3,e363,hx363_0,hx363_1,hx363_2,hx363_3,hl363_3,hi363_3⟩:=BR HR0_1.out x5_4 p363 q363
                                  obtain rfl:ad360=ad363:=(by injection e363)
                                  replace hx363_0:=(HB.out.cell (World.block_lt_of_cell? w _ hx363_0)).trans hx363_0
                                  replace hx363_1:=(HB.out.cell (World.block_lt_of_cell? w _ hx363_1)).trans hx363_1
                                  replace hx363_2:=(HB.out.cell (World.block_lt_of_cell? w _ hx363_2)).trans hx363_2
                                  replace hx363_3:=(HB.out.cell (World.block_lt_of_cell? w _ hx363_3)).trans hx363_3
                                  have HR363_3:=Aside0.mk hi363_3
                                  have HC363_3:=Aside0.mk hl363_3
                                  clear hi363_3 hl363_3
                                  replace p363:=eq_true p363
                                  replace q363:=eq_true q363
                                  have hcz48_0:wr.cell? ⟨gb361,0,none⟩=some (.string ((AL l0_1 x3_2).f0)):=(AK BK361.out 0).trans rfl
                                  have hcz48_1:wr.cell? ⟨gb361,1,none⟩=some (.int .i64 ((AL l0_1 x3_2).f1)):=(AK BK361.out 1).trans rfl
                                  have hcz48_2:wr.cell? ⟨gb361,2,none⟩=some (.int .i64 ((AL l0_1 x3_2).f2)):=(AK BK361.out 2).trans rfl
                                  have hcz48_3:wr.cell? ⟨gb361,3,none⟩=some (.slice A360_3 ((AL l0_1 x3_2).f3).length c360_3):=(AK BK361.out 3).trans rfl
                                  have hfz48_0:=AJ BK361.out 0
                                  have hfz48_1:=AJ BK361.out 1
                                  have hfz48_2:=AJ BK361.out 2
                                  have hfz48_3:=AJ BK361.out 3
                                  go_wp2
                                  repeat (go_quiet (fail); try go_wp2)
                                  go_ret
                                  exact ⟨by first|rfl|(simp [AU,AT]<;>rfl)|(simp [*,AU,AT]<;>rfl),by repeat (first|(with_reducible first|exact HB.out|apply AE|apply AC|apply AD|refine AI ?_ GE359.out|refine AI ?_ GE361.out)|exact HB.out)⟩
                                · rw [if_neg c45] at H
                                  have c45b0:(((AL l0_1 x5_4).f0).toList==((AL l0_1 x3_2).f0).toList)=false:=beq_eq_false_iff_ne.mpr c45
                                  have c45b1:(((AL l0_1 x5_4).f0).toList !=((AL l0_1 x3_2).f0).toList)=true:=bne_iff_ne.mpr c45
                                  have H':=Aside0.mk H
                                  clear H
                                  have hnb49:=NB359_361.out
                                  have hnc49:=NB361_359.out
                                  have hcz50_0:wr.cell? ⟨gb359,0,none⟩=some (.int .i64 A8):=(AK BK359.out 0).trans rfl
                                  have hcz50_1:wr.cell? ⟨gb359,1,none⟩=some (.slice (some ad360) l0_1.length c0_1):=(AK BK359.out 1).trans rfl
                                  have hfz50_0:=AJ BK359.out 0
                                  have hfz50_1:=AJ BK359.out 1
                                  have p363:0≤(x5_4:Int):=of_decide_eq_true zA
                                  have q363:x5_4<(l0_1.length:Int):=of_decide_eq_true zA
                                  obtain ⟨ad363,A363_3,c363_3,e363,hx363_0,hx363_1,hx363_2,hx363_3,hl363_3,hi363_3⟩:=BR HR0_1.out x5_4 p363 q363
                                  obtain rfl:ad360=ad363:=(by injection e363)
                                  replace hx363_0:=(HB.out.cell (World.block_lt_of_cell? w _ hx363_0)).trans hx363_0
                                  replace hx363_1:=(HB.out.cell (World.block_lt_of_cell? w _ hx363_1)).trans hx363_1
                                  replace hx363_2:=(HB.out.cell (World.block_lt_of_cell? w _ hx363_2)).trans hx363_2
                                  replace hx363_3:=(HB.out.cell (World.block_lt_of_cell? w _ hx363_3)).trans hx363_3
                                  have HR363_3:=Aside0.mk hi363_3
                                  have HC363_3:=Aside0.mk hl363_3
                                  clear hi363_3 hl363_3
                                  replace p363:=eq_true p363
                                  replace q363:=eq_true q363
                                  have hcz51_0:wr.cell? ⟨gb361,0,none⟩=some (.string ((AL l0_1 x3_2).f0)):=(AK BK361.out 0).trans rfl
                                  have hcz51_1:wr.cell? ⟨gb361,1,none⟩=some (.int .i64 ((AL l0_1 x3_2).f1)):=(AK BK361.out 1).trans rfl
                                  have hcz51_2:wr.cell? ⟨gb361,2,none⟩=some (.int .i64 ((AL l0_1 x3_2).f2)):=(AK BK361.out 2).trans rfl
                                  have hcz51_3:wr.cell? ⟨gb361,3,none⟩=some (.slice A360_3 ((AL l0_1 x3_2).f3).length c360_3):=(AK BK361.out 3).trans rfl
                                  have hfz51_0:=AJ BK361.out 0
                                  have hfz51_1:=AJ BK361.out 1
                                  have hfz51_2:=AJ BK361.out 2
                                  have hfz51_3:=AJ BK361.out 3
                                  go_wp2
                                  repeat (go_quiet (fail); try go_wp2)
                                  go_roundg k4
                                  case measure=>have:=HJ1.out; have:=HK2.out; have:=HJ11.out; have:=HK4.out; omega
                                  case rel=>exact ⟨(wrap64 (x5_4+1)),zF,H',⟨by have:=HJ1.out; have:=HK2.out; have:=HJ11.out; have:=HK4.out; omega⟩,⟨by (with_reducible repeat (first|refine AF ?_ _|refine AH ?_|refine AG ?_ _)); exact BK359.out⟩,⟨by (with_reducible repeat (first|refine AF ?_ _|refine AH ?_|refine AG ?_ _)); exact BK361.out⟩,⟨by repeat (first|(with_reducible first|exact HB.out|apply AE|apply AC|apply AD|refine AI ?_ GE359.out|refine AI ?_ GE361.out)|exact HB.out)⟩⟩
                              · rw [if_neg c44] at H
                                exact absurd H zY
                            · rw [if_neg c43] at H
                              exact absurd H zY
                          · rw [if_neg c42] at H
                            have c42b0:decide (x5_4<x3_2)=false:=decide_eq_false c42
                            clear c42
                            have H':=Aside0.mk H
                            clear H
                            go_wp2
                            repeat (go_quiet (fail); try go_wp2)
                            go_loopg [6] k4 (fun kq v6 w'=>∃(x6_5:Int),v6= .int .i64 x6_5∧Aside0 (AR.l2 kq x3_2 x6_5 A8 l0_1 ((AL l0_1 x3_2).f0) ((AL l0_1 x3_2).f1) ((AL l0_1 x3_2).f2) ((AL l0_1 x3_2).f3)=some r)∧Aside0 (kq≤k4)∧Aside0 (w'.heap[gb359]? =some (.cells #[.int .i64 A8,(.slice (some ad360) l0_1.length c0_1)] 24 (0,0)))∧Aside0 (w'.heap[gb361]? =some (.cells #[.string ((AL l0_1 x3_2).f0),.int .i64 ((AL l0_1 x3_2).f1),.int .i64 ((AL l0_1 x3_2).f2),(.slice A360_3 ((AL l0_1 x3_2).f3).length c360_3)] 42 (0,0)))∧Aside0 (Below w.heap.size w w'))
                            case atStart=>exact ⟨(0),zF,H',⟨Nat.le_refl _⟩,⟨by (with_reducible repeat (first|refine AF ?_ _|refine AH ?_|refine AG ?_ _)); exact BK359.out⟩,⟨by (with_reducible repeat (first|refine AF ?_ _|refine AH ?_|refine AG ?_ _)); exact BK361.out⟩,⟨by repeat (first|(with_reducible first|exact HB.out|apply AE|apply AC|apply AD|refine AI ?_ GE359.out|refine AI ?_ GE361.out)|exact HB.out)⟩⟩
                            case round=>
                              clear H'
                              try clear c1
                              try clear c2
                              try clear p2
                              try clear c3
                              try clear p3
                              try clear q3
                              try clear hx3
                              try clear c4
                              try clear c4b0
                              try clear c6
                              try clear c6b0
                              try clear p6
                              try clear c9
                              try clear c10
                              try clear c10b0
                              try clear c11
                              try clear c11b0
                              try clear c15
                              try clear c18
                              try clear c19
                              try clear c19b0
                              try clear c20
                              try clear c24
                              try clear c24b0
                              try clear c25
                              try clear c29
                              try clear c29b0
                              try clear c30
                              try clear c34
                              try clear c36
                              try clear p36
                              try clear q36
                              try clear hx36
                              try clear c38
                              try clear c41
                              try clear c42
                              try clear c42b0
                              try clear c43
                              try clear c43b0
                              try clear c44
                              try clear c44b0
                              try clear c45
                              try clear c45b0
                              try clear c45b1
                              try clear c46
                              try clear c49
                              try clear hcz13_0
                              try clear hcz13_1
                              try clear hcz16_0
                              try clear hcz16_1
                              try clear hcz16_2
                              try clear hcz16_3
                              try clear hcz21_0
                              try clear hcz21_1
                              try clear hcz21_2
                              try clear hcz21_3
                              try clear hcz23_0
                              try clear hcz23_1
                              try clear hcz23_2
                              try clear hcz23_3
                              try clear hcz26_0
                              try clear hcz26_1
                              try clear hcz26_2
                              try clear hcz26_3
                              try clear hcz28_0
                              try clear hcz28_1
                              try clear hcz28_2
                              try clear hcz28_3
                              try clear hcz31_0
                              try clear hcz31_1
                              try clear hcz31_2
                              try clear hcz31_3
                              try clear hcz33_0
                              try clear hcz33_1
                              try clear hcz33_2
                              try clear hcz33_3
                              try clear hcz35_0
                              try clear hcz35_1
                              try clear hcz35_2
                              try clear hcz35_3
                              try clear hcz37_0
                              try clear hcz37_1
                              try clear hcz37_2
                              try clear hcz37_3
                              try clear hcz39_0
                              try clear hcz39_1
                              try clear hcz39_2
                              try clear hcz39_3
                              try clear hcz47_0
                              try clear hcz47_1
                              try clear hcz48_0
                              try clear hcz48_1
                              try clear hcz48_2
                              try clear hcz48_3
                              try clear hcz50_0
                              try clear hcz50_1
                              try clear hcz51_0
                              try clear hcz51_1
                              try clear hcz51_2
                              try clear hcz51_3
                              try clear hcz5_0
                              try clear hcz5_1
                              try clear hcz7_0
                              try clear hcz7_1
                              try clear hcz8_0
                              try clear hcz8_1
                              try clear hfz13_0
                              try clear hfz13_1
                              try clear hfz16_0
                              try clear hfz16_1
                              try clear hfz16_2
                              try clear hfz16_3
                              try clear hfz21_0
                              try clear hfz21_1
                              try clear hfz21_2
                              try clear hfz21_3
                              try clear hfz23_0
                              try clear hfz23_1
                              try clear hfz23_2
                              try clear hfz23_3
                              try clear hfz26_0
                              try clear hfz26_1
                              try clear hfz26_2
                              try clear hfz26_3
                              try clear hfz28_0
                              try clear hfz28_1
                              try clear hfz28_2
                              try clear hfz28_3
                              try clear hfz31_0
                              try clear hfz31_1
                              try clear hfz31_2
                              try clear hfz31_3
                              try clear hfz33_0
                              try clear hfz33_1
                              try clear hfz33_2
                              try clear hfz33_3
                              try clear hfz35_0
                              try clear hfz35_1
                              try clear hfz35_2
                              try clear hfz35_3
                              try clear hfz37_0
                              try clear hfz37_1
                              try clear hfz37_2
                              try clear hfz37_3
                              try clear hfz39_0
                              try clear hfz39_1
                              try clear hfz39_2
                              try clear hfz39_3
                              try clear hfz47_0
                              try clear hfz47_1
                              try clear hfz48_0
                              try clear hfz48_1
                              try clear hfz48_2
                              try clear hfz48_3
                              try clear hfz50_0
                              try clear hfz50_1
                              try clear hfz51_0
                              try clear hfz51_1
                              try clear hfz51_2
                              try clear hfz51_3
                              try clear hfz5_0
                              try clear hfz5_1
                              try clear hfz7_0
                              try clear hfz7_1
                              try clear hfz8_0
                              try clear hfz8_1
                              try clear hx360_0
                              try clear hx360_1
                              try clear hx360_2
                              try clear hx360_3
                              try clear hx363_0
                              try clear hx363_1
                              try clear hx363_2
                              try clear hx363_3
                              try clear p2
                              try clear p3
                              try clear p36
                              try clear p360
                              try clear p363
                              try clear q3
                              try clear q36
                              try clear q360
                              try clear q363
                              obtain ⟨x6_5,rfl,HA,HK5,BK359,BK361,HB⟩:=hrel
                              cases gk with
                              |zero=>exact absurd HA.out (by simp [AR.l2])
                              | succ k5 =>
                                have H:=HA.out
                                clear HA
                                simp only [AR.l2] at H
                                by_cases c52:x6_5<(((AL l0_1 x3_2).f3).length:Int)
                                · rw [if_pos c52] at H
                                  have c52b0:decide (x6_5<(((AL l0_1 x3_2).f3).length:Int))=true:=decide_eq_true c52
                                  clear c52
                                  by_cases c53:0≤x6_5
                                  · rw [if_pos c53] at H
                                    have c53b0:decide (0≤x6_5)=true:=decide_eq_true c53
                                    clear c53
                                    by_cases c54:(rd ((AL l0_1 x3_2).f3) x6_5)<0
                                    · rw [if_pos c54] at H
                                      have c54b0:decide ((rd ((AL l0_1 x3_2).f3) x6_5)<0)=true:=decide_eq_true c54
                                      clear c54
                                      obtain rfl:=Option.some.inj H
                                      have hnb55:=NB361_359.out
                                      have hnc55:=NB359_361.out
                                      have hcz56_0:wr.cell? ⟨gb361,0,none⟩=some (.string ((AL l0_1 x3_2).f0)):=(AK BK361.out 0).trans rfl
                                      have hcz56_1:wr.cell? ⟨gb361,1,none⟩=some (.int .i64 ((AL l0_1 x3_2).f1)):=(AK BK361.out 1).trans rfl
                                      have hcz56_2:wr.cell? ⟨gb361,2,none⟩=some (.int .i64 ((AL l0_1 x3_2).f2)):=(AK BK361.out 2).trans rfl
                                      have hcz56_3:wr.cell? ⟨gb361,3,none⟩=some (.slice A360_3 ((AL l0_1 x3_2).f3).length c360_3):=(AK BK361.out 3).trans rfl
                                      have hfz56_0:=AJ BK361.out 0
                                      have hfz56_1:=AJ BK361.out 1
                                      have hfz56_2:=AJ BK361.out 2
                                      have hfz56_3:=AJ BK361.out 3
                                      have p364:0≤(x6_5:Int):=of_decide_eq_true zA
                                      have q364:x6_5<(((AL l0_1 x3_2).f3).length:Int):=of_decide_eq_true zA
                                      obtain ⟨ad364,e364,hx364_0⟩:=Kd.at_int HR360_3.out x6_5 p364 q364
                                      cases e364
                                      replace hx364_0:=(HB.out.cell (World.block_lt_of_cell? w _ hx364_0)).trans hx364_0
                                      replace p364:=eq_true p364
                                      replace q364:=eq_true q364
                                      go_wp2
                                      repeat (go_quiet (fail); try go_wp2)
                                      go_ret
                                      exact ⟨by first|rfl|(simp [AU,AT]<;>rfl)|(simp [*,AU,AT]<;>rfl),by repeat (first|(with_reducible first|exact HB.out|apply AE|apply AC|apply AD|refine AI ?_ GE359.out|refine AI ?_ GE361.out)|exact HB.out)⟩
                                    · rw [if_neg c54] at H
                                      have c54b0:decide ((rd ((AL l0_1 x3_2).f3) x6_5)<0)=false:=decide_eq_false c54
                                      clear c54
                                      by_cases c57:(rd ((AL l0_1 x3_2).f3) x6_5)≥x3_2
                                      · rw [if_pos c57] at H
                                        have c57b0:decide (x3_2≤(rd ((AL l0_1 x3_2).f3) x6_5))=true:=decide_eq_true c57
                                        clear c57
                                        obtain rfl:=Option.some.inj H
                                        have hnb58:=NB361_359.out
                                        have hnc58:=NB359_361.out
                                        have hcz59_0:wr.cell? ⟨gb361,0,none⟩=some (.string ((AL l0_1 x3_2).f0)):=(AK BK361.out 0).trans rfl
                                        have hcz59_1:wr.cell? ⟨gb361,1,none⟩=some (.int .i64 ((AL l0_1 x3_2).f1)):=(AK BK361.out 1).trans rfl
                                        have hcz59_2:wr.cell? ⟨gb361,2,none⟩=some (.int .i64 ((AL l0_1 x3_2).f2)):=(AK BK361.out 2).trans rfl
                                        have hcz59_3:wr.cell? ⟨gb361,3,none⟩=some (.slice A360_3 ((AL l0_1 x3_2).f3).length c360_3):=(AK BK361.out 3).trans rfl
                                        have hfz59_0:=AJ BK361.out 0
                                        have hfz59_1:=AJ BK361.out 1
                                        have hfz59_2:=AJ BK361.out 2
                                        have hfz59_3:=AJ BK361.out 3
                                        have p364:0≤(x6_5:Int):=of_decide_eq_true zA
                                        have q364:x6_5<(((AL l0_1 x3_2).f3).length:Int):=of_decide_eq_true zA
                                        obtain ⟨ad364,e364,hx364_0⟩:=Kd.at_int HR360_3.out x6_5 p364 q364
                                        cases e364
                                        replace hx364_0:=(HB.out.cell (World.block_lt_of_cell? w _ hx364_0)).trans hx364_0
                                        replace p364:=eq_true p364
                                        replace q364:=eq_true q364
                                        have p365:0≤(x6_5:Int):=of_decide_eq_true zA
                                        have q365:x6_5<(((AL l0_1 x3_2).f3).length:Int):=of_decide_eq_true zA
                                        obtain ⟨ad365,e365,hx365_0⟩:=Kd.at_int HR360_3.out x6_5 p365 q365
                                        obtain rfl:ad364=ad365:=(by injection e365)
                                        replace hx365_0:=(HB.out.cell (World.block_lt_of_cell? w _ hx365_0)).trans hx365_0
                                        replace p365:=eq_true p365
                                        replace q365:=eq_true q365
                                        go_wp2
                                        repeat (go_quiet (fail); try go_wp2)
                                        go_ret
                                        exact ⟨by first|rfl|(simp [AU,AT]<;>rfl)|(simp [*,AU,AT]<;>rfl),by repeat (first|(with_reducible first|exact HB.out|apply AE|apply AC|apply AD|refine AI ?_ GE359.out|refine AI ?_ GE361.out)|exact HB.out)⟩
                                      · rw [if_neg c57] at H
                                        have c57b0:decide (x3_2≤(rd ((AL l0_1 x3_2).f3) x6_5))=false:=decide_eq_false c57
                                        clear c57
                                        by_cases c60:x6_5>0
                                        · rw [if_pos c60] at H
                                          have c60b0:decide (0<x6_5)=true:=decide_eq_true c60
                                          clear c60
                                          obtain ⟨ji61,hji61⟩:∃j_:Int,(wrap64 (x6_5-1))=j_:=⟨_,rfl⟩
                                          replace H:(if 0≤(ji61) then (if (ji61)<(((AL l0_1 x3_2).f3).length:Int) then (if (rd ((AL l0_1 x3_2).f3) (ji61))≥(rd ((AL l0_1 x3_2).f3) x6_5) then (some false) else (AR.l2 k5 x3_2 (wrap64 (x6_5+1)) A8 l0_1 ((AL l0_1 x3_2).f0) ((AL l0_1 x3_2).f1) ((AL l0_1 x3_2).f2) ((AL l0_1 x3_2).f3))) else (none)) else (none))=some r:=by first|(rw [hji61] at H; exact H)|(simp only [hji61] at H ⊢; exact H)
                                          have hji61w:(IntKind.i64.wrap (x6_5-1))=ji61:=(AZ _).trans hji61
                                          by_cases c62:0≤(ji61)
                                          · rw [if_pos c62] at H
                                            have c62b0:decide (0≤(ji61))=true:=decide_eq_true c62
                                            clear c62
                                            by_cases c63:(ji61)<(((AL l0_1 x3_2).f3).length:Int)
                                            · rw [if_pos c63] at H
                                              have c63b0:decide ((ji61)<(((AL l0_1 x3_2).f3).length:Int))=true:=decide_eq_true c63
                                              clear c63
                                              by_cases c64:(rd ((AL l0_1 x3_2).f3) (ji61))≥(rd ((AL l0_1 x3_2).f3) x6_5)
                                              · rw [if_pos c64] at H
                                                have c64b0:decide ((rd ((AL l0_1 x3_2).f3) x6_5)≤(rd ((AL l0_1 x3_2).f3) (ji61)))=true:=decide_eq_true c64
                                                clear c64
                                                obtain rfl:=Option.some.inj H
                                                have hnb65:=NB361_359.out
                                                have hnc65:=NB359_361.out
                                                have hcz66_0:wr.cell? ⟨gb361,0,none⟩=some (.string ((AL l0_1 x3_2).f0)):=(AK BK361.out 0).trans rfl
                                                have hcz66_1:wr.cell? ⟨gb361,1,none⟩=some (.int .i64 ((AL l0_1 x3_2).f1)):=(AK BK361.out 1).trans rfl
                                                have hcz66_2:wr.cell? ⟨gb361,2,none⟩=some (.int .i64 ((AL l0_1 x3_2).f2)):=(AK BK361.out 2).trans rfl
                                                have hcz66_3:wr.cell? ⟨gb361,3,none⟩=some (.slice A360_3 ((AL l0_1 x3_2).f3).length c360_3):=(AK BK361.out 3).trans rfl
                                                have hfz66_0:=AJ BK361.out 0
                                                have hfz66_1:=AJ BK361.out 1
                                                have hfz66_2:=AJ BK361.out 2
                                                have hfz66_3:=AJ BK361.out 3
                                                have p364:0≤(x6_5:Int):=of_decide_eq_true zA
                                                have q364:x6_5<(((AL l0_1 x3_2).f3).length:Int):=of_decide_eq_true zA
                                                obtain ⟨ad364,e364,hx364_0⟩:=Kd.at_int HR360_3.out x6_5 p364 q364
                                                cases e364
                                                replace hx364_0:=(HB.out.cell (World.block_lt_of_cell? w _ hx364_0)).trans hx364_0
                                                replace p364:=eq_true p364
                                                replace q364:=eq_true q364
                                                have p365:0≤(x6_5:Int):=of_decide_eq_true zA
                                                have q365:x6_5<(((AL l0_1 x3_2).f3).length:Int):=of_decide_eq_true zA
                                                obtain ⟨ad365,e365,hx365_0⟩:=Kd.at_int HR360_3.out x6_5 p365 q365
                                                obtain rfl:ad364=ad365:=(by injection e365)
                                                replace hx365_0:=(HB.out.cell (World.block_lt_of_cell? w _ hx365_0)).trans hx365_0
                                                replace p365:=eq_true p365
                                                replace q365:=eq_true q365
                                                have p366:0≤((ji61):Int):=of_decide_eq_true zA
                                                have q366:(ji61)<(((AL l0_1 x3_2).f3).length:Int):=of_decide_eq_true zA
                                                obtain ⟨ad366,e366,hx366_0⟩:=Kd.at_int HR360_3.out (ji61) p366 q366
                                                obtain rfl:ad364=ad366:=(by injection e366)
                                                replace hx366_0:=(HB.out.cell (World.block_lt_of_cell? w _ hx366_0)).trans hx366_0
                                                replace p366:=eq_true p366
                                                replace q366:=eq_true q366
                                                have p367:0≤(x6_5:Int):=of_decide_eq_true zA
                                                have q367:x6_5<(((AL l0_1 x3_2).f3).length:Int):=of_decide_eq_true zA
                                                obtain ⟨ad367,e367,hx367_0⟩:=Kd.at_int HR360_3.out x6_5 p367 q367
                                                obtain rfl:ad364=ad367:=(by injection e367)
                                                replace hx367_0:=(HB.out.cell (World.block_lt_of_cell? w _ hx367_0)).trans hx367_0
                                                replace p367:=eq_true p367
                                                replace q367:=eq_true q367
                                                go_wp2
                                                repeat (go_quiet (fail); try go_wp2)
                                                go_ret
                                                exact ⟨by first|rfl|(simp [AU,AT]<;>rfl)|(simp only [←hji61]; first|rfl|(simp [AU,AT]<;>rfl))|(simp [*,AU,AT]<;>rfl),by repeat (first|(with_reducible first|exact HB.out|apply AE|apply AC|apply AD|refine AI ?_ GE359.out|refine AI ?_ GE361.out)|exact HB.out)⟩
                                              · rw [if_neg c64] at H
                                                have c64b0:decide ((rd ((AL l0_1 x3_2).f3) x6_5)≤(rd ((AL l0_1 x3_2).f3) (ji61)))=false:=decide_eq_false c64
                                                clear c64
                                                have H':=Aside0.mk H
                                                clear H
                                                have hnb67:=NB361_359.out
                                                have hnc67:=NB359_361.out
                                                have hcz68_0:wr.cell? ⟨gb361,0,none⟩=some (.string ((AL l0_1 x3_2).f0)):=(AK BK361.out 0).trans rfl
                                                have hcz68_1:wr.cell? ⟨gb361,1,none⟩=some (.int .i64 ((AL l0_1 x3_2).f1)):=(AK BK361.out 1).trans rfl
                                                have hcz68_2:wr.cell? ⟨gb361,2,none⟩=some (.int .i64 ((AL l0_1 x3_2).f2)):=(AK BK361.out 2).trans rfl
                                                have hcz68_3:wr.cell? ⟨gb361,3,none⟩=some (.slice A360_3 ((AL l0_1 x3_2).f3).length c360_3):=(AK BK361.out 3).trans rfl
                                                have hfz68_0:=AJ BK361.out 0
                                                have hfz68_1:=AJ BK361.out 1
                                                have hfz68_2:=AJ BK361.out 2
                                                have hfz68_3:=AJ BK361.out 3
                                                have p364:0≤(x6_5:Int):=of_decide_eq_true zA
                                                have q364:x6_5<(((AL l0_1 x3_2).f3).length:Int):=of_decide_eq_true zA
                                                obtain ⟨ad364,e364,hx364_0⟩:=Kd.at_int HR360_3.out x6_5 p364 q364
                                                cases e364
                                                replace hx364_0:=(HB.out.cell (World.block_lt_of_cell? w _ hx364_0)).trans hx364_0
                                                replace p364:=eq_true p364
                                                replace q364:=eq_true q364
                                                have p365:0≤(x6_5:Int):=of_decide_eq_true zA
                                                have q365:x6_5<(((AL l0_1 x3_2).f3).length:Int):=of_decide_eq_true zA
                                                obtain ⟨ad365,e365,hx365_0⟩:=Kd.at_int HR360_3.out x6_5 p365 q365
                                                obtain rfl:ad364=ad365:=(by injection e365)
                                                replace hx365_0:=(HB.out.cell (World.block_lt_of_cell? w _ hx365_0)).trans hx365_0
                                                replace p365:=eq_true p365
                                                replace q365:=eq_true q365
                                                have p366:0≤((ji61):Int):=of_decide_eq_true zA
                                                have q366:(ji61)<(((AL l0_1 x3_2).f3).length:Int):=of_decide_eq_true zA
                                                obtain ⟨ad366,e366,hx366_0⟩:=Kd.at_int HR360_3.out (ji61) p366 q366
                                                obtain rfl:ad364=ad366:=(by injection e366)
                                                replace hx366_0:=(HB.out.cell (World.block_lt_of_cell? w _ hx366_0)).trans hx366_0
                                                replace p366:=eq_true p366
                                                replace q366:=eq_true q366
                                                have p367:0≤(x6_5:Int):=of_decide_eq_true zA
                                                have q367:x6_5<(((AL l0_1 x3_2).f3).length:Int):=of_decide_eq_true zA
                                                obtain ⟨ad367,e367,hx367_0⟩:=Kd.at_int HR360_3.out x6_5 p367 q367
                                                obtain rfl:ad364=ad367:=(by injection e367)
                                                replace hx367_0:=(HB.out.cell (World.block_lt_of_cell? w _ hx367_0)).trans hx367_0
                                                replace p367:=eq_true p367
                                                replace q367:=eq_true q367
                                                go_wp2
                                                repeat (go_quiet (fail); try go_wp2)
                                                go_roundg k5
                                                case measure=>have:=HJ1.out; have:=HK2.out; have:=HJ11.out; have:=HK4.out; have:=HK5.out; omega
                                                case rel=>exact ⟨(wrap64 (x6_5+1)),zF,H',⟨by have:=HJ1.out; have:=HK2.out; have:=HJ11.out; have:=HK4.out; have:=HK5.out; omega⟩,⟨by (with_reducible repeat (first|refine AF ?_ _|refine AH ?_|refine AG ?_ _)); exact BK359.out⟩,⟨by (with_reducible repeat (first|refine AF ?_ _|refine AH ?_|refine AG ?_ _)); exact BK361.out⟩,⟨by repeat (first|(with_reducible first|exact HB.out|apply AE|apply AC|apply AD|refine AI ?_ GE359.out|refine AI ?_ GE361.out)|exact HB.out)⟩⟩
                                            · rw [if_neg c63] at H
                                              exact absurd H zY
                                          · rw [if_neg c62] at H
                                            exact absurd H zY
                                        · rw [if_neg c60] at H
                                          have c60b0:decide (0<x6_5)=false:=decide_eq_false c60
                                          clear c60
                                          have H':=Aside0.mk H
                                          clear H
                                          have hnb69:=NB361_359.out
                                          have hnc69:=NB359_361.out
                                          have hcz70_0:wr.cell? ⟨gb361,0,none⟩=some (.string ((AL l0_1 x3_2).f0)):=(AK BK361.out 0).trans rfl
                                          have hcz70_1:wr.cell? ⟨gb361,1,none⟩=some (.int .i64 ((AL l0_1 x3_2).f1)):=(AK BK361.out 1).trans rfl
                                          have hcz70_2:wr.cell? ⟨gb361,2,none⟩=some (.int .i64 ((AL l0_1 x3_2).f2)):=(AK BK361.out 2).trans rfl
                                          have hcz70_3:wr.cell? ⟨gb361,3,none⟩=some (.slice A360_3 ((AL l0_1 x3_2).f3).length c360_3):=(AK BK361.out 3).trans rfl
                                          have hfz70_0:=AJ BK361.out 0
                                          have hfz70_1:=AJ BK361.out 1
                                          have hfz70_2:=AJ BK361.out 2
                                          have hfz70_3:=AJ BK361.out 3
                                          have p364:0≤(x6_5:Int):=of_decide_eq_true zA
                                          have q364:x6_5<(((AL l0_1 x3_2).f3).length:Int):=of_decide_eq_true zA
                                          obtain ⟨ad364,e364,hx364_0⟩:=Kd.at_int HR360_3.out x6_5 p364 q364
                                          cases e364
                                          replace hx364_0:=(HB.out.cell (World.block_lt_of_cell? w _ hx364_0)).trans hx364_0
                                          replace p364:=eq_true p364
                                          replace q364:=eq_true q364
                                          have p365:0≤(x6_5:Int):=of_decide_eq_true zA
                                          have q365:x6_5<(((AL l0_1 x3_2).f3).length:Int):=of_decide_eq_true zA
                                          obtain ⟨ad365,e365,hx365_0⟩:=Kd.at_int HR360_3.out x6_5 p365 q365
                                          obtain rfl:ad364=ad365:=(by injection e365)
                                          replace hx365_0:=(HB.out.cell (World.block_lt_of_cell? w _ hx365_0)).trans hx365_0
                                          replace p365:=eq_true p365
                                          replace q365:=eq_true q365
                                          go_wp2
                                          repeat (go_quiet (fail); try go_wp2)
                                          go_roundg k5
                                          case measure=>have:=HJ1.out; have:=HK2.out; have:=HJ11.out; have:=HK4.out; have:=HK5.out; omega
                                          case rel=>exact ⟨(wrap64 (x6_5+1)),zF,H',⟨by have:=HJ1.out; have:=HK2.out; have:=HJ11.out; have:=HK4.out; have:=HK5.out; omega⟩,⟨by (with_reducible repeat (first|refine AF ?_ _|refine AH ?_|refine AG ?_ _)); exact BK359.out⟩,⟨by (with_reducible repeat (first|refine AF ?_ _|refine AH ?_|refine AG ?_ _)); exact BK361.out⟩,⟨by repeat (first|(with_reducible first|exact HB.out|apply AE|apply AC|apply AD|refine AI ?_ GE359.out|refine AI ?_ GE361.out)|exact HB.out)⟩⟩
                                  · rw [if_neg c53] at H
                                    exact absurd H zY
                                · rw [if_neg c52] at H
                                  have c52b0:decide (x6_5<(((AL l0_1 x3_2).f3).length:Int))=false:=decide_eq_false c52
                                  clear c52
                                  have H':=Aside0.mk H
                                  clear H
                                  have hnb71:=NB361_359.out
                                  have hnc71:=NB359_361.out
                                  have hcz72_0:wr.cell? ⟨gb361,0,none⟩=some (.string ((AL l0_1 x3_2).f0)):=(AK BK361.out 0).trans rfl
                                  have hcz72_1:wr.cell? ⟨gb361,1,none⟩=some (.int .i64 ((AL l0_1 x3_2).f1)):=(AK BK361.out 1).trans rfl
                                  have hcz72_2:wr.cell? ⟨gb361,2,none⟩=some (.int .i64 ((AL l0_1 x3_2).f2)):=(AK BK361.out 2).trans rfl
                                  have hcz72_3:wr.cell? ⟨gb361,3,none⟩=some (.slice A360_3 ((AL l0_1 x3_2).f3).length c360_3):=(AK BK361.out 3).trans rfl
                                  have hfz72_0:=AJ BK361.out 0
                                  have hfz72_1:=AJ BK361.out 1
                                  have hfz72_2:=AJ BK361.out 2
                                  have hfz72_3:=AJ BK361.out 3
                                  go_wp2
                                  repeat (go_quiet (fail); try go_wp2)
                                  go_roundg k5
                                  case measure=>have:=HJ1.out; have:=HK2.out; have:=HJ11.out; have:=HK4.out; have:=HK5.out; omega
                                  case rel=>exact ⟨(wrap64 (x3_2+1)),zF,H',⟨by have:=HJ1.out; have:=HK2.out; have:=HJ11.out; have:=HK4.out; have:=HK5.out; omega⟩,⟨by (with_reducible repeat (first|refine AF ?_ _|refine AH ?_|refine AG ?_ _)); exact BK359.out⟩,⟨by repeat (first|(with_reducible first|exact HB.out|apply AE|apply AC|apply AD|refine AI ?_ GE359.out|refine AI ?_ GE361.out)|exact HB.out)⟩⟩
              · rw [if_neg c11] at H
                exact absurd H zY
            · rw [if_neg c10] at H
              have c10b0:decide (x3_2<(l0_1.length:Int))=false:=decide_eq_false c10
              clear c10
              obtain rfl:=Option.some.inj H
              have hcz73_0:wr.cell? ⟨gb359,0,none⟩=some (.int .i64 A8):=(AK BK359.out 0).trans rfl
              have hcz73_1:wr.cell? ⟨gb359,1,none⟩=some (.slice A0_1 l0_1.length c0_1):=(AK BK359.out 1).trans rfl
              have hfz73_0:=AJ BK359.out 0
              have hfz73_1:=AJ BK359.out 1
              go_wp2
              repeat (go_quiet (fail); try go_wp2)
              go_ret
              exact ⟨by first|rfl|(simp [AU,AT]<;>rfl)|(simp [*,AU,AT]<;>rfl),by repeat (first|(with_reducible first|exact HB.out|apply AE|apply AC|apply AD|refine AI ?_ GE359.out)|exact HB.out)⟩
end Go.Proofs.Ytdadecjefafflaa.PAll
end
section
namespace Go.Proofs.Ytdadecjefafflaa.PAll
set_option maxRecDepth 100000
open Go.RowKit Go.Proofs.YtdadecjefafflaaW.PrintWords Go.Proofs.YtdadecjefafflaaW.PrintLast Go.Proofs.YtdadecjefafflaaW.PrintMore
attribute [local go_sem] Bb BZ Bg Bf BU BT Ba BX
mutual
def Ah.l0:Nat→List Int→Int→Int→Option (Bool)
 |0,_,_,_=>none
 |k+1,x0,x1,x5=>if x5<x1 then (if 0≤x5 then (if x5<(x0.length:Int) then (if (rd x0 x5)<0 then (Ah.j1 k x0 x1 x5 true) else (Ah.j1 k x0 x1 x5 (decide ((rd x0 x5)≥x1)))) else (none)) else (none)) else (some true)
def Ah.j1:Nat→List Int→Int→Int→Bool→Option (Bool)
 |0,_,_,_,_=>none
 |k+1,x0,x1,x5,x28=>if x28=true then (some false) else (Ah.l1 k x0 x1 x5 0)
def Ah.l1:Nat→List Int→Int→Int→Int→Option (Bool)
 |0,_,_,_,_=>none
 |k+1,x0,x1,x5,x6=>if x6<x5 then (if 0≤x6 then (if x6<(x0.length:Int) then (if 0≤x5 then (if x5<(x0.length:Int) then (if (rd x0 x6)=(rd x0 x5) then (some false) else (Ah.l1 k x0 x1 x5 (wrap64 (x6+1)))) else (none)) else (none)) else (none)) else (none)) else (Ah.l0 k x0 x1 (wrap64 (x5+1)))
end
def Ah.f (k:Nat) (l0:List Int) (a1:Int):Option (Bool):=if (l0.length:Int)=a1 then (Ah.l0 k l0 a1 0) else (some false)
set_option maxHeartbeats 8000000 in
theorem Ah.calls (k:Nat) (A0:Option Addr) (c0:Nat) (l0:List Int) (a1:Int) (r:Bool) (w:World) (hr0:Kd.C (Kd.int .i64) w A0 l0.length l0) (hc0:l0.length≤c0) (h:Ah.f k l0 a1=some r):
  Calls Try.prog 39 #[.slice A0 l0.length c0,.int .i64 a1] w fun e w'=>e= .returned (.bool r)∧Drawn0 w w':=by
 have HR0:=Aside0.mk hr0
 have HC0:=Aside0.mk hc0
 clear hr0 hc0
 have H:(if (l0.length:Int)=a1 then (Ah.l0 k l0 a1 0) else (some false))=some r:=h
 clear h
 by_cases c3:(l0.length:Int)=a1
 ·rw [if_pos c3] at H
  have c3b0:((l0.length:Int)==a1)=true:=beq_iff_eq.mpr c3
  have c3b1:((l0.length:Int) !=a1)=false:=bne_eq_false_iff_eq.mpr c3
  clear c3
  have H':=Aside0.mk H
  clear H
  go_enter Try.func39,Try.ntmps39
  go_wp2
  repeat (go_quiet (fail); try go_wp2)
  go_loopg [5] k (fun kq v5 w'=>∃(x5_1:Int),v5= .int .i64 x5_1∧Aside0 (Ah.l0 kq l0 a1 x5_1=some r)∧Aside0 (kq≤k)∧Drawn0 w w')
  case atStart=>exact ⟨(0),zF,H',⟨Nat.le_refl _⟩,by repeat (first|exact Drawn0.refl _|apply Drawn0.step)⟩
  case round=>
   clear H'
   try clear p2
   try clear c3
   try clear c3b0
   try clear c3b1
   obtain ⟨x5_1,rfl,HA,HK1,⟨m1,rfl⟩⟩:=hrel
   cases gk with
   |zero=>exact absurd HA.out (by simp [Ah.l0])
   | succ k1 =>
    have H:=HA.out
    clear HA
    simp only [Ah.l0] at H
    by_cases c4:x5_1<a1
    ·rw [if_pos c4] at H
     have c4b0:decide (x5_1<a1)=true:=decide_eq_true c4
     clear c4
     have HC5:=Aside0.mk H
     clear H
     go_upto_region 6 with (fail)
     repeat (go_quiet (fail); go_upto_region 6 with (fail))
     go_cut [28] (fun v28 wc=>∃(kq:Nat) (x28_4:Bool),v28= .bool x28_4∧Aside0 (Ah.j1 kq l0 a1 x5_1 x28_4=some r)∧Aside0 (kq≤k1)∧Drawn0 w wc)
     case first=>
      have H:=HC5.out
      clear HC5
      by_cases c6:0≤x5_1
      ·rw [if_pos c6] at H
       have c6b0:decide (0≤x5_1)=true:=decide_eq_true c6
       clear c6
       (first|rw [c6b0]|(simp only [AZ,Ab]; rw [c6b0])|skip)
       by_cases c7:x5_1<(l0.length:Int)
       ·rw [if_pos c7] at H
        have c7b0:decide (x5_1<(l0.length:Int))=true:=decide_eq_true c7
        clear c7
        by_cases c8:(rd l0 x5_1)<0
        ·rw [if_pos c8] at H
         have c8b0:decide ((rd l0 x5_1)<0)=true:=decide_eq_true c8
         clear c8
         have H':=Aside0.mk H
         clear H
         have p368:0≤(x5_1:Int):=of_decide_eq_true zA
         have q368:x5_1<(l0.length:Int):=of_decide_eq_true zA
         obtain ⟨ad368,e368,hx368_0⟩:=Kd.at_int HR0.out x5_1 p368 q368
         cases e368
         replace p368:=eq_true p368
         replace q368:=eq_true q368
         go_wp2
         repeat (go_quiet (fail); try go_wp2)
         go_meet
         case rel=>exact ⟨_,(true),zF,H',⟨by have:=HK1.out; first|omega|exact Nat.le_refl _⟩,by repeat (first|exact Drawn0.refl _|apply Drawn0.step)⟩
        ·rw [if_neg c8] at H
         have c8b0:decide ((rd l0 x5_1)<0)=false:=decide_eq_false c8
         clear c8
         have H':=Aside0.mk H
         clear H
         have p368:0≤(x5_1:Int):=of_decide_eq_true zA
         have q368:x5_1<(l0.length:Int):=of_decide_eq_true zA
         obtain ⟨ad368,e368,hx368_0⟩:=Kd.at_int HR0.out x5_1 p368 q368
         cases e368
         replace p368:=eq_true p368
         replace q368:=eq_true q368
         have p369:0≤(x5_1:Int):=of_decide_eq_true zA
         have q369:x5_1<(l0.length:Int):=of_decide_eq_true zA
         obtain ⟨ad369,e369,hx369_0⟩:=Kd.at_int HR0.out x5_1 p369 q369
         obtain rfl:ad368=ad369:=(by injection e369)
         replace p369:=eq_true p369
         replace q369:=eq_true q369
         go_wp2
         repeat (go_quiet (fail); try go_wp2)
         go_meet
         case rel=>exact ⟨_,(decide ((rd l0 x5_1)≥a1)),zF,H',⟨by have:=HK1.out; first|omega|exact Nat.le_refl _⟩,by repeat (first|exact Drawn0.refl _|apply Drawn0.step)⟩
       ·rw [if_neg c7] at H
        exact absurd H zY
      ·rw [if_neg c6] at H
       exact absurd H zY
     case rest =>
      clear HC5
      try clear p2
      try clear c3
      try clear c3b0
      try clear c3b1
      try clear p3
      try clear q3
      try clear hx3
      try clear c4
      try clear c4b0
      try clear c6
      try clear c6b0
      try clear c7
      try clear c7b0
      try clear c8
      try clear c8b0
      try clear hx368_0
      try clear hx369_0
      try clear p2
      try clear p368
      try clear p369
      try clear q368
      try clear q369
      obtain ⟨kq,x28_4,rfl,HA,HJ4,⟨mc4,rfl⟩⟩:=hcut
      cases kq with
      |zero=>exact absurd HA.out (by simp [Ah.j1])
      | succ kj4=>
       have H:=HA.out
       clear HA
       simp only [Ah.j1] at H
       by_cases c9:x28_4=true
       ·subst c9
        have H1:(some false)=some r:=by rw [if_pos rfl] at H; exact H
        clear H
        have H:=H1
        clear H1
        obtain rfl:=Option.some.inj H
        go_wp2
        repeat (go_quiet (fail); try go_wp2)
        go_ret
        exact ⟨by first|rfl|(simp; done)|(simp [*]; done),by repeat (first|exact Drawn0.refl _|apply Drawn0.step)⟩
       ·replace c9 := Bool.eq_false_iff.mpr c9
        subst c9
        have H1:(Ah.l1 kj4 l0 a1 x5_1 0)=some r:=by rw [if_neg (show ¬(false=true) by decide)] at H; exact H
        clear H
        have H:=H1
        clear H1
        have H':=Aside0.mk H
        clear H
        go_wp2
        repeat (go_quiet (fail); try go_wp2)
        go_loopg [6] kj4 (fun kq v6 w'=>∃(x6_3:Int),v6= .int .i64 x6_3∧Aside0 (Ah.l1 kq l0 a1 x5_1 x6_3=some r)∧Aside0 (kq≤kj4)∧Drawn0 w w')
        case atStart=>exact ⟨(0),zF,H',⟨Nat.le_refl _⟩,by repeat (first|exact Drawn0.refl _|apply Drawn0.step)⟩
        case round=>
         clear H'
         try clear p2
         try clear c3
         try clear c3b0
         try clear c3b1
         try clear p3
         try clear q3
         try clear hx3
         try clear c4
         try clear c4b0
         try clear c6
         try clear c6b0
         try clear c7
         try clear c7b0
         try clear c8
         try clear c8b0
         try clear c9
         try clear hx368_0
         try clear hx369_0
         try clear p2
         try clear p3
         try clear p368
         try clear p369
         try clear q3
         try clear q368
         try clear q369
         obtain ⟨x6_3,rfl,HA,HK3,⟨m3,rfl⟩⟩:=hrel
         cases gk with
         |zero=>exact absurd HA.out (by simp [Ah.l1])
         | succ k3 =>
          have H:=HA.out
          clear HA
          simp only [Ah.l1] at H
          by_cases c10:x6_3<x5_1
          ·rw [if_pos c10] at H
           have c10b0:decide (x6_3<x5_1)=true:=decide_eq_true c10
           clear c10
           by_cases c11:0≤x6_3
           ·rw [if_pos c11] at H
            have c11b0:decide (0≤x6_3)=true:=decide_eq_true c11
            clear c11
            by_cases c12:x6_3<(l0.length:Int)
            ·rw [if_pos c12] at H
             have c12b0:decide (x6_3<(l0.length:Int))=true:=decide_eq_true c12
             clear c12
             by_cases c13:0≤x5_1
             ·rw [if_pos c13] at H
              have c13b0:decide (0≤x5_1)=true:=decide_eq_true c13
              clear c13
              by_cases c14:x5_1<(l0.length:Int)
              ·rw [if_pos c14] at H
               have c14b0:decide (x5_1<(l0.length:Int))=true:=decide_eq_true c14
               clear c14
               by_cases c15:(rd l0 x6_3)=(rd l0 x5_1)
               ·rw [if_pos c15] at H
                have c15b0:((rd l0 x6_3)==(rd l0 x5_1))=true:=beq_iff_eq.mpr c15
                have c15b1:((rd l0 x6_3) !=(rd l0 x5_1))=false:=bne_eq_false_iff_eq.mpr c15
                clear c15
                obtain rfl:=Option.some.inj H
                have p370:0≤(x6_3:Int):=of_decide_eq_true zA
                have q370:x6_3<(l0.length:Int):=of_decide_eq_true zA
                obtain ⟨ad370,e370,hx370_0⟩:=Kd.at_int HR0.out x6_3 p370 q370
                cases e370
                replace p370:=eq_true p370
                replace q370:=eq_true q370
                have p371:0≤(x5_1:Int):=of_decide_eq_true zA
                have q371:x5_1<(l0.length:Int):=of_decide_eq_true zA
                obtain ⟨ad371,e371,hx371_0⟩:=Kd.at_int HR0.out x5_1 p371 q371
                obtain rfl:ad370=ad371:=(by injection e371)
                replace p371:=eq_true p371
                replace q371:=eq_true q371
                go_wp2
                repeat (go_quiet (fail); try go_wp2)
                go_ret
                exact ⟨by first|rfl|(simp; done)|(simp [*]; done),by repeat (first|exact Drawn0.refl _|apply Drawn0.step)⟩
               ·rw [if_neg c15] at H
                have c15b0:((rd l0 x6_3)==(rd l0 x5_1))=false:=beq_eq_false_iff_ne.mpr c15
                have c15b1:((rd l0 x6_3) !=(rd l0 x5_1))=true:=bne_iff_ne.mpr c15
                have H':=Aside0.mk H
                clear H
                have p370:0≤(x6_3:Int):=of_decide_eq_true zA
                have q370:x6_3<(l0.length:Int):=of_decide_eq_true zA
                obtain ⟨ad370,e370,hx370_0⟩:=Kd.at_int HR0.out x6_3 p370 q370
                cases e370
                replace p370:=eq_true p370
                replace q370:=eq_true q370
                have p371:0≤(x5_1:Int):=of_decide_eq_true zA
                have q371:x5_1<(l0.length:Int):=of_decide_eq_true zA
                obtain ⟨ad371,e371,hx371_0⟩:=Kd.at_int HR0.out x5_1 p371 q371
                obtain rfl:ad370=ad371:=(by injection e371)
                replace p371:=eq_true p371
                replace q371:=eq_true q371
                go_wp2
                repeat (go_quiet (fail); try go_wp2)
                go_roundg k3
                case measure=>have:=HK1.out; have:=HJ4.out; have:=HK3.out; omega
                case rel=>exact ⟨(wrap64 (x6_3+1)),zF,H',⟨by have:=HK1.out; have:=HJ4.out; have:=HK3.out; omega⟩,by repeat (first|exact Drawn0.refl _|apply Drawn0.step)⟩
              ·rw [if_neg c14] at H
               exact absurd H zY
             ·rw [if_neg c13] at H
              exact absurd H zY
            ·rw [if_neg c12] at H
             exact absurd H zY
           ·rw [if_neg c11] at H
            exact absurd H zY
          ·rw [if_neg c10] at H
           have c10b0:decide (x6_3<x5_1)=false:=decide_eq_false c10
           clear c10
           have H':=Aside0.mk H
           clear H
           go_wp2
           repeat (go_quiet (fail); try go_wp2)
           go_roundg k3
           case measure=>have:=HK1.out; have:=HJ4.out; have:=HK3.out; omega
           case rel=>exact ⟨(wrap64 (x5_1+1)),zF,H',⟨by have:=HK1.out; have:=HJ4.out; have:=HK3.out; omega⟩,by repeat (first|exact Drawn0.refl _|apply Drawn0.step)⟩
    ·rw [if_neg c4] at H
     have c4b0:decide (x5_1<a1)=false:=decide_eq_false c4
     clear c4
     obtain rfl:=Option.some.inj H
     go_wp2
     repeat (go_quiet (fail); try go_wp2)
     go_ret
     exact ⟨by first|rfl|(simp; done)|(simp [*]; done),by repeat (first|exact Drawn0.refl _|apply Drawn0.step)⟩
 ·rw [if_neg c3] at H
  have c3b0:((l0.length:Int)==a1)=false:=beq_eq_false_iff_ne.mpr c3
  have c3b1:((l0.length:Int) !=a1)=true:=bne_iff_ne.mpr c3
  obtain rfl:=Option.some.inj H
  go_enter Try.func39,Try.ntmps39
  go_wp2
  repeat (go_quiet (fail); try go_wp2)
  go_ret
  exact ⟨by first|rfl|(simp; done)|(simp [*]; done),by repeat (first|exact Drawn0.refl _|apply Drawn0.step)⟩
end Go.Proofs.Ytdadecjefafflaa.PAll
end
