/- A part of what the law's proof leans on. PACKED BY pack.py of this repo. -/
import Derived.Test.YtdadecjefafflaaL3
set_option linter.unusedVariables false
set_option linter.unusedSimpArgs false
set_option linter.defProp false
set_option linter.unusedSectionVars false
section
namespace Go.Proofs.Ytdadecjefafflaa.PLst
set_option maxRecDepth 100000
open Go.RowKit Go.Proofs.YtdadecjefafflaaW.PrintWords Go.Proofs.YtdadecjefafflaaW.PrintLast Go.Proofs.YtdadecjefafflaaW.PrintMore
attribute [local go_sem] Bd Bb Bm Bk BU BT Bc Ba
mutual
def B5.l0:Nat→Int→Int→List (S42)→Option (Bool)
 |0,_,_,_=>none
 |k+1,x3,x228000,x228001=>if x3<(x228001.length:Int) then (B5.j1 k x3 (decide (x3<43)) x228000 x228001) else (B5.j1 k x3 false x228000 x228001)
def B5.j1:Nat→Int→Bool→Int→List (S42)→Option (Bool)
 |0,_,_,_,_=>none
 |k+1,x3,x12,x228000,x228001=>if x12=true then (if 0≤x3 then (if x3<(x228001.length:Int) then (if (((AL x228001 x3).f0).size:Int)>40 then (some false) else (if (((AL x228001 x3).f3).length:Int)>42 then (some false) else (B5.l0 k (wrap64 (x3+1)) x228000 x228001))) else (none)) else (none)) else (some (decide ((x228001.length:Int)≤42)))
end
def B5.f (k:Nat) (A8:Int) (l0_1:List (S42)):Option (Bool):=B5.l0 k 0 A8 l0_1
set_option maxHeartbeats 8000000 in
theorem B5.calls (k:Nat) (A8:Int) (A0_1:Option Addr) (c0_1:Nat) (l0_1:List (S42)) (r:Bool) (w:World) (hr0_1:Kd.C k42 w A0_1 l0_1.length l0_1) (hc0_1:l0_1.length≤c0_1) (h:B5.f k A8 l0_1=some r):
  Calls Try.prog 10 #[.agg #[.int .i64 A8,.slice A0_1 l0_1.length c0_1]] w fun e w'=>e= .returned (.bool r)∧Below w.heap.size w w':=by
 have hu24:=Try.underlying24
 have HR0_1:=yA hr0_1
 have HC0_1:=yA hc0_1
 clear hr0_1 hc0_1
 have HB:=yA (Below.refl w.heap.size w)
 have H:(B5.l0 k 0 A8 l0_1)=some r:=h
 clear h
 have H':=yA H
 clear H
 go_enter Try.func10,Try.ntmps10
 go_wp2_with (first|((with_reducible refine Aq (N:=1) rfl ?_); (try (refine BC (by rfl) ?_; dsimp only)); refine Av ?hg (N:=1) ?hd (cs:= #[.int .i64 A8,.slice A0_1 l0_1.length c0_1]) (t:=24) ?hr ?_; (case hd=>rfl); (case hg=>rfl); (case hr=>first|(go_simp; done)|(go_simp; rfl)); intro gb227 hg w2 hbox hb; have n0_:=yA (AO zB hb); have n1_:=yA (hbox); have n2_:=yA ((by rw [hg]; exact (AQ zB):w.heap.size≤gb227)); have n3_:=yA ((by rw [hg]; exact (AQ zB):w.heap.size≤gb227)); clear HB; have HB:=n0_; have BK227:=n1_; have GW227:=n2_; have GE227:=n3_; clear n0_ n1_ n2_ n3_; clear hb hbox hg))
 go_loopg [3] k (fun kq v3 w'=>∃(x3_1:Int),v3= .int .i64 x3_1∧Aside0 (B5.l0 kq x3_1 A8 l0_1=some r)∧Aside0 (kq≤k)∧Aside0 (w'.heap[gb227]? =some (.cells #[.int .i64 A8,(.slice A0_1 l0_1.length c0_1)] 24 (0,0)))∧Aside0 (Below w.heap.size w w'))
 case atStart=>exact ⟨(0),zH,H',⟨Nat.le_refl _⟩,⟨by (with_reducible repeat (first|refine AF ?_ _|refine AH ?_|refine AG ?_ _)); exact BK227.out⟩,⟨by repeat (first|(with_reducible first|exact HB.out|apply AE|apply AC|apply AD|refine AI ?_ GE227.out)|exact HB.out)⟩⟩
 case round=>
  clear H'
  try clear c1
  try clear p2
  obtain ⟨x3_1,rfl,HA,HK1,BK227,HB⟩:=hrel
  cases gk with
  |zero=>exact absurd HA.out (by simp [B5.l0])
  | succ k1 =>
   have H:=HA.out
   clear HA
   simp only [B5.l0] at H
   have HC3:=yA H
   clear H
   go_upto_region 2 with (fail)
   go_cut [12] (fun v12 wc=>∃(kq:Nat) (x12_2:Bool),v12= .bool x12_2∧Aside0 (B5.j1 kq x3_1 x12_2 A8 l0_1=some r)∧Aside0 (kq≤k1)∧Aside0 (wc.heap[gb227]? =some (.cells #[.int .i64 A8,(.slice A0_1 l0_1.length c0_1)] 24 (0,0)))∧Aside0 (Below w.heap.size w wc))
   case first=>
    have H:=HC3.out
    clear HC3
    by_cases c4:x3_1<(l0_1.length:Int)
    ·rw [if_pos c4] at H
     have c4b0:decide (x3_1<(l0_1.length:Int))=true:=decide_eq_true c4
     clear c4
     (first|rw [c4b0]|(simp only [Aa,Ab]; rw [c4b0])|skip)
     have H':=yA H
     clear H
     have hcz5_0:wr.cell? ⟨gb227,0,none⟩=some (.int .i64 A8):=(AK BK227.out 0).trans rfl
     have hcz5_1:wr.cell? ⟨gb227,1,none⟩=some (.slice A0_1 l0_1.length c0_1):=(AK BK227.out 1).trans rfl
     have hfz5_0:=AJ BK227.out 0
     have hfz5_1:=AJ BK227.out 1
     go_wp2
     go_meet
     case rel=>exact ⟨_,(decide (x3_1<43)),zH,H',⟨by have:=HK1.out; first|omega|exact Nat.le_refl _⟩,⟨by (with_reducible repeat (first|refine AF ?_ _|refine AH ?_|refine AG ?_ _)); exact BK227.out⟩,⟨by repeat (first|(with_reducible first|exact HB.out|apply AE|apply AC|apply AD|refine AI ?_ GE227.out)|exact HB.out)⟩⟩
    ·rw [if_neg c4] at H
     have c4b0:decide (x3_1<(l0_1.length:Int))=false:=decide_eq_false c4
     clear c4
     (first|rw [c4b0]|(simp only [Aa,Ab]; rw [c4b0])|skip)
     have H':=yA H
     clear H
     have hcz6_0:wr.cell? ⟨gb227,0,none⟩=some (.int .i64 A8):=(AK BK227.out 0).trans rfl
     have hcz6_1:wr.cell? ⟨gb227,1,none⟩=some (.slice A0_1 l0_1.length c0_1):=(AK BK227.out 1).trans rfl
     have hfz6_0:=AJ BK227.out 0
     have hfz6_1:=AJ BK227.out 1
     go_wp2
     go_meet
     case rel=>exact ⟨_,(false),zH,H',⟨by have:=HK1.out; first|omega|exact Nat.le_refl _⟩,⟨by (with_reducible repeat (first|refine AF ?_ _|refine AH ?_|refine AG ?_ _)); exact BK227.out⟩,⟨by repeat (first|(with_reducible first|exact HB.out|apply AE|apply AC|apply AD|refine AI ?_ GE227.out)|exact HB.out)⟩⟩
   case rest =>
    clear HC3
    try clear c1
    try clear p2
    try clear c4
    try clear c4b0
    try clear hcz5_0
    try clear hcz5_1
    try clear hcz6_0
    try clear hcz6_1
    try clear hfz5_0
    try clear hfz5_1
    try clear hfz6_0
    try clear hfz6_1
    try clear p2
    obtain ⟨kq,x12_2,rfl,HA,HJ2,BK227,HB⟩:=hcut
    cases kq with
    |zero=>exact absurd HA.out (by simp [B5.j1])
    | succ kj2=>
     have H:=HA.out
     clear HA
     simp only [B5.j1] at H
     by_cases c7:x12_2=true
     ·subst c7
      have H1:(if 0≤x3_1 then (if x3_1<(l0_1.length:Int) then (if (((AL l0_1 x3_1).f0).size:Int)>40 then (some false) else (if (((AL l0_1 x3_1).f3).length:Int)>42 then (some false) else (B5.l0 kj2 (wrap64 (x3_1+1)) A8 l0_1))) else (none)) else (none))=some r:=by rw [if_pos rfl] at H; exact H
      clear H
      have H:=H1
      clear H1
      by_cases c8:0≤x3_1
      ·rw [if_pos c8] at H
       have c8b0:decide (0≤x3_1)=true:=decide_eq_true c8
       clear c8
       by_cases c9:x3_1<(l0_1.length:Int)
       ·rw [if_pos c9] at H
        have c9b0:decide (x3_1<(l0_1.length:Int))=true:=decide_eq_true c9
        clear c9
        by_cases c10:(((AL l0_1 x3_1).f0).size:Int)>40
        ·rw [if_pos c10] at H
         have c10b0:decide (40<(((AL l0_1 x3_1).f0).size:Int))=true:=decide_eq_true c10
         have c10b1:decide (40<((AL l0_1 x3_1).f0).size)=true:=decide_eq_true zE
         clear c10
         obtain rfl:=Option.some.inj H
         have hcz11_0:wc.cell? ⟨gb227,0,none⟩=some (.int .i64 A8):=(AK BK227.out 0).trans rfl
         have hcz11_1:wc.cell? ⟨gb227,1,none⟩=some (.slice A0_1 l0_1.length c0_1):=(AK BK227.out 1).trans rfl
         have hfz11_0:=AJ BK227.out 0
         have hfz11_1:=AJ BK227.out 1
         have p228:0≤(x3_1:Int):=yD
         have q228:x3_1<(l0_1.length:Int):=yD
         obtain ⟨ad228,A228_3,c228_3,e228,hx228_0,hx228_1,hx228_2,hx228_3,hl228_3,hi228_3⟩:=BZ HR0_1.out x3_1 p228 q228
         cases e228
         replace hx228_0:=yC HB.out hx228_0
         replace hx228_1:=yC HB.out hx228_1
         replace hx228_2:=yC HB.out hx228_2
         replace hx228_3:=yC HB.out hx228_3
         have HR228_3:=yA hi228_3
         have HC228_3:=yA hl228_3
         clear hi228_3 hl228_3
         replace p228:=eq_true p228
         replace q228:=eq_true q228
         go_wp2
         go_ret
         exact ⟨by first|rfl|(simp [AY,AX]<;>rfl)|(simp [*,AY,AX]<;>rfl),by repeat (first|(with_reducible first|exact HB.out|apply AE|apply AC|apply AD|refine AI ?_ GE227.out)|exact HB.out)⟩
        ·rw [if_neg c10] at H
         have c10b0:decide (40<(((AL l0_1 x3_1).f0).size:Int))=false:=decide_eq_false c10
         have c10b1:decide (40<((AL l0_1 x3_1).f0).size)=false:=decide_eq_false zE
         clear c10
         by_cases c12:(((AL l0_1 x3_1).f3).length:Int)>42
         ·rw [if_pos c12] at H
          have c12b0:decide (42<(((AL l0_1 x3_1).f3).length:Int))=true:=decide_eq_true c12
          have c12b1:decide (42<((AL l0_1 x3_1).f3).length)=true:=decide_eq_true zE
          clear c12
          obtain rfl:=Option.some.inj H
          have hcz13_0:wc.cell? ⟨gb227,0,none⟩=some (.int .i64 A8):=(AK BK227.out 0).trans rfl
          have hcz13_1:wc.cell? ⟨gb227,1,none⟩=some (.slice A0_1 l0_1.length c0_1):=(AK BK227.out 1).trans rfl
          have hfz13_0:=AJ BK227.out 0
          have hfz13_1:=AJ BK227.out 1
          have p228:0≤(x3_1:Int):=yD
          have q228:x3_1<(l0_1.length:Int):=yD
          obtain ⟨ad228,A228_3,c228_3,e228,hx228_0,hx228_1,hx228_2,hx228_3,hl228_3,hi228_3⟩:=BZ HR0_1.out x3_1 p228 q228
          cases e228
          replace hx228_0:=yC HB.out hx228_0
          replace hx228_1:=yC HB.out hx228_1
          replace hx228_2:=yC HB.out hx228_2
          replace hx228_3:=yC HB.out hx228_3
          have HR228_3:=yA hi228_3
          have HC228_3:=yA hl228_3
          clear hi228_3 hl228_3
          replace p228:=eq_true p228
          replace q228:=eq_true q228
          have p229:0≤(x3_1:Int):=yD
          have q229:x3_1<(l0_1.length:Int):=yD
          obtain ⟨ad229,A229_3,c229_3,e229,hx229_0,hx229_1,hx229_2,hx229_3,hl229_3,hi229_3⟩:=BZ HR0_1.out x3_1 p229 q229
          obtain rfl:ad228=ad229:=(by injection e229)
          replace hx229_0:=yC HB.out hx229_0
          replace hx229_1:=yC HB.out hx229_1
          replace hx229_2:=yC HB.out hx229_2
          replace hx229_3:=yC HB.out hx229_3
          have HR229_3:=yA hi229_3
          have HC229_3:=yA hl229_3
          clear hi229_3 hl229_3
          replace p229:=eq_true p229
          replace q229:=eq_true q229
          have ea_:=Option.some.inj (hx228_3.symm.trans hx229_3)
          injection ea_ with ea_ en_ ec_
          subst ea_
          subst ec_
          clear en_
          go_wp2
          go_ret
          exact ⟨by first|rfl|(simp [AY,AX]<;>rfl)|(simp [*,AY,AX]<;>rfl),by repeat (first|(with_reducible first|exact HB.out|apply AE|apply AC|apply AD|refine AI ?_ GE227.out)|exact HB.out)⟩
         ·rw [if_neg c12] at H
          have c12b0:decide (42<(((AL l0_1 x3_1).f3).length:Int))=false:=decide_eq_false c12
          have c12b1:decide (42<((AL l0_1 x3_1).f3).length)=false:=decide_eq_false zE
          clear c12
          have H':=yA H
          clear H
          have hcz14_0:wc.cell? ⟨gb227,0,none⟩=some (.int .i64 A8):=(AK BK227.out 0).trans rfl
          have hcz14_1:wc.cell? ⟨gb227,1,none⟩=some (.slice A0_1 l0_1.length c0_1):=(AK BK227.out 1).trans rfl
          have hfz14_0:=AJ BK227.out 0
          have hfz14_1:=AJ BK227.out 1
          have p228:0≤(x3_1:Int):=yD
          have q228:x3_1<(l0_1.length:Int):=yD
          obtain ⟨ad228,A228_3,c228_3,e228,hx228_0,hx228_1,hx228_2,hx228_3,hl228_3,hi228_3⟩:=BZ HR0_1.out x3_1 p228 q228
          cases e228
          replace hx228_0:=yC HB.out hx228_0
          replace hx228_1:=yC HB.out hx228_1
          replace hx228_2:=yC HB.out hx228_2
          replace hx228_3:=yC HB.out hx228_3
          have HR228_3:=yA hi228_3
          have HC228_3:=yA hl228_3
          clear hi228_3 hl228_3
          replace p228:=eq_true p228
          replace q228:=eq_true q228
          have p229:0≤(x3_1:Int):=yD
          have q229:x3_1<(l0_1.length:Int):=yD
          obtain ⟨ad229,A229_3,c229_3,e229,hx229_0,hx229_1,hx229_2,hx229_3,hl229_3,hi229_3⟩:=BZ HR0_1.out x3_1 p229 q229
          obtain rfl:ad228=ad229:=(by injection e229)
          replace hx229_0:=yC HB.out hx229_0
          replace hx229_1:=yC HB.out hx229_1
          replace hx229_2:=yC HB.out hx229_2
          replace hx229_3:=yC HB.out hx229_3
          have HR229_3:=yA hi229_3
          have HC229_3:=yA hl229_3
          clear hi229_3 hl229_3
          replace p229:=eq_true p229
          replace q229:=eq_true q229
          have ea_:=Option.some.inj (hx228_3.symm.trans hx229_3)
          injection ea_ with ea_ en_ ec_
          subst ea_
          subst ec_
          clear en_
          go_wp2
          go_roundg kj2
          case measure=>have:=HK1.out; have:=HJ2.out; omega
          case rel=>exact ⟨(wrap64 (x3_1+1)),zH,H',⟨by have:=HK1.out; have:=HJ2.out; omega⟩,⟨by (with_reducible repeat (first|refine AF ?_ _|refine AH ?_|refine AG ?_ _)); exact BK227.out⟩,⟨by repeat (first|(with_reducible first|exact HB.out|apply AE|apply AC|apply AD|refine AI ?_ GE227.out)|exact HB.out)⟩⟩
       ·rw [if_neg c9] at H
        exact absurd H zA5
      ·rw [if_neg c8] at H
       exact absurd H zA5
     ·replace c7:=Bool.eq_false_iff.mpr c7
      subst c7
      have H1:(some (decide ((l0_1.length:Int)≤42)))=some r:=by rw [if_neg (show ¬(false=true) by decide)] at H; exact H
      clear H
      have H:=H1
      clear H1
      obtain rfl:=Option.some.inj H
      have hcz15_0:wc.cell? ⟨gb227,0,none⟩=some (.int .i64 A8):=(AK BK227.out 0).trans rfl
      have hcz15_1:wc.cell? ⟨gb227,1,none⟩=some (.slice A0_1 l0_1.length c0_1):=(AK BK227.out 1).trans rfl
      have hfz15_0:=AJ BK227.out 0
      have hfz15_1:=AJ BK227.out 1
      go_wp2
      go_ret
      exact ⟨by first|rfl|(simp [AY,AX]<;>rfl)|(simp [*,AY,AX]<;>rfl),by repeat (first|(with_reducible first|exact HB.out|apply AE|apply AC|apply AD|refine AI ?_ GE227.out)|exact HB.out)⟩
def Al.l0:Nat→List (S42)→Int→Int→Int→List (S64)→Option (Int×(List (S64)))
 |0,_,_,_,_,_=>none
 |k+1,x10,x11,x12,x233000,x233001=>if x12<x11 then (if 0≤x12 then (if x12<(x10.length:Int) then (if x233001.length<2513169434916 then (Al.l0 k x10 x11 (wrap64 (x12+1)) x233000 (x233001++[(⟨(AL x10 x12).f0,(AL x10 x12).f1,(AL x10 x12).f2,(AL x10 x12).f3⟩:S64)])) else (none)) else (none)) else (none)) else (some (x233000,x233001))
def Al.f (k:Nat) (A8:Int) (l0_1:List (S42)):Option (Int×(List (S64))):=Al.l0 k l0_1 (l0_1.length:Int) 0 A8 ([]:List (S64))
set_option maxHeartbeats 8000000 in
theorem Al.calls (k:Nat) (A8:Int) (P0_1_:Nat→Prop) (A0_1:Option Addr) (c0_1:Nat) (l0_1:List (S42)) (r1:Int) (r2:List (S64)) (w:World) (hs0_1:Kd.V k42 42 w w.heap.size (fun k_=>P0_1_ k_) (.slice A0_1 l0_1.length c0_1) l0_1) (h:Al.f k A8 l0_1=some (r1,r2)):
  Calls Try.prog 12 #[.agg #[.int .i64 A8,.slice A0_1 l0_1.length c0_1]] w fun e w'=>∃v1_:Value,e= .returned (.agg #[.int .i64 r1,v1_])∧Kd.N k64 64 w' w.heap.size (fun k_=>(P0_1_ k_∨w.heap.size≤k_)) v1_ r2∧Below w.heap.size w w':=by
 have hu24:=Try.underlying24
 have hu34:=Try.underlying34
 have hu42:=Try.underlying42
 have HO0_1:=yA (show Kd.V k42 42 w w.heap.size (fun k_=>(P0_1_ k_∨w.heap.size≤k_)) (.slice A0_1 l0_1.length c0_1) l0_1 from Kd.V_mono hs0_1 (fun k_ hk=> .inl hk))
 have HB:=yA (Below.refl w.heap.size w)
 have H:(Al.l0 k l0_1 (l0_1.length:Int) 0 A8 ([]:List (S64)))=some (r1,r2):=h
 clear h
 have H':=yA H
 clear H
 go_enter Try.func12,Try.ntmps12
 go_wp2_with (first|((with_reducible refine Aq (N:=1) rfl ?_); refine Av ?hg (N:=1) ?hd (cs:= #[.int .i64 A8,.slice A0_1 l0_1.length c0_1]) (t:=24) ?hr ?_; (case hd=>rfl); (case hg=>rfl); (case hr=>first|(go_simp; done)|(go_simp; rfl)); intro gb230 hg w2 hbox hb; have n0_:=yA (Kd.V_below (Kd.V_elderB (by (with_reducible repeat (first|apply Kd.V_alloc|apply Kd.V_drewN|apply Kd.V_drew)); exact HO0_1.out) gb230 (Nat.le_of_eq hg.symm)) hb); have n1_:=yA (AO zB hb); have n2_:=yA (hbox); have n3_:=yA ((by rw [hg]; exact (AQ zB):w.heap.size≤gb230)); have n4_:=yA ((by rw [hg]; exact (AQ zB):w.heap.size≤gb230)); clear HO0_1; clear HB; have HO0_1:=n0_; have HB:=n1_; have BK230:=n2_; have GW230:=n3_; have GE230:=n4_; clear n0_ n1_ n2_ n3_ n4_; clear hb hbox hg)|((with_reducible refine Aq (N:=2) rfl ?_); refine Av ?hg (N:=2) ?hd (cs:= #[.int .i64 0,.slice none 0 0]) (t:=34) ?hr ?_; (case hd=>rfl); (case hg=>rfl); (case hr=>first|(go_simp; done)|(go_simp; rfl)); intro gb231 hg w3 hbox hb; have n0_:=yA (Kd.V_below (Kd.V_elderB (by (with_reducible repeat (first|apply Kd.V_alloc|apply Kd.V_drewN|apply Kd.V_drew)); exact HO0_1.out) gb231 (Nat.le_of_eq hg.symm)) hb); have n1_:=yA (AP (g:=gb230) (o:= .cells #[.int .i64 A8,.slice A0_1 l0_1.length c0_1] 24 (0,0)) zB1 hb); have n2_:=yA (AO (by repeat (first|(with_reducible first|exact HB.out|apply AE|apply AC|apply AD|refine AI ?_ GE230.out)|exact HB.out)) hb); have n3_:=yA (hbox); have n4_:=yA ((by rw [hg]; exact (AQ (by repeat (first|(with_reducible first|exact HB.out|apply AE|apply AC|apply AD|refine AI ?_ GE230.out)|exact HB.out))):w.heap.size≤gb231)); have n5_:=yA ((by rw [hg]; exact (AQ (by repeat (first|(with_reducible first|exact HB.out|apply AE|apply AC|apply AD|refine AI ?_ GE230.out)|exact HB.out))):w.heap.size≤gb231)); have n6_:=yA ((by rw [hg]; exact Nat.ne_of_lt (B8 (g:=gb230) (o:= .cells #[.int .i64 A8,.slice A0_1 l0_1.length c0_1] 24 (0,0)) zB1):gb230≠gb231)); have n7_:=yA ((by rw [hg]; exact Nat.ne_of_gt (B8 (g:=gb230) (o:= .cells #[.int .i64 A8,.slice A0_1 l0_1.length c0_1] 24 (0,0)) zB1):gb231≠gb230)); clear HO0_1; clear BK230; clear HB; have HO0_1:=n0_; have BK230:=n1_; have HB:=n2_; have BK231:=n3_; have GW231:=n4_; have GE231:=n5_; have NB230_231:=n6_; have NB231_230:=n7_; clear n0_ n1_ n2_ n3_ n4_ n5_ n6_ n7_; clear hb hbox hg; have hnb4:=NB230_231.out; have hnc4:=NB231_230.out; have hcz5_0:w3.cell? ⟨gb230,0,none⟩=some (.int .i64 A8):=(AK BK230.out 0).trans rfl; have hcz5_1:w3.cell? ⟨gb230,1,none⟩=some (.slice A0_1 l0_1.length c0_1):=(AK BK230.out 1).trans rfl; have hfz5_0:=AJ BK230.out 0; have hfz5_1:=AJ BK230.out 1)|((with_reducible refine Aq (N:=3) rfl ?_); refine Av ?hg (N:=3) ?hd (cs:= #[.int .i64 0,.slice none 0 0]) (t:=34) ?hr ?_; (case hd=>rfl); (case hg=>rfl); (case hr=>first|(go_simp; done)|(go_simp; rfl)); intro gb232 hg w6 hbox hb; have n0_:=yA (Kd.V_below (Kd.V_elderB (by (with_reducible repeat (first|apply Kd.V_alloc|apply Kd.V_drewN|apply Kd.V_drew)); exact HO0_1.out) gb232 (Nat.le_of_eq hg.symm)) hb); have n1_:=yA (AP (g:=gb230) (o:= .cells #[.int .i64 A8,.slice A0_1 l0_1.length c0_1] 24 (0,0)) zB1 hb); have n2_:=yA (AP (g:=gb231) (o:= .cells #[.int .i64 0,.slice none 0 0] 34 (0,0)) zC2 hb); have n3_:=yA (AO (by repeat (first|(with_reducible first|exact HB.out|apply AE|apply AC|apply AD|refine AI ?_ GE230.out|refine AI ?_ GE231.out)|exact HB.out)) hb); have n4_:=yA (hbox); have n5_:=yA ((by rw [hg]; exact (AQ (by repeat (first|(with_reducible first|exact HB.out|apply AE|apply AC|apply AD|refine AI ?_ GE230.out|refine AI ?_ GE231.out)|exact HB.out))):w.heap.size≤gb232)); have n6_:=yA ((by rw [hg]; exact (AQ (by repeat (first|(with_reducible first|exact HB.out|apply AE|apply AC|apply AD|refine AI ?_ GE230.out|refine AI ?_ GE231.out)|exact HB.out))):w.heap.size≤gb232)); have n7_:=yA ((by rw [hg]; exact Nat.ne_of_lt (B8 (g:=gb230) (o:= .cells #[.int .i64 A8,.slice A0_1 l0_1.length c0_1] 24 (0,0)) zB1):gb230≠gb232)); have n8_:=yA ((by rw [hg]; exact Nat.ne_of_gt (B8 (g:=gb230) (o:= .cells #[.int .i64 A8,.slice A0_1 l0_1.length c0_1] 24 (0,0)) zB1):gb232≠gb230)); have n9_:=yA ((by rw [hg]; exact Nat.ne_of_lt (B8 (g:=gb231) (o:= .cells #[.int .i64 0,.slice none 0 0] 34 (0,0)) zC2):gb231≠gb232)); have n10_:=yA ((by rw [hg]; exact Nat.ne_of_gt (B8 (g:=gb231) (o:= .cells #[.int .i64 0,.slice none 0 0] 34 (0,0)) zC2):gb232≠gb231)); clear HO0_1; clear BK230; clear BK231; clear HB; have HO0_1:=n0_; have BK230:=n1_; have BK231:=n2_; have HB:=n3_; have BK232:=n4_; have GW232:=n5_; have GE232:=n6_; have NB230_232:=n7_; have NB232_230:=n8_; have NB231_232:=n9_; have NB232_231:=n10_; clear n0_ n1_ n2_ n3_ n4_ n5_ n6_ n7_ n8_ n9_ n10_; clear hb hbox hg; have hnb7:=NB232_230.out; have hnc7:=NB230_232.out; have hnb8:=NB232_231.out; have hnc8:=NB231_232.out; have hcz9_0:w6.cell? ⟨gb232,0,none⟩=some (.int .i64 0):=(AK BK232.out 0).trans rfl; have hcz9_1:w6.cell? ⟨gb232,1,none⟩=some (.slice none 0 0):=(AK BK232.out 1).trans rfl; have hfz9_0:=AJ BK232.out 0; have hfz9_1:=AJ BK232.out 1; have hcz10_0:w6.cell? ⟨gb230,0,none⟩=some (.int .i64 A8):=(AK BK230.out 0).trans rfl; have hcz10_1:w6.cell? ⟨gb230,1,none⟩=some (.slice A0_1 l0_1.length c0_1):=(AK BK230.out 1).trans rfl; have hfz10_0:=AJ BK230.out 0; have hfz10_1:=AJ BK230.out 1))
 go_loopg [12] k (fun kq v12 w'=>∃(x12_1:Int) (x233001_1:List (S64)) (u233001:Value),v12= .int .i64 x12_1∧Aside0 (Al.l0 kq l0_1 (l0_1.length:Int) x12_1 A8 x233001_1=some (r1,r2))∧Aside0 (kq≤k)∧Aside0 (Kd.V k42 42 w' w.heap.size (fun k_=>(P0_1_ k_∨w.heap.size≤k_)∧some k_≠(u233001:Value).ownBlock∧k_≠gb230∧k_≠gb231∧k_≠gb232) (.slice A0_1 l0_1.length c0_1) l0_1)∧Aside0 (Kd.V k42 42 w' w.heap.size (fun k_=>(P0_1_ k_∨w.heap.size≤k_)∧some k_≠(u233001:Value).ownBlock∧k_≠gb230∧k_≠gb231∧k_≠gb232) (.slice A0_1 l0_1.length c0_1) l0_1)∧Aside0 (Kd.N k64 64 w' w.heap.size (fun k_=>(P0_1_ k_∨w.heap.size≤k_)∧k_≠gb230∧k_≠gb231∧k_≠gb232) u233001 x233001_1)∧Aside0 (w'.heap[gb230]? =some (.cells #[.int .i64 A8,(.slice A0_1 l0_1.length c0_1)] 24 (0,0)))∧Aside0 (w'.heap[gb231]? =some (.cells #[.int .i64 0,(.slice none 0 0)] 34 (0,0)))∧Aside0 (w'.heap[gb232]? =some (.cells #[.int .i64 A8,u233001] 34 (0,0)))∧Aside0 (Below w.heap.size w w'))
 case atStart=>exact ⟨(0),(([]:List (S64))),(.slice none 0 0),zH,H',⟨Nat.le_refl _⟩,⟨by (with_reducible repeat (first|apply Kd.V_alloc|apply Kd.V_drewN|apply Kd.V_drew)); exact Kd.V_mono (Kd.V_far (p:=⟨gb232,1,none⟩) (Kd.V_far (p:=⟨gb232,0,none⟩) (Kd.V_mono HO0_1.out (fun k_ hk=>(⟨hk,hk.2⟩:_∧k_≠gb232))) (fun _ hk=>hk.2) (.int .i64 A8)) (fun _ hk=>hk.2) (.slice none 0 0)) (fun _ hk=>⟨hk.1.1.1.1,⟨(by simp [Value.ownBlock]),⟨hk.1.1.1.2,⟨hk.1.1.2,hk.1.2⟩⟩⟩⟩)⟩,⟨by (with_reducible repeat (first|apply Kd.V_alloc|apply Kd.V_drewN|apply Kd.V_drew)); exact Kd.V_mono (Kd.V_far (p:=⟨gb232,1,none⟩) (Kd.V_far (p:=⟨gb232,0,none⟩) (Kd.V_mono HO0_1.out (fun k_ hk=>(⟨hk,hk.2⟩:_∧k_≠gb232))) (fun _ hk=>hk.2) (.int .i64 A8)) (fun _ hk=>hk.2) (.slice none 0 0)) (fun _ hk=>⟨hk.1.1.1.1,⟨(by simp [Value.ownBlock]),⟨hk.1.1.1.2,⟨hk.1.1.2,hk.1.2⟩⟩⟩⟩)⟩,⟨by first|exact Kd.S_nil _ _ _ _ _|exact Kd.N_nil _ _ _ _ _|exact Kd.V_nil _ _ _ _ _|exact Kd.Q_nil _ _ _ _ _|exact Kd.R_nil _ _ _ _ _⟩,⟨by (with_reducible repeat (first|refine AF ?_ _|refine AH ?_|refine AG ?_ _)); refine AV ?_ NB230_232.out _; (with_reducible repeat (first|refine AF ?_ _|refine AH ?_|refine AG ?_ _)); refine AV ?_ NB230_232.out _; (with_reducible repeat (first|refine AF ?_ _|refine AH ?_|refine AG ?_ _)); exact BK230.out⟩,⟨by (with_reducible repeat (first|refine AF ?_ _|refine AH ?_|refine AG ?_ _)); refine AV ?_ NB231_232.out _; (with_reducible repeat (first|refine AF ?_ _|refine AH ?_|refine AG ?_ _)); refine AV ?_ NB231_232.out _; (with_reducible repeat (first|refine AF ?_ _|refine AH ?_|refine AG ?_ _)); exact BK231.out⟩,⟨by (with_reducible repeat (first|refine AF ?_ _|refine AH ?_|refine AG ?_ _)); refine An (cs:= #[.int .i64 A8,.slice none 0 0]) ?_ 1 _ rfl; (with_reducible repeat (first|refine AF ?_ _|refine AH ?_|refine AG ?_ _)); refine An (cs:= #[.int .i64 0,.slice none 0 0]) ?_ 0 _ rfl; (with_reducible repeat (first|refine AF ?_ _|refine AH ?_|refine AG ?_ _)); exact BK232.out⟩,⟨by repeat (first|(with_reducible first|exact HB.out|apply AE|apply AC|apply AD|refine AI ?_ GE230.out|refine AI ?_ GE231.out|refine AI ?_ GE232.out)|exact HB.out)⟩⟩
 case round=>
  clear H'
  try clear c1
  try clear p2
  try clear c4
  try clear c7
  try clear c8
  try clear hcz10_0
  try clear hcz10_1
  try clear hcz5_0
  try clear hcz5_1
  try clear hcz9_0
  try clear hcz9_1
  try clear hfz10_0
  try clear hfz10_1
  try clear hfz5_0
  try clear hfz5_1
  try clear hfz9_0
  try clear hfz9_1
  obtain ⟨x12_1,x233001_1,u233001,rfl,HA,HK1,HO_10,HO_231001,HO_233001,BK230,BK231,BK232,HB⟩:=hrel
  cases gk with
  |zero=>exact absurd HA.out (by simp [Al.l0])
  | succ k1 =>
   have H:=HA.out
   clear HA
   simp only [Al.l0] at H
   by_cases c11:x12_1<(l0_1.length:Int)
   ·rw [if_pos c11] at H
    have c11b0:decide (x12_1<(l0_1.length:Int))=true:=decide_eq_true c11
    clear c11
    by_cases c12:0≤x12_1
    ·rw [if_pos c12] at H
     have c12b0:decide (0≤x12_1)=true:=decide_eq_true c12
     clear c12
     by_cases c13:x12_1<(l0_1.length:Int)
     ·rw [if_pos c13] at H
      have c13b0:decide (x12_1<(l0_1.length:Int))=true:=decide_eq_true c13
      clear c13
      by_cases c14:x233001_1.length<2513169434916
      ·rw [if_pos c14] at H
       have LMc14:=yA c14
       clear c14
       obtain ⟨y235,hy235⟩:∃y_:List (S64),y_=(x233001_1++[(⟨(AL l0_1 x12_1).f0,(AL l0_1 x12_1).f1,(AL l0_1 x12_1).f2,(AL l0_1 x12_1).f3⟩:S64)]):=⟨_,rfl⟩
       replace H:(Al.l0 k1 l0_1 (l0_1.length:Int) (wrap64 (x12_1+1)) A8 y235)=some (r1,r2):=by first|(rw [hy235]; with_reducible exact H)|(have H2_:=(Option.bind_some _ _).symm.trans H; rw [hy235]; with_reducible exact H2_)|(have H2_:=(Option.bind_some _ _).symm.trans H; with_reducible exact H2_)|with_reducible exact H|(rw [hy235]; exact H)|exact H
       have Ny235:=yA hy235
       clear hy235
       have H':=yA H
       clear H
       have p233:0≤(x12_1:Int):=yD
       have q233:x12_1<(l0_1.length:Int):=yD
       obtain ⟨ad233,A233_3,c233_3,e233,hx233_0,hx233_1,hx233_2,hx233_3,hl233_3,hi233_3⟩:=BZ (Kd.V_reads' HO_10.out).2.2 x12_1 p233 q233
       cases e233
       obtain ⟨ce233,hce233,hMe233,hcc233⟩:=Kd.V_get HO_10.out z42 x12_1 p233 (by first|exact q233|exact yD|(have e_:=(Kd.V_reads' HO_10.out).1; omega))
       obtain ⟨ua233_3,uc233_3,rfl,ul233_3,ge233_3⟩:=GI hMe233
       have hv233_3:=hcc233 3 _ rfl
       rw [C0 _ _ 3 zE] at hv233_3
       replace hv233_3:=Option.some.inj (hv233_3.symm.trans hx233_3)
       injection hv233_3 with hva_ hvn_ hvc_
       rw [hva_] at ge233_3
       rw [hvc_] at ul233_3
       have HL233_3:=yA (show Kd.V (Kd.int .i64) 3 _ w.heap.size _ _ ((AL l0_1 x12_1).f3) from Kd.V_mk ul233_3 ge233_3)
       clear hva_ hvn_ hvc_ ge233_3 ul233_3
       clear hcc233 hce233
       have HR233_3:=yA hi233_3
       have HC233_3:=yA hl233_3
       clear hi233_3 hl233_3
       replace p233:=eq_true p233
       replace q233:=eq_true q233
       go_wp2_with (first|((with_reducible refine Aq (N:=5) rfl ?_); refine Av ?hg (N:=5) ?hd (cs:= #[.string (⟨#[]⟩:ByteArray),.int .i64 0,.int .i64 0,.slice none 0 0]) (t:=42) ?hr ?_; (case hd=>rfl); (case hg=>rfl); (case hr=>first|(go_simp; done)|(go_simp; rfl)); intro gb234 hg w15 hbox hb; have n0_:=yA (Kd.V_below (Kd.V_elderB (by (with_reducible repeat (first|apply Kd.V_alloc|apply Kd.V_drewN|apply Kd.V_drew)); exact HO_10.out) gb234 (Nat.le_of_eq hg.symm)) hb); have n1_:=yA (Kd.V_below (Kd.V_elderB (by (with_reducible repeat (first|apply Kd.V_alloc|apply Kd.V_drewN|apply Kd.V_drew)); exact HO_231001.out) gb234 (Nat.le_of_eq hg.symm)) hb); have n2_:=yA (Kd.N_below (Kd.N_elderB (by (with_reducible repeat (first|apply Kd.N_alloc|apply Kd.N_drewN|apply Kd.N_drew)); exact HO_233001.out) gb234 (Nat.le_of_eq hg.symm)) hb); have n3_:=yA (Kd.V_below (Kd.V_elderB (by (with_reducible repeat (first|apply Kd.V_alloc|apply Kd.V_drewN|apply Kd.V_drew)); exact HL233_3.out) gb234 (Nat.le_of_eq hg.symm)) hb); have n4_:=yA (AP (g:=gb230) (o:= .cells #[.int .i64 A8,.slice (some ad233) l0_1.length c0_1] 24 (0,0)) zB1 hb); have n5_:=yA (AP (g:=gb231) (o:= .cells #[.int .i64 0,.slice none 0 0] 34 (0,0)) zC2 hb); have n6_:=yA (AP (g:=gb232) (o:= .cells #[.int .i64 A8,u233001] 34 (0,0)) (by (with_reducible repeat (first|refine AF ?_ _|refine AH ?_|refine AG ?_ _)); exact BK232.out) hb); have n7_:=yA (Kd.C_below (by repeat (first|(with_reducible exact HR233_3.out)|(with_reducible refine Kd.C_alloc ?_ _)|(with_reducible refine Kd.C_drewN ?_ _)|(with_reducible refine Kd.C_drew ?_)|exact HR233_3.out)) hb); have n8_:=yA (AO (by repeat (first|(with_reducible first|exact HB.out|apply AE|apply AC|apply AD|refine AI ?_ GE230.out|refine AI ?_ GE231.out|refine AI ?_ GE232.out)|exact HB.out)) hb); have n9_:=yA (hbox); have n10_:=yA ((by rw [hg]; exact (AQ (by repeat (first|(with_reducible first|exact HB.out|apply AE|apply AC|apply AD|refine AI ?_ GE230.out|refine AI ?_ GE231.out|refine AI ?_ GE232.out)|exact HB.out))):w.heap.size≤gb234)); have n11_:=yA ((by rw [hg]; exact (AQ (by repeat (first|(with_reducible first|exact HB.out|apply AE|apply AC|apply AD|refine AI ?_ GE230.out|refine AI ?_ GE231.out|refine AI ?_ GE232.out)|exact HB.out))):w.heap.size≤gb234)); have n12_:=yA ((by rw [hg]; exact Nat.ne_of_lt (B8 (g:=gb230) (o:= .cells #[.int .i64 A8,.slice (some ad233) l0_1.length c0_1] 24 (0,0)) zB1):gb230≠gb234)); have n13_:=yA ((by rw [hg]; exact Nat.ne_of_gt (B8 (g:=gb230) (o:= .cells #[.int .i64 A8,.slice (some ad233) l0_1.length c0_1] 24 (0,0)) zB1):gb234≠gb230)); have n14_:=yA ((by rw [hg]; exact Nat.ne_of_lt (B8 (g:=gb231) (o:= .cells #[.int .i64 0,.slice none 0 0] 34 (0,0)) zC2):gb231≠gb234)); have n15_:=yA ((by rw [hg]; exact Nat.ne_of_gt (B8 (g:=gb231) (o:= .cells #[.int .i64 0,.slice none 0 0] 34 (0,0)) zC2):gb234≠gb231)); have n16_:=yA ((by rw [hg]; exact Nat.ne_of_lt (B8 (g:=gb232) (o:= .cells #[.int .i64 A8,u233001] 34 (0,0)) (by (with_reducible repeat (first|refine AF ?_ _|refine AH ?_|refine AG ?_ _)); exact BK232.out)):gb232≠gb234)); have n17_:=yA ((by rw [hg]; exact Nat.ne_of_gt (B8 (g:=gb232) (o:= .cells #[.int .i64 A8,u233001] 34 (0,0)) (by (with_reducible repeat (first|refine AF ?_ _|refine AH ?_|refine AG ?_ _)); exact BK232.out)):gb234≠gb232)); clear HO_10; clear HO_231001; clear HO_233001; clear HL233_3; clear BK230; clear BK231; clear BK232; clear HR233_3; clear HB; have HO_10:=n0_; have HO_231001:=n1_; have HO_233001:=n2_; have HL233_3:=n3_; have BK230:=n4_; have BK231:=n5_; have BK232:=n6_; have HR233_3:=n7_; have HB:=n8_; have BK234:=n9_; have GW234:=n10_; have GE234:=n11_; have NB230_234:=n12_; have NB234_230:=n13_; have NB231_234:=n14_; have NB234_231:=n15_; have NB232_234:=n16_; have NB234_232:=n17_; clear n0_ n1_ n2_ n3_ n4_ n5_ n6_ n7_ n8_ n9_ n10_ n11_ n12_ n13_ n14_ n15_ n16_ n17_; clear hb hbox hg; have hnb16:=NB234_230.out; have hnc16:=NB230_234.out; have hnb17:=NB234_231.out; have hnc17:=NB231_234.out; have hnb18:=NB234_232.out; have hnc18:=NB232_234.out; have hcz19_0:w15.cell? ⟨gb234,0,none⟩=some (.string (⟨#[]⟩:ByteArray)):=(AK BK234.out 0).trans rfl; have hcz19_1:w15.cell? ⟨gb234,1,none⟩=some (.int .i64 0):=(AK BK234.out 1).trans rfl; have hcz19_2:w15.cell? ⟨gb234,2,none⟩=some (.int .i64 0):=(AK BK234.out 2).trans rfl; have hcz19_3:w15.cell? ⟨gb234,3,none⟩=some (.slice none 0 0):=(AK BK234.out 3).trans rfl; have hfz19_0:=AJ BK234.out 0; have hfz19_1:=AJ BK234.out 1; have hfz19_2:=AJ BK234.out 2; have hfz19_3:=AJ BK234.out 3)|((with_reducible refine BS (t:=42) (p:=5) rfl ?_); refine BP (t:=42) (p:=5) (v:= ?vo_w20) (w1:=((((w15.setCell ⟨gb234,0,none⟩ (.string ((AL l0_1 x12_1).f0))).setCell ⟨gb234,1,none⟩ (.int .i64 ((AL l0_1 x12_1).f1))).setCell ⟨gb234,2,none⟩ (.int .i64 ((AL l0_1 x12_1).f2))).setCell ⟨gb234,3,none⟩ (.slice A233_3 ((AL l0_1 x12_1).f3).length c233_3))) ?hg ?ho ?hn ?hr ?_; (case ho=>rfl); (case hg=>rfl); (case hn=>rfl); (case hr=>first|(go_simp; done)|(go_simp; rfl)); intro w20 hw; have n0_:Aside0 (Kd.V k42 42 w20 w.heap.size (fun k_=>(P0_1_ k_∨w.heap.size≤k_)∧some k_≠(u233001:Value).ownBlock∧k_≠gb230∧k_≠gb231∧k_≠gb232∧k_≠gb234) (.slice (some ad233) l0_1.length c0_1) l0_1):=⟨(by rw [hw]; exact (by (with_reducible repeat (first|apply Kd.V_alloc|apply Kd.V_drewN|apply Kd.V_drew)); exact Kd.V_mono (Kd.V_far (p:=⟨gb234,3,none⟩) (Kd.V_far (p:=⟨gb234,2,none⟩) (Kd.V_far (p:=⟨gb234,1,none⟩) (Kd.V_far (p:=⟨gb234,0,none⟩) (Kd.V_mono HO_10.out (fun k_ hk=>(⟨hk,hk.2⟩:_∧k_≠gb234))) (fun _ hk=>hk.2) (.string ((AL l0_1 x12_1).f0))) (fun _ hk=>hk.2) (.int .i64 ((AL l0_1 x12_1).f1))) (fun _ hk=>hk.2) (.int .i64 ((AL l0_1 x12_1).f2))) (fun _ hk=>hk.2) (.slice A233_3 ((AL l0_1 x12_1).f3).length c233_3)) (fun _ hk=>⟨hk.1.1.1,⟨hk.1.1.2.1,⟨hk.1.1.2.2.1,⟨hk.1.1.2.2.2.1,⟨hk.1.1.2.2.2.2,hk.1.2⟩⟩⟩⟩⟩)))⟩; have n1_:Aside0 (Kd.V k42 42 w20 w.heap.size (fun k_=>(P0_1_ k_∨w.heap.size≤k_)∧some k_≠(u233001:Value).ownBlock∧k_≠gb230∧k_≠gb231∧k_≠gb232∧k_≠gb234) (.slice (some ad233) l0_1.length c0_1) l0_1):=⟨(by rw [hw]; exact (by (with_reducible repeat (first|apply Kd.V_alloc|apply Kd.V_drewN|apply Kd.V_drew)); exact Kd.V_mono (Kd.V_far (p:=⟨gb234,3,none⟩) (Kd.V_far (p:=⟨gb234,2,none⟩) (Kd.V_far (p:=⟨gb234,1,none⟩) (Kd.V_far (p:=⟨gb234,0,none⟩) (Kd.V_mono HO_231001.out (fun k_ hk=>(⟨hk,hk.2⟩:_∧k_≠gb234))) (fun _ hk=>hk.2) (.string ((AL l0_1 x12_1).f0))) (fun _ hk=>hk.2) (.int .i64 ((AL l0_1 x12_1).f1))) (fun _ hk=>hk.2) (.int .i64 ((AL l0_1 x12_1).f2))) (fun _ hk=>hk.2) (.slice A233_3 ((AL l0_1 x12_1).f3).length c233_3)) (fun _ hk=>⟨hk.1.1.1,⟨hk.1.1.2.1,⟨hk.1.1.2.2.1,⟨hk.1.1.2.2.2.1,⟨hk.1.1.2.2.2.2,hk.1.2⟩⟩⟩⟩⟩)))⟩; have n2_:Aside0 (Kd.N k64 64 w20 w.heap.size (fun k_=>(P0_1_ k_∨w.heap.size≤k_)∧k_≠gb230∧k_≠gb231∧k_≠gb232∧k_≠gb234) u233001 x233001_1):=⟨(by rw [hw]; exact (by (with_reducible repeat (first|apply Kd.N_alloc|apply Kd.N_drewN|apply Kd.N_drew)); exact Kd.N_mono (Kd.N_far (p:=⟨gb234,3,none⟩) (Kd.N_far (p:=⟨gb234,2,none⟩) (Kd.N_far (p:=⟨gb234,1,none⟩) (Kd.N_far (p:=⟨gb234,0,none⟩) (Kd.N_mono HO_233001.out (fun k_ hk=>(⟨hk,hk.2⟩:_∧k_≠gb234))) (fun _ hk=>hk.2) (.string ((AL l0_1 x12_1).f0))) (fun _ hk=>hk.2) (.int .i64 ((AL l0_1 x12_1).f1))) (fun _ hk=>hk.2) (.int .i64 ((AL l0_1 x12_1).f2))) (fun _ hk=>hk.2) (.slice A233_3 ((AL l0_1 x12_1).f3).length c233_3)) (fun _ hk=>⟨hk.1.1.1,⟨hk.1.1.2.1,⟨hk.1.1.2.2.1,⟨hk.1.1.2.2.2,hk.1.2⟩⟩⟩⟩)))⟩; have n3_:Aside0 (Kd.V (Kd.int .i64) 3 w20 w.heap.size (fun k_=>(P0_1_ k_∨w.heap.size≤k_)∧some k_≠(u233001:Value).ownBlock∧k_≠gb230∧k_≠gb231∧k_≠gb232∧k_≠gb234) (.slice A233_3 ((AL l0_1 x12_1).f3).length c233_3) ((AL l0_1 x12_1).f3)):=⟨(by rw [hw]; exact (by (with_reducible repeat (first|apply Kd.V_alloc|apply Kd.V_drewN|apply Kd.V_drew)); exact Kd.V_mono (Kd.V_far (p:=⟨gb234,3,none⟩) (Kd.V_far (p:=⟨gb234,2,none⟩) (Kd.V_far (p:=⟨gb234,1,none⟩) (Kd.V_far (p:=⟨gb234,0,none⟩) (Kd.V_mono HL233_3.out (fun k_ hk=>(⟨hk,hk.2⟩:_∧k_≠gb234))) (fun _ hk=>hk.2) (.string ((AL l0_1 x12_1).f0))) (fun _ hk=>hk.2) (.int .i64 ((AL l0_1 x12_1).f1))) (fun _ hk=>hk.2) (.int .i64 ((AL l0_1 x12_1).f2))) (fun _ hk=>hk.2) (.slice A233_3 ((AL l0_1 x12_1).f3).length c233_3)) (fun _ hk=>⟨hk.1.1.1,⟨hk.1.1.2.1,⟨hk.1.1.2.2.1,⟨hk.1.1.2.2.2.1,⟨hk.1.1.2.2.2.2,hk.1.2⟩⟩⟩⟩⟩)))⟩; have n4_:Aside0 (w20.heap[gb230]? =some (.cells #[.int .i64 A8,.slice (some ad233) l0_1.length c0_1] 24 (0,0))):=⟨(by rw [hw]; exact (by (with_reducible repeat (first|refine AF ?_ _|refine AH ?_|refine AG ?_ _)); refine AV ?_ NB230_234.out _; (with_reducible repeat (first|refine AF ?_ _|refine AH ?_|refine AG ?_ _)); refine AV ?_ NB230_234.out _; (with_reducible repeat (first|refine AF ?_ _|refine AH ?_|refine AG ?_ _)); refine AV ?_ NB230_234.out _; (with_reducible repeat (first|refine AF ?_ _|refine AH ?_|refine AG ?_ _)); refine AV ?_ NB230_234.out _; (with_reducible repeat (first|refine AF ?_ _|refine AH ?_|refine AG ?_ _)); exact BK230.out))⟩; have n5_:Aside0 (w20.heap[gb231]? =some (.cells #[.int .i64 0,.slice none 0 0] 34 (0,0))):=⟨(by rw [hw]; exact (by (with_reducible repeat (first|refine AF ?_ _|refine AH ?_|refine AG ?_ _)); refine AV ?_ NB231_234.out _; (with_reducible repeat (first|refine AF ?_ _|refine AH ?_|refine AG ?_ _)); refine AV ?_ NB231_234.out _; (with_reducible repeat (first|refine AF ?_ _|refine AH ?_|refine AG ?_ _)); refine AV ?_ NB231_234.out _; (with_reducible repeat (first|refine AF ?_ _|refine AH ?_|refine AG ?_ _)); refine AV ?_ NB231_234.out _; (with_reducible repeat (first|refine AF ?_ _|refine AH ?_|refine AG ?_ _)); exact BK231.out))⟩; have n6_:Aside0 (w20.heap[gb232]? =some (.cells #[.int .i64 A8,u233001] 34 (0,0))):=⟨(by rw [hw]; exact (by (with_reducible repeat (first|refine AF ?_ _|refine AH ?_|refine AG ?_ _)); refine AV ?_ NB232_234.out _; (with_reducible repeat (first|refine AF ?_ _|refine AH ?_|refine AG ?_ _)); refine AV ?_ NB232_234.out _; (with_reducible repeat (first|refine AF ?_ _|refine AH ?_|refine AG ?_ _)); refine AV ?_ NB232_234.out _; (with_reducible repeat (first|refine AF ?_ _|refine AH ?_|refine AG ?_ _)); refine AV ?_ NB232_234.out _; (with_reducible repeat (first|refine AF ?_ _|refine AH ?_|refine AG ?_ _)); exact BK232.out))⟩; have n7_:Aside0 (w20.heap[gb234]? =some (.cells #[.string ((AL l0_1 x12_1).f0),.int .i64 ((AL l0_1 x12_1).f1),.int .i64 ((AL l0_1 x12_1).f2),.slice A233_3 ((AL l0_1 x12_1).f3).length c233_3] 42 (0,0))):=⟨(by rw [hw]; exact (by (with_reducible repeat (first|refine AF ?_ _|refine AH ?_|refine AG ?_ _)); refine An (cs:= #[.string ((AL l0_1 x12_1).f0),.int .i64 ((AL l0_1 x12_1).f1),.int .i64 ((AL l0_1 x12_1).f2),.slice none 0 0]) ?_ 3 _ rfl; (with_reducible repeat (first|refine AF ?_ _|refine AH ?_|refine AG ?_ _)); refine An (cs:= #[.string ((AL l0_1 x12_1).f0),.int .i64 ((AL l0_1 x12_1).f1),.int .i64 0,.slice none 0 0]) ?_ 2 _ rfl; (with_reducible repeat (first|refine AF ?_ _|refine AH ?_|refine AG ?_ _)); refine An (cs:= #[.string ((AL l0_1 x12_1).f0),.int .i64 0,.int .i64 0,.slice none 0 0]) ?_ 1 _ rfl; (with_reducible repeat (first|refine AF ?_ _|refine AH ?_|refine AG ?_ _)); refine An (cs:= #[.string (⟨#[]⟩:ByteArray),.int .i64 0,.int .i64 0,.slice none 0 0]) ?_ 0 _ rfl; (with_reducible repeat (first|refine AF ?_ _|refine AH ?_|refine AG ?_ _)); exact BK234.out))⟩; have n8_:Aside0 (Below w.heap.size w w20):=⟨(by rw [hw]; exact zC7)⟩; clear hw; clear HO_10; clear HO_231001; clear HO_233001; clear HL233_3; clear BK230; clear BK231; clear BK232; clear BK234; clear HB; have HO_10:=n0_; have HO_231001:=n1_; have HO_233001:=n2_; have HL233_3:=n3_; have BK230:=n4_; have BK231:=n5_; have BK232:=n6_; have BK234:=n7_; have HB:=n8_; clear n0_ n1_ n2_ n3_ n4_ n5_ n6_ n7_ n8_; have hnb21:=NB232_230.out; have hnc21:=NB230_232.out; have hnb22:=NB232_231.out; have hnc22:=NB231_232.out; have hcz23_0:w20.cell? ⟨gb232,0,none⟩=some (.int .i64 A8):=(AK BK232.out 0).trans rfl; have hcz23_1:w20.cell? ⟨gb232,1,none⟩=some (u233001):=(AK BK232.out 1).trans rfl; have hfz23_0:=AJ BK232.out 0; have hfz23_1:=AJ BK232.out 1; have hcz24_0:w20.cell? ⟨gb234,0,none⟩=some (.string ((AL l0_1 x12_1).f0)):=(AK BK234.out 0).trans rfl; have hcz24_1:w20.cell? ⟨gb234,1,none⟩=some (.int .i64 ((AL l0_1 x12_1).f1)):=(AK BK234.out 1).trans rfl; have hcz24_2:w20.cell? ⟨gb234,2,none⟩=some (.int .i64 ((AL l0_1 x12_1).f2)):=(AK BK234.out 2).trans rfl; have hcz24_3:w20.cell? ⟨gb234,3,none⟩=some (.slice A233_3 ((AL l0_1 x12_1).f3).length c233_3):=(AK BK234.out 3).trans rfl; have hfz24_0:=AJ BK234.out 0; have hfz24_1:=AJ BK234.out 1; have hfz24_2:=AJ BK234.out 2; have hfz24_3:=AJ BK234.out 3)|((with_reducible refine CB (b:= .append) (xs:= #[.tmp 17,.tmp 19]) rfl ?_); at_builtin; refine Kd.N_append k64 (w0:=w) w.heap.size rfl (.tmp 17) (.tmp 19) 32 64 (.agg #[(.string ⟨#[]⟩),(.int .i64 0),(.int .i64 0),(.slice none 0 0)]) 56 rfl Try.underlying32 info64 rfl zA0 zE u233001 x233001_1 (⟨(AL l0_1 x12_1).f0,(AL l0_1 x12_1).f1,(AL l0_1 x12_1).f2,(AL l0_1 x12_1).f3⟩:S64) [.string ((AL l0_1 x12_1).f0),.int .i64 ((AL l0_1 x12_1).f1),.int .i64 ((AL l0_1 x12_1).f2),.slice A233_3 ((AL l0_1 x12_1).f3).length c233_3] (fun k_=>(P0_1_ k_∨w.heap.size≤k_)∧k_≠gb230∧k_≠gb231∧k_≠gb232∧k_≠gb234) (fun k_=>((fun k_=>(P0_1_ k_∨w.heap.size≤k_)∧k_≠gb230∧k_≠gb231∧k_≠gb232∧k_≠gb234)) k_∧some k_≠(u233001:Value).ownBlock) rfl rfl ?aP (fun _ hk=>hk) ?aF ?aO ?aB ?aS ?aL ?_; (case aP=>exact (k64_mkF _ _ (⟨(AL l0_1 x12_1).f0,(AL l0_1 x12_1).f1,(AL l0_1 x12_1).f2,(AL l0_1 x12_1).f3⟩:S64) (Kd.V_reads' (Kd.V_mono (ok':=(fun k_=>((fun k_=>(P0_1_ k_∨w.heap.size≤k_)∧k_≠gb230∧k_≠gb231∧k_≠gb232∧k_≠gb234)) k_∧some k_≠(u233001:Value).ownBlock)) (HL233_3.out) (fun k_ hk=>⟨⟨hk.1,⟨hk.2.2.1,⟨hk.2.2.2.1,⟨hk.2.2.2.2.1,hk.2.2.2.2.2⟩⟩⟩⟩,hk.2.1⟩))).2.1 (Kd.V_F (Kd.V_mono (ok':=(fun k_=>((fun k_=>(P0_1_ k_∨w.heap.size≤k_)∧k_≠gb230∧k_≠gb231∧k_≠gb232∧k_≠gb234)) k_∧some k_≠(u233001:Value).ownBlock)) (HL233_3.out) (fun k_ hk=>⟨⟨hk.1,⟨hk.2.2.1,⟨hk.2.2.2.1,⟨hk.2.2.2.2.1,hk.2.2.2.2.2⟩⟩⟩⟩,hk.2.1⟩))))); (case aB=>exact zC7); (case aF=>exact (fun k_ hk=>⟨(.inr (Nat.le_trans (AQ zC7) hk)),Kd.freshB (g:=gb230) (o:= .cells #[.int .i64 A8,.slice (some ad233) l0_1.length c0_1] 24 (0,0)) zB1 k_ hk,Kd.freshB (g:=gb231) (o:= .cells #[.int .i64 0,.slice none 0 0] 34 (0,0)) zC2 k_ hk,Kd.freshB (g:=gb232) (o:= .cells #[.int .i64 A8,u233001] 34 (0,0)) (by (with_reducible repeat (first|refine AF ?_ _|refine AH ?_|refine AG ?_ _)); exact BK232.out) k_ hk,Kd.freshB (g:=gb234) (o:= .cells #[.string ((AL l0_1 x12_1).f0),.int .i64 ((AL l0_1 x12_1).f1),.int .i64 ((AL l0_1 x12_1).f2),.slice A233_3 ((AL l0_1 x12_1).f3).length c233_3] 42 (0,0)) (by (with_reducible repeat (first|refine AF ?_ _|refine AH ?_|refine AG ?_ _)); exact BK234.out) k_ hk⟩)); (case aO=>exact (by (with_reducible repeat (first|apply Kd.N_alloc|apply Kd.N_drewN|apply Kd.N_drew)); exact HO_233001.out)); (case aS=>exact (AQ zC7)); (case aL=>have:=LMc14.out; omega); intro v236 w25 ho hb hg hat; rw [←Ny235.out] at ho; have n0_:=yA (Kd.V_afterv (ok:=(fun k_=>(P0_1_ k_∨w.heap.size≤k_)∧k_≠gb230∧k_≠gb231∧k_≠gb232∧k_≠gb234)) (by (with_reducible repeat (first|apply Kd.V_alloc|apply Kd.V_drewN|apply Kd.V_drew)); exact Kd.V_mono HO_10.out (fun _ hk=>⟨⟨hk.1,⟨hk.2.2.1,⟨hk.2.2.2.1,⟨hk.2.2.2.2.1,hk.2.2.2.2.2⟩⟩⟩⟩,hk.2.1⟩)) hg hat); have n1_:=yA (Kd.V_afterv (ok:=(fun k_=>(P0_1_ k_∨w.heap.size≤k_)∧k_≠gb230∧k_≠gb231∧k_≠gb232∧k_≠gb234)) (by (with_reducible repeat (first|apply Kd.V_alloc|apply Kd.V_drewN|apply Kd.V_drew)); exact Kd.V_mono HO_231001.out (fun _ hk=>⟨⟨hk.1,⟨hk.2.2.1,⟨hk.2.2.2.1,⟨hk.2.2.2.2.1,hk.2.2.2.2.2⟩⟩⟩⟩,hk.2.1⟩)) hg hat); have n2_:=yA (BJ (g:=gb230) (o:= .cells #[.int .i64 A8,.slice (some ad233) l0_1.length c0_1] 24 (0,0)) zB1 hg (Kd.N_ne HO_233001.out BK230.out zA0)); have n3_:=yA (BJ (g:=gb231) (o:= .cells #[.int .i64 0,.slice none 0 0] 34 (0,0)) zC2 hg (Kd.N_ne HO_233001.out BK231.out zA0)); have n4_:=yA (BJ (g:=gb232) (o:= .cells #[.int .i64 A8,u233001] 34 (0,0)) (by (with_reducible repeat (first|refine AF ?_ _|refine AH ?_|refine AG ?_ _)); exact BK232.out) hg (Kd.N_ne HO_233001.out BK232.out zA0)); have n5_:=yA (Kd.V_afterv (ok:=(fun k_=>(P0_1_ k_∨w.heap.size≤k_)∧k_≠gb230∧k_≠gb231∧k_≠gb232∧k_≠gb234)) (by (with_reducible repeat (first|apply Kd.V_alloc|apply Kd.V_drewN|apply Kd.V_drew)); exact Kd.V_mono HL233_3.out (fun _ hk=>⟨⟨hk.1,⟨hk.2.2.1,⟨hk.2.2.2.1,⟨hk.2.2.2.2.1,hk.2.2.2.2.2⟩⟩⟩⟩,hk.2.1⟩)) hg hat); have n6_:=yA (BJ (g:=gb234) (o:= .cells #[.string ((AL l0_1 x12_1).f0),.int .i64 ((AL l0_1 x12_1).f1),.int .i64 ((AL l0_1 x12_1).f2),.slice A233_3 ((AL l0_1 x12_1).f3).length c233_3] 42 (0,0)) (by (with_reducible repeat (first|refine AF ?_ _|refine AH ?_|refine AG ?_ _)); exact BK234.out) hg (Kd.N_ne HO_233001.out BK234.out zA0)); have n7_:=yA (hb); have n8_:=yA (ho); clear HO_10; clear HO_231001; clear BK230; clear BK231; clear BK232; clear HL233_3; clear BK234; clear HB; clear HO_233001; have HO_10:=n0_; have HO_231001:=n1_; have BK230:=n2_; have BK231:=n3_; have BK232:=n4_; have HL233_3:=n5_; have BK234:=n6_; have HB:=n7_; have HO237:=n8_; clear n0_ n1_ n2_ n3_ n4_ n5_ n6_ n7_ n8_; clear ho hb hg hat; obtain ⟨Ao26,co26,eo26⟩:=Kd.N_slice HO237.out; subst eo26; have hcz27_0:w25.cell? ⟨gb232,0,none⟩=some (.int .i64 A8):=(AK BK232.out 0).trans rfl; have hcz27_1:w25.cell? ⟨gb232,1,none⟩=some (u233001):=(AK BK232.out 1).trans rfl; have hfz27_0:=AJ BK232.out 0; have hfz27_1:=AJ BK232.out 1))
       go_roundg k1
       case measure=>have:=HK1.out; omega
       case rel=>exact ⟨(wrap64 (x12_1+1)),(y235),(.slice Ao26 y235.length co26),zH,H',⟨by have:=HK1.out; omega⟩,⟨by (with_reducible repeat (first|apply Kd.V_alloc|apply Kd.V_drewN|apply Kd.V_drew)); exact Kd.V_mono (Kd.V_far (p:=⟨gb232,1,none⟩) (Kd.V_mono HO_10.out (fun k_ hk=>(⟨hk,hk.1.2.2.2.1⟩:_∧k_≠gb232))) (fun _ hk=>hk.2) (.slice Ao26 y235.length co26)) (fun _ hk=>⟨hk.1.1.1,⟨hk.1.2,⟨hk.1.1.2.1,⟨hk.1.1.2.2.1,hk.1.1.2.2.2.1⟩⟩⟩⟩)⟩,⟨by (with_reducible repeat (first|apply Kd.V_alloc|apply Kd.V_drewN|apply Kd.V_drew)); exact Kd.V_mono (Kd.V_far (p:=⟨gb232,1,none⟩) (Kd.V_mono HO_231001.out (fun k_ hk=>(⟨hk,hk.1.2.2.2.1⟩:_∧k_≠gb232))) (fun _ hk=>hk.2) (.slice Ao26 y235.length co26)) (fun _ hk=>⟨hk.1.1.1,⟨hk.1.2,⟨hk.1.1.2.1,⟨hk.1.1.2.2.1,hk.1.1.2.2.2.1⟩⟩⟩⟩)⟩,⟨by (with_reducible repeat (first|apply Kd.N_alloc|apply Kd.N_drewN|apply Kd.N_drew)); exact Kd.N_mono (Kd.N_far (p:=⟨gb232,1,none⟩) (Kd.N_mono HO237.out (fun k_ hk=>(⟨hk,hk.2.2.2.1⟩:_∧k_≠gb232))) (fun _ hk=>hk.2) (.slice Ao26 y235.length co26)) (fun _ hk=>⟨hk.1.1,⟨hk.1.2.1,⟨hk.1.2.2.1,hk.1.2.2.2.1⟩⟩⟩)⟩,⟨by (with_reducible repeat (first|refine AF ?_ _|refine AH ?_|refine AG ?_ _)); refine AV ?_ NB230_232.out _; (with_reducible repeat (first|refine AF ?_ _|refine AH ?_|refine AG ?_ _)); exact BK230.out⟩,⟨by (with_reducible repeat (first|refine AF ?_ _|refine AH ?_|refine AG ?_ _)); refine AV ?_ NB231_232.out _; (with_reducible repeat (first|refine AF ?_ _|refine AH ?_|refine AG ?_ _)); exact BK231.out⟩,⟨by (with_reducible repeat (first|refine AF ?_ _|refine AH ?_|refine AG ?_ _)); refine An (cs:= #[.int .i64 A8,u233001]) ?_ 1 _ rfl; (with_reducible repeat (first|refine AF ?_ _|refine AH ?_|refine AG ?_ _)); exact BK232.out⟩,⟨by repeat (first|(with_reducible first|exact HB.out|apply AE|apply AC|apply AD|refine AI ?_ GE230.out|refine AI ?_ GE231.out|refine AI ?_ GE232.out|refine AI ?_ GE234.out)|exact HB.out)⟩⟩
      ·rw [if_neg c14] at H
       exact absurd H zA5
     ·rw [if_neg c13] at H
      exact absurd H zA5
    ·rw [if_neg c12] at H
     exact absurd H zA5
   ·rw [if_neg c11] at H
    have c11b0:decide (x12_1<(l0_1.length:Int))=false:=decide_eq_false c11
    clear c11
    simp only [Option.some.injEq,Prod.mk.injEq] at H
    obtain ⟨rfl,rfl⟩:=H
    have hnb28:=NB232_230.out
    have hnc28:=NB230_232.out
    have hnb29:=NB232_231.out
    have hnc29:=NB231_232.out
    have hcz30_0:wr.cell? ⟨gb232,0,none⟩=some (.int .i64 A8):=(AK BK232.out 0).trans rfl
    have hcz30_1:wr.cell? ⟨gb232,1,none⟩=some (u233001):=(AK BK232.out 1).trans rfl
    have hfz30_0:=AJ BK232.out 0
    have hfz30_1:=AJ BK232.out 1
    have hnb31:=NB231_230.out
    have hnc31:=NB230_231.out
    have hcz32_0:wr.cell? ⟨gb231,0,none⟩=some (.int .i64 0):=(AK BK231.out 0).trans rfl
    have hcz32_1:wr.cell? ⟨gb231,1,none⟩=some (.slice none 0 0):=(AK BK231.out 1).trans rfl
    have hfz32_0:=AJ BK231.out 0
    have hfz32_1:=AJ BK231.out 1
    obtain ⟨Ao33,co33,eo33⟩:=Kd.N_slice HO_233001.out
    subst eo33
    go_wp2
    refine bodyPost_ret (results_cell_row rfl _ _ gb231 34 #[.int .i64 A8,.slice Ao33 x233001_1.length co33] (0,0) _ rfl (by (with_reducible repeat (first|refine AF ?_ _|refine AH ?_|refine AG ?_ _)); refine An (cs:= #[.int .i64 A8,.slice none 0 0]) ?_ 1 _ rfl; (with_reducible repeat (first|refine AF ?_ _|refine AH ?_|refine AG ?_ _)); refine An (cs:= #[.int .i64 0,.slice none 0 0]) ?_ 0 _ rfl; (with_reducible repeat (first|refine AF ?_ _|refine AH ?_|refine AG ?_ _)); exact BK231.out) Try.underlying34 rfl zI) rfl ?_
    exact ⟨_,by first|rfl|(simp [AY,AX]<;>rfl)|(simp [*,AY,AX]<;>rfl),by (with_reducible repeat (first|apply Kd.N_alloc|apply Kd.N_drewN|apply Kd.N_drew)); exact Kd.N_mono (Kd.N_far (p:=⟨gb231,1,none⟩) (Kd.N_far (p:=⟨gb231,0,none⟩) (Kd.N_mono HO_233001.out (fun k_ hk=>(⟨hk,hk.2.2.1⟩:_∧k_≠gb231))) (fun _ hk=>hk.2) (.int .i64 A8)) (fun _ hk=>hk.2) (.slice Ao33 x233001_1.length co33)) (fun _ hk=>hk.1.1),by repeat (first|(with_reducible first|exact HB.out|apply AE|apply AC|apply AD|refine AI ?_ GE230.out|refine AI ?_ GE231.out|refine AI ?_ GE232.out)|exact HB.out)⟩
def AT.l0:Nat→List Int→List Int→Int→Option (Bool)
 |0,_,_,_=>none
 |k+1,x0,x1,x5=>if x5<(x0.length:Int) then (if 0≤x5 then (if x5<(x1.length:Int) then (if (rd x0 x5)=(rd x1 x5) then (AT.l0 k x0 x1 (wrap64 (x5+1))) else (some false)) else (none)) else (none)) else (some true)
def AT.f (k:Nat) (l0:List Int) (l1:List Int):Option (Bool):=if (l0.length:Int)=(l1.length:Int) then (AT.l0 k l0 l1 0) else (some false)
set_option maxHeartbeats 8000000 in
theorem AT.calls (k:Nat) (A0:Option Addr) (c0:Nat) (l0:List Int) (A1:Option Addr) (c1:Nat) (l1:List Int) (r:Bool) (w:World) (hr0:Kd.C (Kd.int .i64) w A0 l0.length l0) (hc0:l0.length≤c0) (hr1:Kd.C (Kd.int .i64) w A1 l1.length l1) (hc1:l1.length≤c1) (h:AT.f k l0 l1=some r):
  Calls Try.prog 19 #[.slice A0 l0.length c0,.slice A1 l1.length c1] w fun e w'=>e= .returned (.bool r)∧Drawn0 w w':=by
 have HR0:=yA hr0
 have HC0:=yA hc0
 clear hr0 hc0
 have HR1:=yA hr1
 have HC1:=yA hc1
 clear hr1 hc1
 have H:(if (l0.length:Int)=(l1.length:Int) then (AT.l0 k l0 l1 0) else (some false))=some r:=h
 clear h
 by_cases c3:(l0.length:Int)=(l1.length:Int)
 ·rw [if_pos c3] at H
  have c3b0:((l0.length:Int)==(l1.length:Int))=true:=beq_iff_eq.mpr c3
  have c3b1:((l0.length:Int) !=(l1.length:Int))=false:=bne_eq_false_iff_eq.mpr c3
  have c3b2:(l0.length==l1.length)=true:=by first|simpa using c3|(simp at c3 ⊢; omega)
  clear c3
  have H':=yA H
  clear H
  go_enter Try.func19,Try.ntmps19
  go_wp2
  repeat (go_quiet (fail); try go_wp2)
  go_loopg [5] k (fun kq v5 w'=>∃(x5_1:Int),v5= .int .i64 x5_1∧Aside0 (AT.l0 kq l0 l1 x5_1=some r)∧Aside0 (kq≤k)∧Drawn0 w w')
  case atStart=>exact ⟨(0),zH,H',⟨Nat.le_refl _⟩,by repeat (first|exact Drawn0.refl _|apply Drawn0.step)⟩
  case round=>
   clear H'
   try clear c1
   try clear p2
   try clear c3
   try clear c3b0
   try clear c3b1
   try clear c3b2
   obtain ⟨x5_1,rfl,HA,HK1,⟨m1,rfl⟩⟩:=hrel
   cases gk with
   |zero=>exact absurd HA.out (by simp [AT.l0])
   | succ k1 =>
    have H:=HA.out
    clear HA
    simp only [AT.l0] at H
    by_cases c4:x5_1<(l0.length:Int)
    ·rw [if_pos c4] at H
     have c4b0:decide (x5_1<(l0.length:Int))=true:=decide_eq_true c4
     clear c4
     by_cases c5:0≤x5_1
     ·rw [if_pos c5] at H
      have c5b0:decide (0≤x5_1)=true:=decide_eq_true c5
      clear c5
      by_cases c6:x5_1<(l1.length:Int)
      ·rw [if_pos c6] at H
       have c6b0:decide (x5_1<(l1.length:Int))=true:=decide_eq_true c6
       clear c6
       by_cases c7:(rd l0 x5_1)=(rd l1 x5_1)
       ·rw [if_pos c7] at H
        have c7b0:((rd l0 x5_1)==(rd l1 x5_1))=true:=beq_iff_eq.mpr c7
        have c7b1:((rd l0 x5_1) !=(rd l1 x5_1))=false:=bne_eq_false_iff_eq.mpr c7
        clear c7
        have H':=yA H
        clear H
        have p238:0≤(x5_1:Int):=yD
        have q238:x5_1<(l0.length:Int):=yD
        obtain ⟨ad238,e238,hx238_0⟩:=Kd.at_int HR0.out x5_1 p238 q238
        cases e238
        replace p238:=eq_true p238
        replace q238:=eq_true q238
        have p239:0≤(x5_1:Int):=yD
        have q239:x5_1<(l1.length:Int):=yD
        obtain ⟨ad239,e239,hx239_0⟩:=Kd.at_int HR1.out x5_1 p239 q239
        cases e239
        replace p239:=eq_true p239
        replace q239:=eq_true q239
        go_wp2
        repeat (go_quiet (fail); try go_wp2)
        go_roundg k1
        case measure=>have:=HK1.out; omega
        case rel=>exact ⟨(wrap64 (x5_1+1)),zH,H',⟨by have:=HK1.out; omega⟩,by repeat (first|exact Drawn0.refl _|apply Drawn0.step)⟩
       ·rw [if_neg c7] at H
        have c7b0:((rd l0 x5_1)==(rd l1 x5_1))=false:=beq_eq_false_iff_ne.mpr c7
        have c7b1:((rd l0 x5_1) !=(rd l1 x5_1))=true:=bne_iff_ne.mpr c7
        obtain rfl:=Option.some.inj H
        have p238:0≤(x5_1:Int):=yD
        have q238:x5_1<(l0.length:Int):=yD
        obtain ⟨ad238,e238,hx238_0⟩:=Kd.at_int HR0.out x5_1 p238 q238
        cases e238
        replace p238:=eq_true p238
        replace q238:=eq_true q238
        have p239:0≤(x5_1:Int):=yD
        have q239:x5_1<(l1.length:Int):=yD
        obtain ⟨ad239,e239,hx239_0⟩:=Kd.at_int HR1.out x5_1 p239 q239
        cases e239
        replace p239:=eq_true p239
        replace q239:=eq_true q239
        go_wp2
        repeat (go_quiet (fail); try go_wp2)
        go_ret
        exact ⟨by first|rfl|(simp; done)|(simp [*]; done),by repeat (first|exact Drawn0.refl _|apply Drawn0.step)⟩
      ·rw [if_neg c6] at H
       exact absurd H zA5
     ·rw [if_neg c5] at H
      exact absurd H zA5
    ·rw [if_neg c4] at H
     have c4b0:decide (x5_1<(l0.length:Int))=false:=decide_eq_false c4
     clear c4
     obtain rfl:=Option.some.inj H
     go_wp2
     repeat (go_quiet (fail); try go_wp2)
     go_ret
     exact ⟨by first|rfl|(simp; done)|(simp [*]; done),by repeat (first|exact Drawn0.refl _|apply Drawn0.step)⟩
 ·rw [if_neg c3] at H
  have c3b0:((l0.length:Int)==(l1.length:Int))=false:=beq_eq_false_iff_ne.mpr c3
  have c3b1:((l0.length:Int) !=(l1.length:Int))=true:=bne_iff_ne.mpr c3
  have c3b2:(l0.length==l1.length)=false:=by first|simpa using c3|(simp at c3 ⊢; omega)
  obtain rfl:=Option.some.inj H
  go_enter Try.func19,Try.ntmps19
  go_wp2
  repeat (go_quiet (fail); try go_wp2)
  go_ret
  exact ⟨by first|rfl|(simp; done)|(simp [*]; done),by repeat (first|exact Drawn0.refl _|apply Drawn0.step)⟩
def BI.f (a0:Int):Option (Bool):=if a0≥97 then (if a0≤122 then (some true) else (if a0≥65 then (some (decide (a0≤90))) else (some false))) else (if a0≥65 then (some (decide (a0≤90))) else (some false))
set_option maxHeartbeats 8000000 in
theorem BI.calls (a0:Int) (r:Bool) (w:World) (h:BI.f a0=some r):
  Calls Try.prog 70 #[.int .u8 a0] w fun e w'=>e= .returned (.bool r)∧Drawn0 w w':=by
 have H:(if a0≥97 then (if a0≤122 then (some true) else (if a0≥65 then (some (decide (a0≤90))) else (some false))) else (if a0≥65 then (some (decide (a0≤90))) else (some false)))=some r:=h
 clear h
 by_cases c2:a0≥97
 ·rw [if_pos c2] at H
  have c2b0:decide (97≤a0)=true:=decide_eq_true c2
  clear c2
  by_cases c3:a0≤122
  ·rw [if_pos c3] at H
   have c3b0:decide (a0≤122)=true:=decide_eq_true c3
   clear c3
   obtain rfl:=Option.some.inj H
   go_enter Try.func70,Try.ntmps70
   go_wp2
   go_ret
   exact ⟨by first|rfl|(simp; done)|(simp [*]; done),by repeat (first|exact Drawn0.refl _|apply Drawn0.step)⟩
  ·rw [if_neg c3] at H
   have c3b0:decide (a0≤122)=false:=decide_eq_false c3
   clear c3
   by_cases c4:a0≥65
   ·rw [if_pos c4] at H
    have c4b0:decide (65≤a0)=true:=decide_eq_true c4
    clear c4
    obtain rfl:=Option.some.inj H
    go_enter Try.func70,Try.ntmps70
    go_wp2
    go_ret
    exact ⟨by first|rfl|(simp; done)|(simp [*]; done),by repeat (first|exact Drawn0.refl _|apply Drawn0.step)⟩
   ·rw [if_neg c4] at H
    have c4b0:decide (65≤a0)=false:=decide_eq_false c4
    clear c4
    obtain rfl:=Option.some.inj H
    go_enter Try.func70,Try.ntmps70
    go_wp2
    go_ret
    exact ⟨by first|rfl|(simp; done)|(simp [*]; done),by repeat (first|exact Drawn0.refl _|apply Drawn0.step)⟩
 ·rw [if_neg c2] at H
  have c2b0:decide (97≤a0)=false:=decide_eq_false c2
  clear c2
  by_cases c5:a0≥65
  ·rw [if_pos c5] at H
   have c5b0:decide (65≤a0)=true:=decide_eq_true c5
   clear c5
   obtain rfl:=Option.some.inj H
   go_enter Try.func70,Try.ntmps70
   go_wp2
   go_ret
   exact ⟨by first|rfl|(simp; done)|(simp [*]; done),by repeat (first|exact Drawn0.refl _|apply Drawn0.step)⟩
  ·rw [if_neg c5] at H
   have c5b0:decide (65≤a0)=false:=decide_eq_false c5
   clear c5
   obtain rfl:=Option.some.inj H
   go_enter Try.func70,Try.ntmps70
   go_wp2
   go_ret
   exact ⟨by first|rfl|(simp; done)|(simp [*]; done),by repeat (first|exact Drawn0.refl _|apply Drawn0.step)⟩
def BM.f (a0:Int):Option (Bool):=if a0≥48 then (some (decide (a0≤57))) else (some false)
set_option maxHeartbeats 8000000 in
theorem BM.calls (a0:Int) (r:Bool) (w:World) (h:BM.f a0=some r):
  Calls Try.prog 71 #[.int .u8 a0] w fun e w'=>e= .returned (.bool r)∧Drawn0 w w':=by
 have H:(if a0≥48 then (some (decide (a0≤57))) else (some false))=some r:=h
 clear h
 by_cases c2:a0≥48
 ·rw [if_pos c2] at H
  have c2b0:decide (48≤a0)=true:=decide_eq_true c2
  clear c2
  obtain rfl:=Option.some.inj H
  go_enter Try.func71,Try.ntmps71
  go_wp2
  go_ret
  exact ⟨by first|rfl|(simp; done)|(simp [*]; done),by repeat (first|exact Drawn0.refl _|apply Drawn0.step)⟩
 ·rw [if_neg c2] at H
  have c2b0:decide (48≤a0)=false:=decide_eq_false c2
  clear c2
  obtain rfl:=Option.some.inj H
  go_enter Try.func71,Try.ntmps71
  go_wp2
  go_ret
  exact ⟨by first|rfl|(simp; done)|(simp [*]; done),by repeat (first|exact Drawn0.refl _|apply Drawn0.step)⟩
def Az.l0:Nat→ByteArray→Int→Option (Bool)
 |0,_,_=>none
 |k+1,x0,x3=>if x3<(x0.size:Int) then (if 0≤x3 then ((BI.f (bt x0 x3)).bind fun t240=>(if t240=true then (Az.l0 k x0 (wrap64 (x3+1))) else (if x3=0 then (some false) else ((BM.f (bt x0 x3)).bind fun t241=>(if t241=true then (Az.l0 k x0 (wrap64 (x3+1))) else (if (bt x0 x3)=45 then (Az.l0 k x0 (wrap64 (x3+1))) else (if (bt x0 x3)=95 then (Az.l0 k x0 (wrap64 (x3+1))) else (some false)))))))) else (none)) else (some (decide ((x0.size:Int)>0)))
def Az.f (k:Nat) (a0:ByteArray):Option (Bool):=Az.l0 k a0 0
set_option maxHeartbeats 8000000 in
theorem Az.calls (k:Nat) (a0:ByteArray) (r:Bool) (w:World) (h:Az.f k a0=some r):
  Calls Try.prog 62 #[.string a0] w fun e w'=>e= .returned (.bool r)∧Drawn0 w w':=by
 have H:(Az.l0 k a0 0)=some r:=h
 clear h
 have H':=yA H
 clear H
 go_enter Try.func62,Try.ntmps62
 go_wp2
 go_loopg [3] k (fun kq v3 w'=>∃(x3_1:Int),v3= .int .i64 x3_1∧Aside0 (Az.l0 kq a0 x3_1=some r)∧Aside0 (kq≤k)∧Drawn0 w w')
 case atStart=>exact ⟨(0),zH,H',⟨Nat.le_refl _⟩,by repeat (first|exact Drawn0.refl _|apply Drawn0.step)⟩
 case round=>
  clear H'
  obtain ⟨x3_1,rfl,HA,HK1,⟨m1,rfl⟩⟩:=hrel
  cases gk with
  |zero=>exact absurd HA.out (by simp [Az.l0])
  | succ k1 =>
   have H:=HA.out
   clear HA
   simp only [Az.l0] at H
   by_cases c2:x3_1<(a0.size:Int)
   ·rw [if_pos c2] at H
    have c2b0:decide (x3_1<(a0.size:Int))=true:=decide_eq_true c2
    clear c2
    by_cases c3:0≤x3_1
    ·rw [if_pos c3] at H
     have c3b0:decide (0≤x3_1)=true:=decide_eq_true c3
     clear c3
     replace H:=Option.bind_eq_some_iff.mp H
     obtain ⟨t240,A50,H⟩:=H
     replace H:(if t240=true then (Az.l0 k1 a0 (wrap64 (x3_1+1))) else (if x3_1=0 then (some false) else ((BM.f (bt a0 x3_1)).bind fun t241=>(if t241=true then (Az.l0 k1 a0 (wrap64 (x3_1+1))) else (if (bt a0 x3_1)=45 then (Az.l0 k1 a0 (wrap64 (x3_1+1))) else (if (bt a0 x3_1)=95 then (Az.l0 k1 a0 (wrap64 (x3_1+1))) else (some false)))))))=some r:=H
     have A5:=yA A50
     clear A50
     by_cases c6:t240=true
     ·subst c6
      have H1:(Az.l0 k1 a0 (wrap64 (x3_1+1)))=some r:=by rw [if_pos rfl] at H; exact H
      clear H
      have H:=H1
      clear H1
      have H':=yA H
      clear H
      have p4:0≤(x3_1:Int):=yD
      have q4:x3_1<(a0.size:Int):=yD
      have hx4:=CI a0 x3_1
      replace p4:=eq_true p4
      replace q4:=eq_true q4
      go_wp2_with (first|((with_reducible refine Ae (f:=70) rfl ?_); refine B6 (some 13) rfl rfl Try.func70 zI rfl #[.int .u8 (bt a0 x3_1)] rfl zD ?_; (with_reducible refine (BI.calls (bt a0 x3_1) true _ A5.out).mono ?_); rintro e w' ⟨rfl,⟨nd,rfl⟩⟩; refine ⟨_,rfl,?_⟩))
      go_roundg k1
      case measure=>have:=HK1.out; omega
      case rel=>exact ⟨(wrap64 (x3_1+1)),zH,H',⟨by have:=HK1.out; omega⟩,by repeat (first|exact Drawn0.refl _|apply Drawn0.step)⟩
     ·replace c6:=Bool.eq_false_iff.mpr c6
      subst c6
      have H1:(if x3_1=0 then (some false) else ((BM.f (bt a0 x3_1)).bind fun t241=>(if t241=true then (Az.l0 k1 a0 (wrap64 (x3_1+1))) else (if (bt a0 x3_1)=45 then (Az.l0 k1 a0 (wrap64 (x3_1+1))) else (if (bt a0 x3_1)=95 then (Az.l0 k1 a0 (wrap64 (x3_1+1))) else (some false))))))=some r:=by rw [if_neg (show ¬(false=true) by decide)] at H; exact H
      clear H
      have H:=H1
      clear H1
      by_cases c7:x3_1=0
      ·rw [if_pos c7] at H
       have c7b0:(x3_1==0)=true:=beq_iff_eq.mpr c7
       have c7b1:(x3_1 !=0)=false:=bne_eq_false_iff_eq.mpr c7
       clear c7
       obtain rfl:=Option.some.inj H
       have p4:0≤(x3_1:Int):=yD
       have q4:x3_1<(a0.size:Int):=yD
       have hx4:=CI a0 x3_1
       replace p4:=eq_true p4
       replace q4:=eq_true q4
       go_wp2_with (first|((with_reducible refine Ae (f:=70) rfl ?_); refine B6 (some 13) rfl rfl Try.func70 zI rfl #[.int .u8 (bt a0 x3_1)] rfl zD ?_; (with_reducible refine (BI.calls (bt a0 x3_1) false _ A5.out).mono ?_); rintro e w' ⟨rfl,⟨nd,rfl⟩⟩; refine ⟨_,rfl,?_⟩))
       go_ret
       exact ⟨by first|rfl|(simp; done)|(simp [*]; done),by repeat (first|exact Drawn0.refl _|apply Drawn0.step)⟩
      ·rw [if_neg c7] at H
       have c7b0:(x3_1==0)=false:=beq_eq_false_iff_ne.mpr c7
       have c7b1:(x3_1 !=0)=true:=bne_iff_ne.mpr c7
       replace H:=Option.bind_eq_some_iff.mp H
       obtain ⟨t241,A90,H⟩:=H
       replace H:(if t241=true then (Az.l0 k1 a0 (wrap64 (x3_1+1))) else (if (bt a0 x3_1)=45 then (Az.l0 k1 a0 (wrap64 (x3_1+1))) else (if (bt a0 x3_1)=95 then (Az.l0 k1 a0 (wrap64 (x3_1+1))) else (some false))))=some r:=H
       have A9:=yA A90
       clear A90
       by_cases c10:t241=true
       ·subst c10
        have H1:(Az.l0 k1 a0 (wrap64 (x3_1+1)))=some r:=by rw [if_pos rfl] at H; exact H
        clear H
        have H:=H1
        clear H1
        have H':=yA H
        clear H
        have p4:0≤(x3_1:Int):=yD
        have q4:x3_1<(a0.size:Int):=yD
        have hx4:=CI a0 x3_1
        replace p4:=eq_true p4
        replace q4:=eq_true q4
        go_wp2_with (first|((with_reducible refine Ae (f:=70) rfl ?_); refine B6 (some 13) rfl rfl Try.func70 zI rfl #[.int .u8 (bt a0 x3_1)] rfl zD ?_; (with_reducible refine (BI.calls (bt a0 x3_1) false _ A5.out).mono ?_); rintro e w' ⟨rfl,⟨nd,rfl⟩⟩; refine ⟨_,rfl,?_⟩; have p8:0≤(x3_1:Int):=yD; have q8:x3_1<(a0.size:Int):=yD; have hx8:=CI a0 x3_1; replace p8:=eq_true p8; replace q8:=eq_true q8)|(go_at_call 71; (with_reducible refine (BM.calls (bt a0 x3_1) true _ A9.out).mono ?_); rintro e w' ⟨rfl,⟨nd,rfl⟩⟩))
        go_roundg k1
        case measure=>have:=HK1.out; omega
        case rel=>exact ⟨(wrap64 (x3_1+1)),zH,H',⟨by have:=HK1.out; omega⟩,by repeat (first|exact Drawn0.refl _|apply Drawn0.step)⟩
       ·replace c10:=Bool.eq_false_iff.mpr c10
        subst c10
        have H1:(if (bt a0 x3_1)=45 then (Az.l0 k1 a0 (wrap64 (x3_1+1))) else (if (bt a0 x3_1)=95 then (Az.l0 k1 a0 (wrap64 (x3_1+1))) else (some false)))=some r:=by rw [if_neg (show ¬(false=true) by decide)] at H; exact H
        clear H
        have H:=H1
        clear H1
        by_cases c12:(bt a0 x3_1)=45
        ·rw [if_pos c12] at H
         have c12b0:((bt a0 x3_1)==45)=true:=beq_iff_eq.mpr c12
         have c12b1:((bt a0 x3_1) !=45)=false:=bne_eq_false_iff_eq.mpr c12
         clear c12
         have H':=yA H
         clear H
         have p4:0≤(x3_1:Int):=yD
         have q4:x3_1<(a0.size:Int):=yD
         have hx4:=CI a0 x3_1
         replace p4:=eq_true p4
         replace q4:=eq_true q4
         go_wp2_with (first|((with_reducible refine Ae (f:=70) rfl ?_); refine B6 (some 13) rfl rfl Try.func70 zI rfl #[.int .u8 (bt a0 x3_1)] rfl zD ?_; (with_reducible refine (BI.calls (bt a0 x3_1) false _ A5.out).mono ?_); rintro e w' ⟨rfl,⟨nd,rfl⟩⟩; refine ⟨_,rfl,?_⟩; have p8:0≤(x3_1:Int):=yD; have q8:x3_1<(a0.size:Int):=yD; have hx8:=CI a0 x3_1; replace p8:=eq_true p8; replace q8:=eq_true q8)|(go_at_call 71; (with_reducible refine (BM.calls (bt a0 x3_1) false _ A9.out).mono ?_); rintro e w' ⟨rfl,⟨nd,rfl⟩⟩; have p11:0≤(x3_1:Int):=yD; have q11:x3_1<(a0.size:Int):=yD; have hx11:=CI a0 x3_1; replace p11:=eq_true p11; replace q11:=eq_true q11))
         go_roundg k1
         case measure=>have:=HK1.out; omega
         case rel=>exact ⟨(wrap64 (x3_1+1)),zH,H',⟨by have:=HK1.out; omega⟩,by repeat (first|exact Drawn0.refl _|apply Drawn0.step)⟩
        ·rw [if_neg c12] at H
         have c12b0:((bt a0 x3_1)==45)=false:=beq_eq_false_iff_ne.mpr c12
         have c12b1:((bt a0 x3_1) !=45)=true:=bne_iff_ne.mpr c12
         by_cases c14:(bt a0 x3_1)=95
         ·rw [if_pos c14] at H
          have c14b0:((bt a0 x3_1)==95)=true:=beq_iff_eq.mpr c14
          have c14b1:((bt a0 x3_1) !=95)=false:=bne_eq_false_iff_eq.mpr c14
          clear c14
          have H':=yA H
          clear H
          have p4:0≤(x3_1:Int):=yD
          have q4:x3_1<(a0.size:Int):=yD
          have hx4:=CI a0 x3_1
          replace p4:=eq_true p4
          replace q4:=eq_true q4
          go_wp2_with (first|((with_reducible refine Ae (f:=70) rfl ?_); refine B6 (some 13) rfl rfl Try.func70 zI rfl #[.int .u8 (bt a0 x3_1)] rfl zD ?_; (with_reducible refine (BI.calls (bt a0 x3_1) false _ A5.out).mono ?_); rintro e w' ⟨rfl,⟨nd,rfl⟩⟩; refine ⟨_,rfl,?_⟩; have p8:0≤(x3_1:Int):=yD; have q8:x3_1<(a0.size:Int):=yD; have hx8:=CI a0 x3_1; replace p8:=eq_true p8; replace q8:=eq_true q8)|(go_at_call 71; (with_reducible refine (BM.calls (bt a0 x3_1) false _ A9.out).mono ?_); rintro e w' ⟨rfl,⟨nd,rfl⟩⟩; have p11:0≤(x3_1:Int):=yD; have q11:x3_1<(a0.size:Int):=yD; have hx11:=CI a0 x3_1; replace p11:=eq_true p11; replace q11:=eq_true q11; have p13:0≤(x3_1:Int):=yD; have q13:x3_1<(a0.size:Int):=yD; have hx13:=CI a0 x3_1; replace p13:=eq_true p13; replace q13:=eq_true q13))
          go_roundg k1
          case measure=>have:=HK1.out; omega
          case rel=>exact ⟨(wrap64 (x3_1+1)),zH,H',⟨by have:=HK1.out; omega⟩,by repeat (first|exact Drawn0.refl _|apply Drawn0.step)⟩
         ·rw [if_neg c14] at H
          have c14b0:((bt a0 x3_1)==95)=false:=beq_eq_false_iff_ne.mpr c14
          have c14b1:((bt a0 x3_1) !=95)=true:=bne_iff_ne.mpr c14
          obtain rfl:=Option.some.inj H
          have p4:0≤(x3_1:Int):=yD
          have q4:x3_1<(a0.size:Int):=yD
          have hx4:=CI a0 x3_1
          replace p4:=eq_true p4
          replace q4:=eq_true q4
          go_wp2_with (first|((with_reducible refine Ae (f:=70) rfl ?_); refine B6 (some 13) rfl rfl Try.func70 zI rfl #[.int .u8 (bt a0 x3_1)] rfl zD ?_; (with_reducible refine (BI.calls (bt a0 x3_1) false _ A5.out).mono ?_); rintro e w' ⟨rfl,⟨nd,rfl⟩⟩; refine ⟨_,rfl,?_⟩; have p8:0≤(x3_1:Int):=yD; have q8:x3_1<(a0.size:Int):=yD; have hx8:=CI a0 x3_1; replace p8:=eq_true p8; replace q8:=eq_true q8)|(go_at_call 71; (with_reducible refine (BM.calls (bt a0 x3_1) false _ A9.out).mono ?_); rintro e w' ⟨rfl,⟨nd,rfl⟩⟩; have p11:0≤(x3_1:Int):=yD; have q11:x3_1<(a0.size:Int):=yD; have hx11:=CI a0 x3_1; replace p11:=eq_true p11; replace q11:=eq_true q11; have p13:0≤(x3_1:Int):=yD; have q13:x3_1<(a0.size:Int):=yD; have hx13:=CI a0 x3_1; replace p13:=eq_true p13; replace q13:=eq_true q13))
          go_ret
          exact ⟨by first|rfl|(simp; done)|(simp [*]; done),by repeat (first|exact Drawn0.refl _|apply Drawn0.step)⟩
    ·rw [if_neg c3] at H
     exact absurd H zA5
   ·rw [if_neg c2] at H
    have c2b0:decide (x3_1<(a0.size:Int))=false:=decide_eq_false c2
    clear c2
    obtain rfl:=Option.some.inj H
    go_wp2
    go_ret
    exact ⟨by first|rfl|(simp; done)|(simp [*]; done),by repeat (first|exact Drawn0.refl _|apply Drawn0.step)⟩
end Go.Proofs.Ytdadecjefafflaa.PLst
end
section
namespace Go.Proofs.Ytdadecjefafflaa.PLst
set_option maxRecDepth 100000
open Go.RowKit Go.Proofs.YtdadecjefafflaaW.PrintWords Go.Proofs.YtdadecjefafflaaW.PrintLast Go.Proofs.YtdadecjefafflaaW.PrintMore
attribute [local go_sem] Bd Bb Bm Bk BU BT Bc Ba
theorem eqA54 (d:Nat) (w:World) (x0 y0:Int) (x1 y1:Int):
  (Op.equalIn (d+2) 54 (.agg #[.int .i64 x0,.int .i64 x1]) (.agg #[.int .i64 y0,.int .i64 y1])).run Try.prog w= .ok (x0==y0&&(x1==y1)) w:=by
 refine eqA_of Try.underlying54 zI ?_
 refine H6 (by rfl) (by go_simp; rfl) (by go_simp; rfl) (by go_simp) ?_
 exact H5 (by rfl) (by go_simp; rfl) (by go_simp; rfl) (by go_simp)
end Go.Proofs.Ytdadecjefafflaa.PLst
end
section
namespace Go.Proofs.Ytdadecjefafflaa.PLst
set_option maxRecDepth 100000
open Go.RowKit Go.Proofs.YtdadecjefafflaaW.PrintWords Go.Proofs.YtdadecjefafflaaW.PrintLast Go.Proofs.YtdadecjefafflaaW.PrintMore
attribute [local go_sem] Bd Bb Bm Bk BU BT Bc Ba
def BA.l0:Nat→ByteArray→List ByteArray→Int→Option (Bool)
 |0,_,_,_=>none
 |k+1,x0,x3,x4=>if x4<(x3.length:Int) then (if 0≤x4 then (if (rdOf ByteArray.empty x3 x4).toList=x0.toList then (some true) else (BA.l0 k x0 x3 (wrap64 (x4+1)))) else (none)) else (some false)
def BA.f (k:Nat) (a0:ByteArray):Option (Bool):=BA.l0 k a0 (([(⟨#[100,101,115,105,103,110]⟩:ByteArray),(⟨#[111,114,100,101,114]⟩:ByteArray),(⟨#[109,105,114,114,111,114]⟩:ByteArray),(⟨#[116,105,101,114]⟩:ByteArray),(⟨#[97,110,103,108,101]⟩:ByteArray),(⟨#[97,116]⟩:ByteArray),(⟨#[100,101,112,116,104]⟩:ByteArray),(⟨#[109,101,101,116]⟩:ByteArray),(⟨#[101,100,103,101]⟩:ByteArray),(⟨#[104,101,105,103,104,116]⟩:ByteArray),(⟨#[116,104,114,111,117,103,104]⟩:ByteArray)]:List ByteArray)) 0
set_option maxHeartbeats 8000000 in
theorem BA.calls (k:Nat) (a0:ByteArray) (r:Bool) (w:World) (h:BA.f k a0=some r):
  Calls Try.prog 63 #[.string a0] w fun e w'=>e= .returned (.bool r)∧Below w.heap.size w w':=by
 have HB:=yA (Below.refl w.heap.size w)
 have H:(BA.l0 k a0 (([(⟨#[100,101,115,105,103,110]⟩:ByteArray),(⟨#[111,114,100,101,114]⟩:ByteArray),(⟨#[109,105,114,114,111,114]⟩:ByteArray),(⟨#[116,105,101,114]⟩:ByteArray),(⟨#[97,110,103,108,101]⟩:ByteArray),(⟨#[97,116]⟩:ByteArray),(⟨#[100,101,112,116,104]⟩:ByteArray),(⟨#[109,101,101,116]⟩:ByteArray),(⟨#[101,100,103,101]⟩:ByteArray),(⟨#[104,101,105,103,104,116]⟩:ByteArray),(⟨#[116,104,114,111,117,103,104]⟩:ByteArray)]:List ByteArray)) 0)=some r:=h
 clear h
 obtain ⟨y242,hy242⟩:∃y_:List ByteArray,y_=(([(⟨#[100,101,115,105,103,110]⟩:ByteArray),(⟨#[111,114,100,101,114]⟩:ByteArray),(⟨#[109,105,114,114,111,114]⟩:ByteArray),(⟨#[116,105,101,114]⟩:ByteArray),(⟨#[97,110,103,108,101]⟩:ByteArray),(⟨#[97,116]⟩:ByteArray),(⟨#[100,101,112,116,104]⟩:ByteArray),(⟨#[109,101,101,116]⟩:ByteArray),(⟨#[101,100,103,101]⟩:ByteArray),(⟨#[104,101,105,103,104,116]⟩:ByteArray),(⟨#[116,104,114,111,117,103,104]⟩:ByteArray)]:List ByteArray)):=⟨_,rfl⟩
 replace H:(BA.l0 k a0 y242 0)=some r:=by first|(rw [hy242]; with_reducible exact H)|(have H2_:=(Option.bind_some _ _).symm.trans H; rw [hy242]; with_reducible exact H2_)|(have H2_:=(Option.bind_some _ _).symm.trans H; with_reducible exact H2_)|with_reducible exact H|(rw [hy242]; exact H)|exact H
 have Ny242:=yA hy242
 clear hy242
 have H':=yA H
 clear H
 go_enter Try.func63,Try.ntmps63
 go_wp2_with (first|((with_reducible refine Aq (N:=5) rfl ?_); refine Kd.R_lit Kd.string _ 9 ?hg (N:=5) ?hd (xs:=([(⟨#[100,101,115,105,103,110]⟩:ByteArray),(⟨#[111,114,100,101,114]⟩:ByteArray),(⟨#[109,105,114,114,111,114]⟩:ByteArray),(⟨#[116,105,101,114]⟩:ByteArray),(⟨#[97,110,103,108,101]⟩:ByteArray),(⟨#[97,116]⟩:ByteArray),(⟨#[100,101,112,116,104]⟩:ByteArray),(⟨#[109,101,101,116]⟩:ByteArray),(⟨#[101,100,103,101]⟩:ByteArray),(⟨#[104,101,105,103,104,116]⟩:ByteArray),(⟨#[116,104,114,111,117,103,104]⟩:ByteArray)]:List ByteArray)) (inner:=[.string (⟨#[100,101,115,105,103,110]⟩:ByteArray),.string (⟨#[111,114,100,101,114]⟩:ByteArray),.string (⟨#[109,105,114,114,111,114]⟩:ByteArray),.string (⟨#[116,105,101,114]⟩:ByteArray),.string (⟨#[97,110,103,108,101]⟩:ByteArray),.string (⟨#[97,116]⟩:ByteArray),.string (⟨#[100,101,112,116,104]⟩:ByteArray),.string (⟨#[109,101,101,116]⟩:ByteArray),.string (⟨#[101,100,103,101]⟩:ByteArray),.string (⟨#[104,101,105,103,104,116]⟩:ByteArray),.string (⟨#[116,104,114,111,117,103,104]⟩:ByteArray)]) (ok:=fun _=>True) (okp:=fun _=>True) ?hr ?hp (fun _ hk=>hk) trivial (Below.refl _ _) (Nat.le_refl _) zA5 ?_; (case hd=>rfl); (case hg=>rfl); (case hr=>first|(go_simp; done)|(go_simp; rfl)); (case hp=>exact (Reps.one (show Kd.M Kd.string _ _ _ (⟨#[100,101,115,105,103,110]⟩:ByteArray) [.string (⟨#[100,101,115,105,103,110]⟩:ByteArray)] from rfl) (Reps.one (show Kd.M Kd.string _ _ _ (⟨#[111,114,100,101,114]⟩:ByteArray) [.string (⟨#[111,114,100,101,114]⟩:ByteArray)] from rfl) (Reps.one (show Kd.M Kd.string _ _ _ (⟨#[109,105,114,114,111,114]⟩:ByteArray) [.string (⟨#[109,105,114,114,111,114]⟩:ByteArray)] from rfl) (Reps.one (show Kd.M Kd.string _ _ _ (⟨#[116,105,101,114]⟩:ByteArray) [.string (⟨#[116,105,101,114]⟩:ByteArray)] from rfl) (Reps.one (show Kd.M Kd.string _ _ _ (⟨#[97,110,103,108,101]⟩:ByteArray) [.string (⟨#[97,110,103,108,101]⟩:ByteArray)] from rfl) (Reps.one (show Kd.M Kd.string _ _ _ (⟨#[97,116]⟩:ByteArray) [.string (⟨#[97,116]⟩:ByteArray)] from rfl) (Reps.one (show Kd.M Kd.string _ _ _ (⟨#[100,101,112,116,104]⟩:ByteArray) [.string (⟨#[100,101,112,116,104]⟩:ByteArray)] from rfl) (Reps.one (show Kd.M Kd.string _ _ _ (⟨#[109,101,101,116]⟩:ByteArray) [.string (⟨#[109,101,101,116]⟩:ByteArray)] from rfl) (Reps.one (show Kd.M Kd.string _ _ _ (⟨#[101,100,103,101]⟩:ByteArray) [.string (⟨#[101,100,103,101]⟩:ByteArray)] from rfl) (Reps.one (show Kd.M Kd.string _ _ _ (⟨#[104,101,105,103,104,116]⟩:ByteArray) [.string (⟨#[104,101,105,103,104,116]⟩:ByteArray)] from rfl) (Reps.one (show Kd.M Kd.string _ _ _ (⟨#[116,104,114,111,117,103,104]⟩:ByteArray) [.string (⟨#[116,104,114,111,117,103,104]⟩:ByteArray)] from rfl) (Reps.none _ _))))))))))))); intro v243 w2 ho3 hb hg_ hnew_; clear hg_ hnew_; (first|rw [←Ny242.out] at ho3|(simp only [Int.reduceToNat] at ho3; rw [←Ny242.out] at ho3)); have n0_:=yA (Kd.R_lower ho3 (AQ zB)); have n1_:=yA (AO zB hb); clear HB; have HO244:=n0_; have HB:=n1_; clear n0_ n1_; clear hb ho3))
 go_loopg [4] k (fun kq v4 w'=>∃(x4_1:Int),v4= .int .i64 x4_1∧Aside0 (BA.l0 kq a0 y242 x4_1=some r)∧Aside0 (kq≤k)∧Aside0 (Kd.R Kd.string 9 w' w.heap.size (fun _=>True) v243 y242)∧Aside0 (Below w.heap.size w w'))
 case atStart=>exact ⟨(0),zH,H',⟨Nat.le_refl _⟩,⟨by (with_reducible repeat (first|apply Kd.R_alloc|apply Kd.R_drewN|apply Kd.R_drew)); exact HO244.out⟩,⟨by repeat (first|(with_reducible first|exact HB.out|apply AE|apply AC|apply AD)|exact HB.out)⟩⟩
 case round=>
  clear H'
  try clear p2
  obtain ⟨x4_1,rfl,HA,HK1,HO_3,HB⟩:=hrel
  cases gk with
  |zero=>exact absurd HA.out (by simp [BA.l0])
  | succ k1=>
   have H:=HA.out
   clear HA
   simp only [BA.l0] at H
   by_cases c4:x4_1<(y242.length:Int)
   ·rw [if_pos c4] at H
    have c4b0:decide (x4_1<(y242.length:Int))=true:=decide_eq_true c4
    clear c4
    by_cases c5:0≤x4_1
    ·rw [if_pos c5] at H
     have c5b0:decide (0≤x4_1)=true:=decide_eq_true c5
     clear c5
     by_cases c6:(rdOf ByteArray.empty y242 x4_1).toList=a0.toList
     ·rw [if_pos c6] at H
      have c6b0:((rdOf ByteArray.empty y242 x4_1).toList==a0.toList)=true:=beq_iff_eq.mpr c6
      have c6b1:((rdOf ByteArray.empty y242 x4_1).toList !=a0.toList)=false:=bne_eq_false_iff_eq.mpr c6
      clear c6
      obtain rfl:=Option.some.inj H
      obtain ⟨Ao7,co7,eo7⟩:=Kd.R_slice HO_3.out
      subst eo7
      have p245:0≤(x4_1:Int):=yD
      have q245:x4_1<(y242.length:Int):=yD
      obtain ⟨ad245,e245,hx245_0⟩:=Kd.at_string (Kd.R_reads' HO_3.out).2.2 x4_1 p245 q245
      cases e245
      replace p245:=eq_true p245
      replace q245:=eq_true q245
      go_wp2
      go_ret
      exact ⟨by first|rfl|(simp [AY,AX]<;>rfl)|(simp [*,AY,AX]<;>rfl),by repeat (first|(with_reducible first|exact HB.out|apply AE|apply AC|apply AD)|exact HB.out)⟩
     ·rw [if_neg c6] at H
      have c6b0:((rdOf ByteArray.empty y242 x4_1).toList==a0.toList)=false:=beq_eq_false_iff_ne.mpr c6
      have c6b1:((rdOf ByteArray.empty y242 x4_1).toList !=a0.toList)=true:=bne_iff_ne.mpr c6
      have H':=yA H
      clear H
      obtain ⟨Ao8,co8,eo8⟩:=Kd.R_slice HO_3.out
      subst eo8
      have p245:0≤(x4_1:Int):=yD
      have q245:x4_1<(y242.length:Int):=yD
      obtain ⟨ad245,e245,hx245_0⟩:=Kd.at_string (Kd.R_reads' HO_3.out).2.2 x4_1 p245 q245
      cases e245
      replace p245:=eq_true p245
      replace q245:=eq_true q245
      go_wp2
      go_roundg k1
      case measure=>have:=HK1.out; omega
      case rel=>exact ⟨(wrap64 (x4_1+1)),zH,H',⟨by have:=HK1.out; omega⟩,⟨by (with_reducible repeat (first|apply Kd.R_alloc|apply Kd.R_drewN|apply Kd.R_drew)); exact HO_3.out⟩,⟨by repeat (first|(with_reducible first|exact HB.out|apply AE|apply AC|apply AD)|exact HB.out)⟩⟩
    ·rw [if_neg c5] at H
     exact absurd H zA5
   ·rw [if_neg c4] at H
    have c4b0:decide (x4_1<(y242.length:Int))=false:=decide_eq_false c4
    clear c4
    obtain rfl:=Option.some.inj H
    obtain ⟨Ao9,co9,eo9⟩:=Kd.R_slice HO_3.out
    subst eo9
    go_wp2
    go_ret
    exact ⟨by first|rfl|(simp [AY,AX]<;>rfl)|(simp [*,AY,AX]<;>rfl),by repeat (first|(with_reducible first|exact HB.out|apply AE|apply AC|apply AD)|exact HB.out)⟩
def B9.f (k:Nat) (a0:ByteArray):Option (Bool):=(Az.f k a0).bind fun t246=>(if t246=true then (if (a0.size:Int)≤30 then ((BA.f k a0).bind fun t247=>(some (!t247))) else (some false)) else (some false))
set_option maxHeartbeats 8000000 in
theorem B9.calls (k:Nat) (a0:ByteArray) (r:Bool) (w:World) (h:B9.f k a0=some r):
  Calls Try.prog 55 #[.string a0] w fun e w'=>e= .returned (.bool r)∧Below w.heap.size w w':=by
 have HB:=yA (Below.refl w.heap.size w)
 have H:((Az.f k a0).bind fun t246=>(if t246=true then (if (a0.size:Int)≤30 then ((BA.f k a0).bind fun t247=>(some (!t247))) else (some false)) else (some false)))=some r:=h
 clear h
 replace H:=Option.bind_eq_some_iff.mp H
 obtain ⟨t246,A20,H⟩:=H
 replace H:(if t246=true then (if (a0.size:Int)≤30 then ((BA.f k a0).bind fun t247=>(some (!t247))) else (some false)) else (some false))=some r:=H
 have A2:=yA A20
 clear A20
 by_cases c3:t246=true
 ·subst c3
  have H1:(if (a0.size:Int)≤30 then ((BA.f k a0).bind fun t247=>(some (!t247))) else (some false))=some r:=by rw [if_pos rfl] at H; exact H
  clear H
  have H:=H1
  clear H1
  by_cases c4:(a0.size:Int)≤30
  ·rw [if_pos c4] at H
   have c4b0:decide ((a0.size:Int)≤30)=true:=decide_eq_true c4
   have c4b1:decide (a0.size≤30)=true:=decide_eq_true zE
   clear c4
   replace H:=Option.bind_eq_some_iff.mp H
   obtain ⟨t247,A50,H⟩:=H
   replace H:(some (!t247))=some r:=H
   have A5:=yA A50
   clear A50
   obtain rfl:=Option.some.inj H
   go_enter Try.func55,Try.ntmps55
   go_wp2_with (first|((with_reducible refine Ae (f:=62) rfl ?_); refine B6 (some 4) rfl rfl Try.func62 zI rfl #[.string a0] rfl zD ?_; (with_reducible refine (Az.calls k a0 true _ A2.out).mono ?_); rintro e w' ⟨rfl,⟨nd,rfl⟩⟩; refine ⟨_,rfl,?_⟩)|(go_at_call 63; (with_reducible refine (BA.calls k a0 t247 _ A5.out).mono ?_); rintro e w6 ⟨rfl,hb⟩; have n0_:=yA (AO zB hb); clear HB; have HB:=n0_; clear n0_; (try clear hb); (try clear hb2); (try clear hk); (try clear hi)))
   go_ret
   exact ⟨by first|rfl|(simp [AY,AX]<;>rfl)|(simp [*,AY,AX]<;>rfl),by repeat (first|(with_reducible first|exact HB.out|apply AE|apply AC|apply AD)|exact HB.out)⟩
  ·rw [if_neg c4] at H
   have c4b0:decide ((a0.size:Int)≤30)=false:=decide_eq_false c4
   have c4b1:decide (a0.size≤30)=false:=decide_eq_false zE
   clear c4
   obtain rfl:=Option.some.inj H
   go_enter Try.func55,Try.ntmps55
   go_wp2_with (first|((with_reducible refine Ae (f:=62) rfl ?_); refine B6 (some 4) rfl rfl Try.func62 zI rfl #[.string a0] rfl zD ?_; (with_reducible refine (Az.calls k a0 true _ A2.out).mono ?_); rintro e w' ⟨rfl,⟨nd,rfl⟩⟩; refine ⟨_,rfl,?_⟩))
   go_ret
   exact ⟨by first|rfl|(simp [AY,AX]<;>rfl)|(simp [*,AY,AX]<;>rfl),by repeat (first|(with_reducible first|exact HB.out|apply AE|apply AC|apply AD)|exact HB.out)⟩
 ·replace c3:=Bool.eq_false_iff.mpr c3
  subst c3
  have H1:(some false)=some r:=by rw [if_neg (show ¬(false=true) by decide)] at H; exact H
  clear H
  have H:=H1
  clear H1
  obtain rfl:=Option.some.inj H
  go_enter Try.func55,Try.ntmps55
  go_wp2_with (first|((with_reducible refine Ae (f:=62) rfl ?_); refine B6 (some 4) rfl rfl Try.func62 zI rfl #[.string a0] rfl zD ?_; (with_reducible refine (Az.calls k a0 false _ A2.out).mono ?_); rintro e w' ⟨rfl,⟨nd,rfl⟩⟩; refine ⟨_,rfl,?_⟩))
  go_ret
  exact ⟨by first|rfl|(simp [AY,AX]<;>rfl)|(simp [*,AY,AX]<;>rfl),by repeat (first|(with_reducible first|exact HB.out|apply AE|apply AC|apply AD)|exact HB.out)⟩
end Go.Proofs.Ytdadecjefafflaa.PLst
end
section
namespace Go.Proofs.Ytdadecjefafflaa.PLst
set_option maxRecDepth 100000
open Go.RowKit Go.Proofs.YtdadecjefafflaaW.PrintWords Go.Proofs.YtdadecjefafflaaW.PrintLast Go.Proofs.YtdadecjefafflaaW.PrintMore
attribute [local go_sem] Bd Bb Bm Bk BU BT Bc Ba
mutual
def AS.j0:Nat→Bool→Int→List (S42)→Option (Bool)
 |0,_,_,_=>none
 |k+1,x20,x249000,x249001=>if x20=true then (some false) else (AS.l0 k 0 x249000 x249001)
def AS.l0:Nat→Int→Int→List (S42)→Option (Bool)
 |0,_,_,_=>none
 |k+1,x3,x249000,x249001=>if x3<(x249001.length:Int) then (if 0≤x3 then ((B9.f k ((AL x249001 x3).f0)).bind fun t251=>(if t251=true then (if ((AL x249001 x3).f1)<1 then (AS.j2 k x3 true x249000 x249001 ((AL x249001 x3).f0) ((AL x249001 x3).f1) ((AL x249001 x3).f2) ((AL x249001 x3).f3)) else (if ((AL x249001 x3).f1)>10000 then (AS.j2 k x3 true x249000 x249001 ((AL x249001 x3).f0) ((AL x249001 x3).f1) ((AL x249001 x3).f2) ((AL x249001 x3).f3)) else (if ((AL x249001 x3).f2)<0 then (AS.j2 k x3 true x249000 x249001 ((AL x249001 x3).f0) ((AL x249001 x3).f1) ((AL x249001 x3).f2) ((AL x249001 x3).f3)) else (AS.j2 k x3 (decide (((AL x249001 x3).f2)>1000000)) x249000 x249001 ((AL x249001 x3).f0) ((AL x249001 x3).f1) ((AL x249001 x3).f2) ((AL x249001 x3).f3))))) else (AS.j2 k x3 true x249000 x249001 ((AL x249001 x3).f0) ((AL x249001 x3).f1) ((AL x249001 x3).f2) ((AL x249001 x3).f3)))) else (none)) else (some true)
def AS.j2:Nat→Int→Bool→Int→List (S42)→ByteArray→Int→Int→List Int→Option (Bool)
 |0,_,_,_,_,_,_,_,_=>none
 |k+1,x3,x56,x249000,x249001,x251000,x251001,x251002,x251003=>if x56=true then (some false) else (AS.l1 k x3 0 x249000 x249001 x251000 x251001 x251002 x251003)
def AS.l1:Nat→Int→Int→Int→List (S42)→ByteArray→Int→Int→List Int→Option (Bool)
 |0,_,_,_,_,_,_,_,_=>none
 |k+1,x3,x5,x249000,x249001,x251000,x251001,x251002,x251003=>if x5<x3 then (if 0≤x5 then (if x5<(x249001.length:Int) then (if ((AL x249001 x5).f0).toList=x251000.toList then (some false) else (AS.l1 k x3 (wrap64 (x5+1)) x249000 x249001 x251000 x251001 x251002 x251003)) else (none)) else (none)) else (AS.l2 k x3 0 x249000 x249001 x251000 x251001 x251002 x251003)
def AS.l2:Nat→Int→Int→Int→List (S42)→ByteArray→Int→Int→List Int→Option (Bool)
 |0,_,_,_,_,_,_,_,_=>none
 |k+1,x3,x6,x249000,x249001,x251000,x251001,x251002,x251003=>if x6<(x251003.length:Int) then (if 0≤x6 then (if (rd x251003 x6)<0 then (some false) else (if (rd x251003 x6)≥x3 then (some false) else (if x6>0 then (if 0≤(wrap64 (x6-1)) then (if (wrap64 (x6-1))<(x251003.length:Int) then (if (rd x251003 (wrap64 (x6-1)))≥(rd x251003 x6) then (some false) else (AS.l2 k x3 (wrap64 (x6+1)) x249000 x249001 x251000 x251001 x251002 x251003)) else (none)) else (none)) else (AS.l2 k x3 (wrap64 (x6+1)) x249000 x249001 x251000 x251001 x251002 x251003)))) else (none)) else (AS.l0 k (wrap64 (x3+1)) x249000 x249001)
end
def AS.f (k:Nat) (A8:Int) (l0_1:List (S42)):Option (Bool):=if A8<1 then (AS.j0 k true A8 l0_1) else (if A8>4 then (AS.j0 k true A8 l0_1) else (AS.j0 k (decide ((l0_1.length:Int)>40)) A8 l0_1))
set_option maxHeartbeats 8000000 in
theorem AS.calls (k : Nat) (A8:Int) (A0_1:Option Addr) (c0_1:Nat) (l0_1:List (S42)) (r:Bool) (w:World) (hr0_1:Kd.C k42 w A0_1 l0_1.length l0_1) (hc0_1:l0_1.length≤c0_1) (h:AS.f k A8 l0_1=some r):
    Calls Try.prog 36 #[.agg #[.int .i64 A8,.slice A0_1 l0_1.length c0_1]] w fun e w'=>e= .returned (.bool r)∧Below w.heap.size w w':=by
  have hu24:=Try.underlying24
  have hu42:=Try.underlying42
  have HR0_1:=yA hr0_1
  have HC0_1:=yA hc0_1
  clear hr0_1 hc0_1
  have HB:=yA (Below.refl w.heap.size w)
  have H:(if A8<1 then (AS.j0 k true A8 l0_1) else (if A8>4 then (AS.j0 k true A8 l0_1) else (AS.j0 k (decide ((l0_1.length:Int)>40)) A8 l0_1)))=some r:=h
  clear h
  have HC2:=yA H
  clear H
  go_enter Try.func36,Try.ntmps36
  go_upto_region 1 with (first|((with_reducible refine Aq (N:=1) rfl ?_); (try (refine BC (by rfl) ?_; dsimp only)); refine Av ?hg (N:=1) ?hd (cs:= #[.int .i64 A8,.slice A0_1 l0_1.length c0_1]) (t:=24) ?hr ?_; (case hd=>rfl); (case hg=>rfl); (case hr=>first|(go_simp; done)|(go_simp; rfl)); intro gb248 hg w3 hbox hb; have n0_:=yA (AO zB hb); have n1_:=yA (hbox); have n2_:=yA ((by rw [hg]; exact (AQ zB):w.heap.size≤gb248)); have n3_:=yA ((by rw [hg]; exact (AQ zB):w.heap.size≤gb248)); clear HB; have HB:=n0_; have BK248:=n1_; have GW248:=n2_; have GE248:=n3_; clear n0_ n1_ n2_ n3_; clear hb hbox hg))
  repeat (go_quiet (first|((with_reducible refine Aq (N:=1) rfl ?_); (try (refine BC (by rfl) ?_; dsimp only)); refine Av ?hg (N:=1) ?hd (cs:= #[.int .i64 A8,.slice A0_1 l0_1.length c0_1]) (t:=24) ?hr ?_; (case hd=>rfl); (case hg=>rfl); (case hr=>first|(go_simp; done)|(go_simp; rfl)); intro gb248 hg w3 hbox hb; have n0_:=yA (AO zB hb); have n1_:=yA (hbox); have n2_:=yA ((by rw [hg]; exact (AQ zB):w.heap.size≤gb248)); have n3_:=yA ((by rw [hg]; exact (AQ zB):w.heap.size≤gb248)); clear HB; have HB:=n0_; have BK248:=n1_; have GW248:=n2_; have GE248:=n3_; clear n0_ n1_ n2_ n3_; clear hb hbox hg)); go_upto_region 1 with (first|((with_reducible refine Aq (N:=1) rfl ?_); (try (refine BC (by rfl) ?_; dsimp only)); refine Av ?hg (N:=1) ?hd (cs:= #[.int .i64 A8,.slice A0_1 l0_1.length c0_1]) (t:=24) ?hr ?_; (case hd=>rfl); (case hg=>rfl); (case hr=>first|(go_simp; done)|(go_simp; rfl)); intro gb248 hg w3 hbox hb; have n0_:=yA (AO zB hb); have n1_:=yA (hbox); have n2_:=yA ((by rw [hg]; exact (AQ zB):w.heap.size≤gb248)); have n3_:=yA ((by rw [hg]; exact (AQ zB):w.heap.size≤gb248)); clear HB; have HB:=n0_; have BK248:=n1_; have GW248:=n2_; have GE248:=n3_; clear n0_ n1_ n2_ n3_; clear hb hbox hg)))
  (try simp only [Act.put,List.setIfInBounds_toArray,List.set_cons_zero,List.set_cons_succ])
  go_cut [20] (fun v20 wc=>∃(kq:Nat) (x20_1:Bool),v20= .bool x20_1∧Aside0 (AS.j0 kq x20_1 A8 l0_1=some r)∧Aside0 (kq≤k)∧Aside0 (wc.heap[gb248]? =some (.cells #[.int .i64 A8,(.slice A0_1 l0_1.length c0_1)] 24 (0,0)))∧Aside0 (Below w.heap.size w wc))
  case first=>
    have H:=HC2.out
    clear HC2
    by_cases c4:A8<1
    · rw [if_pos c4] at H
      have c4b0:decide (A8<1)=true:=decide_eq_true c4
      clear c4
      (first|rw [c4b0]|(simp only [Aa,Ab]; rw [c4b0])|skip)
      have H':=yA H
      clear H
      have hcz5_0:w3.cell? ⟨gb248,0,none⟩=some (.int .i64 A8):=(AK BK248.out 0).trans rfl
      have hcz5_1:w3.cell? ⟨gb248,1,none⟩=some (.slice A0_1 l0_1.length c0_1):=(AK BK248.out 1).trans rfl
      have hfz5_0:=AJ BK248.out 0
      have hfz5_1:=AJ BK248.out 1
      go_wp2
      repeat (go_quiet (fail); try go_wp2)
      go_meet
      case rel=>exact ⟨_,(true),zH,H',⟨by first|omega|exact Nat.le_refl _⟩,⟨by (with_reducible repeat (first|refine AF ?_ _|refine AH ?_|refine AG ?_ _)); exact BK248.out⟩,⟨by repeat (first|(with_reducible first|exact HB.out|apply AE|apply AC|apply AD|refine AI ?_ GE248.out)|exact HB.out)⟩⟩
    · rw [if_neg c4] at H
      have c4b0:decide (A8<1)=false:=decide_eq_false c4
      clear c4
      (first|rw [c4b0]|(simp only [Aa,Ab]; rw [c4b0])|skip)
      by_cases c6:A8>4
      · rw [if_pos c6] at H
        have c6b0:decide (4<A8)=true:=decide_eq_true c6
        clear c6
        have H':=yA H
        clear H
        have hcz7_0:w3.cell? ⟨gb248,0,none⟩=some (.int .i64 A8):=(AK BK248.out 0).trans rfl
        have hcz7_1:w3.cell? ⟨gb248,1,none⟩=some (.slice A0_1 l0_1.length c0_1):=(AK BK248.out 1).trans rfl
        have hfz7_0:=AJ BK248.out 0
        have hfz7_1:=AJ BK248.out 1
        go_wp2
        repeat (go_quiet (fail); try go_wp2)
        go_meet
        case rel=>exact ⟨_,(true),zH,H',⟨by first|omega|exact Nat.le_refl _⟩,⟨by (with_reducible repeat (first|refine AF ?_ _|refine AH ?_|refine AG ?_ _)); exact BK248.out⟩,⟨by repeat (first|(with_reducible first|exact HB.out|apply AE|apply AC|apply AD|refine AI ?_ GE248.out)|exact HB.out)⟩⟩
      · rw [if_neg c6] at H
        have c6b0:decide (4<A8)=false:=decide_eq_false c6
        clear c6
        have H':=yA H
        clear H
        have hcz8_0:w3.cell? ⟨gb248,0,none⟩=some (.int .i64 A8):=(AK BK248.out 0).trans rfl
        have hcz8_1:w3.cell? ⟨gb248,1,none⟩=some (.slice A0_1 l0_1.length c0_1):=(AK BK248.out 1).trans rfl
        have hfz8_0:=AJ BK248.out 0
        have hfz8_1:=AJ BK248.out 1
        go_wp2
        repeat (go_quiet (fail); try go_wp2)
        go_meet
        case rel=>exact ⟨_,(decide ((l0_1.length:Int)>40)),zH,H',⟨by first|omega|exact Nat.le_refl _⟩,⟨by (with_reducible repeat (first|refine AF ?_ _|refine AH ?_|refine AG ?_ _)); exact BK248.out⟩,⟨by repeat (first|(with_reducible first|exact HB.out|apply AE|apply AC|apply AD|refine AI ?_ GE248.out)|exact HB.out)⟩⟩
  case rest =>
    clear HC2
    try clear p2
    try clear c3
    try clear c4
    try clear c4b0
    try clear c6
    try clear c6b0
    try clear hcz5_0
    try clear hcz5_1
    try clear hcz7_0
    try clear hcz7_1
    try clear hcz8_0
    try clear hcz8_1
    try clear hfz5_0
    try clear hfz5_1
    try clear hfz7_0
    try clear hfz7_1
    try clear hfz8_0
    try clear hfz8_1
    obtain ⟨kq,x20_1,rfl,HA,HJ1,BK248,HB⟩:=hcut
    cases kq with
    |zero=>exact absurd HA.out (by simp [AS.j0])
    | succ kj1=>
      have H:=HA.out
      clear HA
      simp only [AS.j0] at H
      by_cases c9:x20_1=true
      · subst c9
        have H1:(some false)=some r:=by rw [if_pos rfl] at H; exact H
        clear H
        have H:=H1
        clear H1
        obtain rfl:=Option.some.inj H
        go_wp2
        repeat (go_quiet (fail); try go_wp2)
        go_ret
        exact ⟨by first|rfl|(simp [AY,AX]<;>rfl)|(simp [*,AY,AX]<;>rfl),by repeat (first|(with_reducible first|exact HB.out|apply AE|apply AC|apply AD|refine AI ?_ GE248.out)|exact HB.out)⟩
      · replace c9 := Bool.eq_false_iff.mpr c9
        subst c9
        have H1:(AS.l0 kj1 0 A8 l0_1)=some r:=by rw [if_neg (show ¬(false=true) by decide)] at H; exact H
        clear H
        have H:=H1
        clear H1
        have H':=yA H
        clear H
        go_wp2
        repeat (go_quiet (fail); try go_wp2)
        go_loopg [3] kj1 (fun kq v3 w'=>∃(x3_2:Int),v3= .int .i64 x3_2∧Aside0 (AS.l0 kq x3_2 A8 l0_1=some r)∧Aside0 (kq≤kj1)∧Aside0 (w'.heap[gb248]? =some (.cells #[.int .i64 A8,(.slice A0_1 l0_1.length c0_1)] 24 (0,0)))∧Aside0 (Below w.heap.size w w'))
        case atStart=>exact ⟨(0),zH,H',⟨Nat.le_refl _⟩,⟨by (with_reducible repeat (first|refine AF ?_ _|refine AH ?_|refine AG ?_ _)); exact BK248.out⟩,⟨by repeat (first|(with_reducible first|exact HB.out|apply AE|apply AC|apply AD|refine AI ?_ GE248.out)|exact HB.out)⟩⟩
        case round=>
          clear H'
          try clear p2
          try clear c3
          try clear c4
          try clear c4b0
          try clear c6
          try clear c6b0
          try clear c9
          try clear hcz5_0
          try clear hcz5_1
          try clear hcz7_0
          try clear hcz7_1
          try clear hcz8_0
          try clear hcz8_1
          try clear hfz5_0
          try clear hfz5_1
          try clear hfz7_0
          try clear hfz7_1
          try clear hfz8_0
          try clear hfz8_1
          try clear p2
          obtain ⟨x3_2,rfl,HA,HK2,BK248,HB⟩:=hrel
          cases gk with
          |zero=>exact absurd HA.out (by simp [AS.l0])
          | succ k2 =>
            have H:=HA.out
            clear HA
            simp only [AS.l0] at H
            by_cases c10:x3_2<(l0_1.length:Int)
            · rw [if_pos c10] at H
              have c10b0:decide (x3_2<(l0_1.length:Int))=true:=decide_eq_true c10
              clear c10
              by_cases c11:0≤x3_2
              · rw [if_pos c11] at H
                have c11b0:decide (0≤x3_2)=true:=decide_eq_true c11
                clear c11
                have HC12:=yA H
                clear H
                have hcz13_0:wr.cell? ⟨gb248,0,none⟩=some (.int .i64 A8):=(AK BK248.out 0).trans rfl
                have hcz13_1:wr.cell? ⟨gb248,1,none⟩=some (.slice A0_1 l0_1.length c0_1):=(AK BK248.out 1).trans rfl
                have hfz13_0:=AJ BK248.out 0
                have hfz13_1:=AJ BK248.out 1
                have p249:0≤(x3_2:Int):=yD
                have q249:x3_2<(l0_1.length:Int):=yD
                obtain ⟨ad249,A249_3,c249_3,e249,hx249_0,hx249_1,hx249_2,hx249_3,hl249_3,hi249_3⟩:=BZ HR0_1.out x3_2 p249 q249
                cases e249
                replace hx249_0:=yC HB.out hx249_0
                replace hx249_1:=yC HB.out hx249_1
                replace hx249_2:=yC HB.out hx249_2
                replace hx249_3:=yC HB.out hx249_3
                have HR249_3:=yA hi249_3
                have HC249_3:=yA hl249_3
                clear hi249_3 hl249_3
                replace p249:=eq_true p249
                replace q249:=eq_true q249
                go_upto_region 7 with (first|((with_reducible refine Aq (N:=4) rfl ?_); (try (refine BC (by rfl) ?_; dsimp only)); refine Av ?hg (N:=4) ?hd (cs:= #[.string (⟨#[]⟩:ByteArray),.int .i64 0,.int .i64 0,.slice none 0 0]) (t:=42) ?hr ?_; (case hd=>rfl); (case hg=>rfl); (case hr=>first|(go_simp; done)|(go_simp; rfl)); intro gb250 hg w14 hbox hb; have n0_:=yA (AP (g:=gb248) (o:= .cells #[.int .i64 A8,.slice (some ad249) l0_1.length c0_1] 24 (0,0)) zB9 hb); have n1_:=yA (AO zB3 hb); have n2_:=yA (hbox); have n3_:=yA ((by rw [hg]; exact (AQ zB3):w.heap.size≤gb250)); have n4_:=yA ((by rw [hg]; exact (AQ zB3):w.heap.size≤gb250)); have n5_:=yA ((by rw [hg]; exact Nat.ne_of_lt (B8 (g:=gb248) (o:= .cells #[.int .i64 A8,.slice (some ad249) l0_1.length c0_1] 24 (0,0)) zB9):gb248≠gb250)); have n6_:=yA ((by rw [hg]; exact Nat.ne_of_gt (B8 (g:=gb248) (o:= .cells #[.int .i64 A8,.slice (some ad249) l0_1.length c0_1] 24 (0,0)) zB9):gb250≠gb248)); clear BK248; clear HB; have BK248:=n0_; have HB:=n1_; have BK250:=n2_; have GW250:=n3_; have GE250:=n4_; have NB248_250:=n5_; have NB250_248:=n6_; clear n0_ n1_ n2_ n3_ n4_ n5_ n6_; clear hb hbox hg; have hnb15:=NB250_248.out; have hnc15:=NB248_250.out; have hcz16_0:w14.cell? ⟨gb250,0,none⟩=some (.string (⟨#[]⟩:ByteArray)):=(AK BK250.out 0).trans rfl; have hcz16_1:w14.cell? ⟨gb250,1,none⟩=some (.int .i64 0):=(AK BK250.out 1).trans rfl; have hcz16_2:w14.cell? ⟨gb250,2,none⟩=some (.int .i64 0):=(AK BK250.out 2).trans rfl; have hcz16_3:w14.cell? ⟨gb250,3,none⟩=some (.slice none 0 0):=(AK BK250.out 3).trans rfl; have hfz16_0:=AJ BK250.out 0; have hfz16_1:=AJ BK250.out 1; have hfz16_2:=AJ BK250.out 2; have hfz16_3:=AJ BK250.out 3))
                repeat (go_quiet (first|((with_reducible refine Aq (N:=4) rfl ?_); (try (refine BC (by rfl) ?_; dsimp only)); refine Av ?hg (N:=4) ?hd (cs:= #[.string (⟨#[]⟩:ByteArray),.int .i64 0,.int .i64 0,.slice none 0 0]) (t:=42) ?hr ?_; (case hd=>rfl); (case hg=>rfl); (case hr=>first|(go_simp; done)|(go_simp; rfl)); intro gb250 hg w14 hbox hb; have n0_:=yA (AP (g:=gb248) (o:= .cells #[.int .i64 A8,.slice (some ad249) l0_1.length c0_1] 24 (0,0)) zB9 hb); have n1_:=yA (AO zB3 hb); have n2_:=yA (hbox); have n3_:=yA ((by rw [hg]; exact (AQ zB3):w.heap.size≤gb250)); have n4_:=yA ((by rw [hg]; exact (AQ zB3):w.heap.size≤gb250)); have n5_:=yA ((by rw [hg]; exact Nat.ne_of_lt (B8 (g:=gb248) (o:= .cells #[.int .i64 A8,.slice (some ad249) l0_1.length c0_1] 24 (0,0)) zB9):gb248≠gb250)); have n6_:=yA ((by rw [hg]; exact Nat.ne_of_gt (B8 (g:=gb248) (o:= .cells #[.int .i64 A8,.slice (some ad249) l0_1.length c0_1] 24 (0,0)) zB9):gb250≠gb248)); clear BK248; clear HB; have BK248:=n0_; have HB:=n1_; have BK250:=n2_; have GW250:=n3_; have GE250:=n4_; have NB248_250:=n5_; have NB250_248:=n6_; clear n0_ n1_ n2_ n3_ n4_ n5_ n6_; clear hb hbox hg; have hnb15:=NB250_248.out; have hnc15:=NB248_250.out; have hcz16_0:w14.cell? ⟨gb250,0,none⟩=some (.string (⟨#[]⟩:ByteArray)):=(AK BK250.out 0).trans rfl; have hcz16_1:w14.cell? ⟨gb250,1,none⟩=some (.int .i64 0):=(AK BK250.out 1).trans rfl; have hcz16_2:w14.cell? ⟨gb250,2,none⟩=some (.int .i64 0):=(AK BK250.out 2).trans rfl; have hcz16_3:w14.cell? ⟨gb250,3,none⟩=some (.slice none 0 0):=(AK BK250.out 3).trans rfl; have hfz16_0:=AJ BK250.out 0; have hfz16_1:=AJ BK250.out 1; have hfz16_2:=AJ BK250.out 2; have hfz16_3:=AJ BK250.out 3)); go_upto_region 7 with (first|((with_reducible refine Aq (N:=4) rfl ?_); (try (refine BC (by rfl) ?_; dsimp only)); refine Av ?hg (N:=4) ?hd (cs:= #[.string (⟨#[]⟩:ByteArray),.int .i64 0,.int .i64 0,.slice none 0 0]) (t:=42) ?hr ?_; (case hd=>rfl); (case hg=>rfl); (case hr=>first|(go_simp; done)|(go_simp; rfl)); intro gb250 hg w14 hbox hb; have n0_:=yA (AP (g:=gb248) (o:= .cells #[.int .i64 A8,.slice (some ad249) l0_1.length c0_1] 24 (0,0)) zB9 hb); have n1_:=yA (AO zB3 hb); have n2_:=yA (hbox); have n3_:=yA ((by rw [hg]; exact (AQ zB3):w.heap.size≤gb250)); have n4_:=yA ((by rw [hg]; exact (AQ zB3):w.heap.size≤gb250)); have n5_:=yA ((by rw [hg]; exact Nat.ne_of_lt (B8 (g:=gb248) (o:= .cells #[.int .i64 A8,.slice (some ad249) l0_1.length c0_1] 24 (0,0)) zB9):gb248≠gb250)); have n6_:=yA ((by rw [hg]; exact Nat.ne_of_gt (B8 (g:=gb248) (o:= .cells #[.int .i64 A8,.slice (some ad249) l0_1.length c0_1] 24 (0,0)) zB9):gb250≠gb248)); clear BK248; clear HB; have BK248:=n0_; have HB:=n1_; have BK250:=n2_; have GW250:=n3_; have GE250:=n4_; have NB248_250:=n5_; have NB250_248:=n6_; clear n0_ n1_ n2_ n3_ n4_ n5_ n6_; clear hb hbox hg; have hnb15:=NB250_248.out; have hnc15:=NB248_250.out; have hcz16_0:w14.cell? ⟨gb250,0,none⟩=some (.string (⟨#[]⟩:ByteArray)):=(AK BK250.out 0).trans rfl; have hcz16_1:w14.cell? ⟨gb250,1,none⟩=some (.int .i64 0):=(AK BK250.out 1).trans rfl; have hcz16_2:w14.cell? ⟨gb250,2,none⟩=some (.int .i64 0):=(AK BK250.out 2).trans rfl; have hcz16_3:w14.cell? ⟨gb250,3,none⟩=some (.slice none 0 0):=(AK BK250.out 3).trans rfl; have hfz16_0:=AJ BK250.out 0; have hfz16_1:=AJ BK250.out 1; have hfz16_2:=AJ BK250.out 2; have hfz16_3:=AJ BK250.out 3)))
                (try simp only [Act.put,List.setIfInBounds_toArray,List.set_cons_zero,List.set_cons_succ])
                go_cut [56] (fun v56 wc=>∃(kq:Nat) (x56_11:Bool),v56= .bool x56_11∧Aside0 (AS.j2 kq x3_2 x56_11 A8 l0_1 ((AL l0_1 x3_2).f0) ((AL l0_1 x3_2).f1) ((AL l0_1 x3_2).f2) ((AL l0_1 x3_2).f3)=some r)∧Aside0 (kq≤k2)∧Aside0 (wc.heap[gb248]? =some (.cells #[.int .i64 A8,(.slice (some ad249) l0_1.length c0_1)] 24 (0,0)))∧Aside0 (wc.heap[gb250]? =some (.cells #[.string ((AL l0_1 x3_2).f0),.int .i64 ((AL l0_1 x3_2).f1),.int .i64 ((AL l0_1 x3_2).f2),(.slice A249_3 ((AL l0_1 x3_2).f3).length c249_3)] 42 (0,0)))∧Aside0 (Below w.heap.size w wc))
                case first=>
                  have H:=HC12.out
                  clear HC12
                  replace H:=Option.bind_eq_some_iff.mp H
                  obtain ⟨t251,A170,H⟩:=H
                  replace H:(if t251=true then (if ((AL l0_1 x3_2).f1)<1 then (AS.j2 k2 x3_2 true A8 l0_1 ((AL l0_1 x3_2).f0) ((AL l0_1 x3_2).f1) ((AL l0_1 x3_2).f2) ((AL l0_1 x3_2).f3)) else (if ((AL l0_1 x3_2).f1)>10000 then (AS.j2 k2 x3_2 true A8 l0_1 ((AL l0_1 x3_2).f0) ((AL l0_1 x3_2).f1) ((AL l0_1 x3_2).f2) ((AL l0_1 x3_2).f3)) else (if ((AL l0_1 x3_2).f2)<0 then (AS.j2 k2 x3_2 true A8 l0_1 ((AL l0_1 x3_2).f0) ((AL l0_1 x3_2).f1) ((AL l0_1 x3_2).f2) ((AL l0_1 x3_2).f3)) else (AS.j2 k2 x3_2 (decide (((AL l0_1 x3_2).f2)>1000000)) A8 l0_1 ((AL l0_1 x3_2).f0) ((AL l0_1 x3_2).f1) ((AL l0_1 x3_2).f2) ((AL l0_1 x3_2).f3))))) else (AS.j2 k2 x3_2 true A8 l0_1 ((AL l0_1 x3_2).f0) ((AL l0_1 x3_2).f1) ((AL l0_1 x3_2).f2) ((AL l0_1 x3_2).f3)))=some r:=H
                  have A17:=yA A170
                  clear A170
                  by_cases c18:t251=true
                  · subst c18
                    have H1:(if ((AL l0_1 x3_2).f1)<1 then (AS.j2 k2 x3_2 true A8 l0_1 ((AL l0_1 x3_2).f0) ((AL l0_1 x3_2).f1) ((AL l0_1 x3_2).f2) ((AL l0_1 x3_2).f3)) else (if ((AL l0_1 x3_2).f1)>10000 then (AS.j2 k2 x3_2 true A8 l0_1 ((AL l0_1 x3_2).f0) ((AL l0_1 x3_2).f1) ((AL l0_1 x3_2).f2) ((AL l0_1 x3_2).f3)) else (if ((AL l0_1 x3_2).f2)<0 then (AS.j2 k2 x3_2 true A8 l0_1 ((AL l0_1 x3_2).f0) ((AL l0_1 x3_2).f1) ((AL l0_1 x3_2).f2) ((AL l0_1 x3_2).f3)) else (AS.j2 k2 x3_2 (decide (((AL l0_1 x3_2).f2)>1000000)) A8 l0_1 ((AL l0_1 x3_2).f0) ((AL l0_1 x3_2).f1) ((AL l0_1 x3_2).f2) ((AL l0_1 x3_2).f3)))))=some r:=by rw [if_pos rfl] at H; exact H
                    clear H
                    have H:=H1
                    clear H1
                    by_cases c19:((AL l0_1 x3_2).f1)<1
                    · rw [if_pos c19] at H
                      have c19b0:decide (((AL l0_1 x3_2).f1)<1)=true:=decide_eq_true c19
                      clear c19
                      (first|rw [c19b0]|(simp only [Aa,Ab]; rw [c19b0])|skip)
                      have H':=yA H
                      clear H
                      have hnb20:=NB250_248.out
                      have hnc20:=NB248_250.out
                      have hcz21_0:w14.cell? ⟨gb250,0,none⟩=some (.string (⟨#[]⟩:ByteArray)):=(AK BK250.out 0).trans rfl
                      have hcz21_1:w14.cell? ⟨gb250,1,none⟩=some (.int .i64 0):=(AK BK250.out 1).trans rfl
                      have hcz21_2:w14.cell? ⟨gb250,2,none⟩=some (.int .i64 0):=(AK BK250.out 2).trans rfl
                      have hcz21_3:w14.cell? ⟨gb250,3,none⟩=some (.slice none 0 0):=(AK BK250.out 3).trans rfl
                      have hfz21_0:=AJ BK250.out 0
                      have hfz21_1:=AJ BK250.out 1
                      have hfz21_2:=AJ BK250.out 2
                      have hfz21_3:=AJ BK250.out 3
                      go_wp2_with (first|(go_at_call 55; (with_reducible refine (B9.calls k2 ((AL l0_1 x3_2).f0) true _ A17.out).mono ?_); rintro e w22 ⟨rfl,hb⟩; have n0_:=yA (AP (g:=gb248) (o:= .cells #[.int .i64 A8,.slice (some ad249) l0_1.length c0_1] 24 (0,0)) zF hb); have n1_:=yA (AP (g:=gb250) (o:= .cells #[.string ((AL l0_1 x3_2).f0),.int .i64 ((AL l0_1 x3_2).f1),.int .i64 ((AL l0_1 x3_2).f2),.slice A249_3 ((AL l0_1 x3_2).f3).length c249_3] 42 (0,0)) zC hb); have n2_:=yA (AO zR hb); clear BK248; clear BK250; clear HB; have BK248:=n0_; have BK250:=n1_; have HB:=n2_; clear n0_ n1_ n2_; (try clear hb); (try clear hb2); (try clear hk); (try clear hi); have hcz23_0:w22.cell? ⟨gb250,0,none⟩=some (.string ((AL l0_1 x3_2).f0)):=(AK BK250.out 0).trans rfl; have hcz23_1:w22.cell? ⟨gb250,1,none⟩=some (.int .i64 ((AL l0_1 x3_2).f1)):=(AK BK250.out 1).trans rfl; have hcz23_2:w22.cell? ⟨gb250,2,none⟩=some (.int .i64 ((AL l0_1 x3_2).f2)):=(AK BK250.out 2).trans rfl; have hcz23_3:w22.cell? ⟨gb250,3,none⟩=some (.slice A249_3 ((AL l0_1 x3_2).f3).length c249_3):=(AK BK250.out 3).trans rfl; have hfz23_0:=AJ BK250.out 0; have hfz23_1:=AJ BK250.out 1; have hfz23_2:=AJ BK250.out 2; have hfz23_3:=AJ BK250.out 3))
                      repeat (go_quiet (first|(go_at_call 55; (with_reducible refine (B9.calls k2 ((AL l0_1 x3_2).f0) true _ A17.out).mono ?_); rintro e w22 ⟨rfl,hb⟩; have n0_:=yA (AP (g:=gb248) (o:= .cells #[.int .i64 A8,.slice (some ad249) l0_1.length c0_1] 24 (0,0)) zF hb); have n1_:=yA (AP (g:=gb250) (o:= .cells #[.string ((AL l0_1 x3_2).f0),.int .i64 ((AL l0_1 x3_2).f1),.int .i64 ((AL l0_1 x3_2).f2),.slice A249_3 ((AL l0_1 x3_2).f3).length c249_3] 42 (0,0)) zC hb); have n2_:=yA (AO zR hb); clear BK248; clear BK250; clear HB; have BK248:=n0_; have BK250:=n1_; have HB:=n2_; clear n0_ n1_ n2_; (try clear hb); (try clear hb2); (try clear hk); (try clear hi); have hcz23_0:w22.cell? ⟨gb250,0,none⟩=some (.string ((AL l0_1 x3_2).f0)):=(AK BK250.out 0).trans rfl; have hcz23_1:w22.cell? ⟨gb250,1,none⟩=some (.int .i64 ((AL l0_1 x3_2).f1)):=(AK BK250.out 1).trans rfl; have hcz23_2:w22.cell? ⟨gb250,2,none⟩=some (.int .i64 ((AL l0_1 x3_2).f2)):=(AK BK250.out 2).trans rfl; have hcz23_3:w22.cell? ⟨gb250,3,none⟩=some (.slice A249_3 ((AL l0_1 x3_2).f3).length c249_3):=(AK BK250.out 3).trans rfl; have hfz23_0:=AJ BK250.out 0; have hfz23_1:=AJ BK250.out 1; have hfz23_2:=AJ BK250.out 2; have hfz23_3:=AJ BK250.out 3; clear A17)); try go_wp2_with (first|(go_at_call 55; (with_reducible refine (B9.calls k2 ((AL l0_1 x3_2).f0) true _ A17.out).mono ?_); rintro e w22 ⟨rfl,hb⟩; have n0_:=yA (AP (g:=gb248) (o:= .cells #[.int .i64 A8,.slice (some ad249) l0_1.length c0_1] 24 (0,0)) zF hb); have n1_:=yA (AP (g:=gb250) (o:= .cells #[.string ((AL l0_1 x3_2).f0),.int .i64 ((AL l0_1 x3_2).f1),.int .i64 ((AL l0_1 x3_2).f2),.slice A249_3 ((AL l0_1 x3_2).f3).length c249_3] 42 (0,0)) zC hb); have n2_:=yA (AO zR hb); clear BK248; clear BK250; clear HB; have BK248:=n0_; have BK250:=n1_; have HB:=n2_; clear n0_ n1_ n2_; (try clear hb); (try clear hb2); (try clear hk); (try clear hi); have hcz23_0:w22.cell? ⟨gb250,0,none⟩=some (.string ((AL l0_1 x3_2).f0)):=(AK BK250.out 0).trans rfl; have hcz23_1:w22.cell? ⟨gb250,1,none⟩=some (.int .i64 ((AL l0_1 x3_2).f1)):=(AK BK250.out 1).trans rfl; have hcz23_2:w22.cell? ⟨gb250,2,none⟩=some (.int .i64 ((AL l0_1 x3_2).f2)):=(AK BK250.out 2).trans rfl; have hcz23_3:w22.cell? ⟨gb250,3,none⟩=some (.slice A249_3 ((AL l0_1 x3_2).f3).length c249_3):=(AK BK250.out 3).trans rfl; have hfz23_0:=AJ BK250.out 0; have hfz23_1:=AJ BK250.out 1; have hfz23_2:=AJ BK250.out 2; have hfz23_3:=AJ BK250.out 3; clear A17)))
                      go_meet
                      case rel=>exact ⟨_,(true),zH,H',⟨by have:=HJ1.out; have:=HK2.out; first|omega|exact Nat.le_refl _⟩,⟨by (with_reducible repeat (first|refine AF ?_ _|refine AH ?_|refine AG ?_ _)); exact BK248.out⟩,⟨by (with_reducible repeat (first|refine AF ?_ _|refine AH ?_|refine AG ?_ _)); exact BK250.out⟩,⟨by repeat (first|(with_reducible first|exact HB.out|apply AE|apply AC|apply AD|refine AI ?_ GE248.out|refine AI ?_ GE250.out)|exact HB.out)⟩⟩
                    · rw [if_neg c19] at H
                      have c19b0:decide (((AL l0_1 x3_2).f1)<1)=false:=decide_eq_false c19
                      clear c19
                      (first|rw [c19b0]|(simp only [Aa,Ab]; rw [c19b0])|skip)
                      by_cases c24:((AL l0_1 x3_2).f1)>10000
                      · rw [if_pos c24] at H
                        have c24b0:decide (10000<((AL l0_1 x3_2).f1))=true:=decide_eq_true c24
                        clear c24
                        have H':=yA H
                        clear H
                        have hnb25:=NB250_248.out
                        have hnc25:=NB248_250.out
                        have hcz26_0:w14.cell? ⟨gb250,0,none⟩=some (.string (⟨#[]⟩:ByteArray)):=(AK BK250.out 0).trans rfl
                        have hcz26_1:w14.cell? ⟨gb250,1,none⟩=some (.int .i64 0):=(AK BK250.out 1).trans rfl
                        have hcz26_2:w14.cell? ⟨gb250,2,none⟩=some (.int .i64 0):=(AK BK250.out 2).trans rfl
                        have hcz26_3:w14.cell? ⟨gb250,3,none⟩=some (.slice none 0 0):=(AK BK250.out 3).trans rfl
                        have hfz26_0:=AJ BK250.out 0
                        have hfz26_1:=AJ BK250.out 1
                        have hfz26_2:=AJ BK250.out 2
                        have hfz26_3:=AJ BK250.out 3
                        go_wp2_with (first|(go_at_call 55; (with_reducible refine (B9.calls k2 ((AL l0_1 x3_2).f0) true _ A17.out).mono ?_); rintro e w27 ⟨rfl,hb⟩; have n0_:=yA (AP (g:=gb248) (o:= .cells #[.int .i64 A8,.slice (some ad249) l0_1.length c0_1] 24 (0,0)) zF hb); have n1_:=yA (AP (g:=gb250) (o:= .cells #[.string ((AL l0_1 x3_2).f0),.int .i64 ((AL l0_1 x3_2).f1),.int .i64 ((AL l0_1 x3_2).f2),.slice A249_3 ((AL l0_1 x3_2).f3).length c249_3] 42 (0,0)) zC hb); have n2_:=yA (AO zR hb); clear BK248; clear BK250; clear HB; have BK248:=n0_; have BK250:=n1_; have HB:=n2_; clear n0_ n1_ n2_; (try clear hb); (try clear hb2); (try clear hk); (try clear hi); have hcz28_0:w27.cell? ⟨gb250,0,none⟩=some (.string ((AL l0_1 x3_2).f0)):=(AK BK250.out 0).trans rfl; have hcz28_1:w27.cell? ⟨gb250,1,none⟩=some (.int .i64 ((AL l0_1 x3_2).f1)):=(AK BK250.out 1).trans rfl; have hcz28_2:w27.cell? ⟨gb250,2,none⟩=some (.int .i64 ((AL l0_1 x3_2).f2)):=(AK BK250.out 2).trans rfl; have hcz28_3:w27.cell? ⟨gb250,3,none⟩=some (.slice A249_3 ((AL l0_1 x3_2).f3).length c249_3):=(AK BK250.out 3).trans rfl; have hfz28_0:=AJ BK250.out 0; have hfz28_1:=AJ BK250.out 1; have hfz28_2:=AJ BK250.out 2; have hfz28_3:=AJ BK250.out 3))
                        repeat (go_quiet (first|(go_at_call 55; (with_reducible refine (B9.calls k2 ((AL l0_1 x3_2).f0) true _ A17.out).mono ?_); rintro e w27 ⟨rfl,hb⟩; have n0_:=yA (AP (g:=gb248) (o:= .cells #[.int .i64 A8,.slice (some ad249) l0_1.length c0_1] 24 (0,0)) zF hb); have n1_:=yA (AP (g:=gb250) (o:= .cells #[.string ((AL l0_1 x3_2).f0),.int .i64 ((AL l0_1 x3_2).f1),.int .i64 ((AL l0_1 x3_2).f2),.slice A249_3 ((AL l0_1 x3_2).f3).length c249_3] 42 (0,0)) zC hb); have n2_:=yA (AO zR hb); clear BK248; clear BK250; clear HB; have BK248:=n0_; have BK250:=n1_; have HB:=n2_; clear n0_ n1_ n2_; (try clear hb); (try clear hb2); (try clear hk); (try clear hi); have hcz28_0:w27.cell? ⟨gb250,0,none⟩=some (.string ((AL l0_1 x3_2).f0)):=(AK BK250.out 0).trans rfl; have hcz28_1:w27.cell? ⟨gb250,1,none⟩=some (.int .i64 ((AL l0_1 x3_2).f1)):=(AK BK250.out 1).trans rfl; have hcz28_2:w27.cell? ⟨gb250,2,none⟩=some (.int .i64 ((AL l0_1 x3_2).f2)):=(AK BK250.out 2).trans rfl; have hcz28_3:w27.cell? ⟨gb250,3,none⟩=some (.slice A249_3 ((AL l0_1 x3_2).f3).length c249_3):=(AK BK250.out 3).trans rfl; have hfz28_0:=AJ BK250.out 0; have hfz28_1:=AJ BK250.out 1; have hfz28_2:=AJ BK250.out 2; have hfz28_3:=AJ BK250.out 3; clear A17)); try go_wp2_with (first|(go_at_call 55; (with_reducible refine (B9.calls k2 ((AL l0_1 x3_2).f0) true _ A17.out).mono ?_); rintro e w27 ⟨rfl,hb⟩; have n0_:=yA (AP (g:=gb248) (o:= .cells #[.int .i64 A8,.slice (some ad249) l0_1.length c0_1] 24 (0,0)) zF hb); have n1_:=yA (AP (g:=gb250) (o:= .cells #[.string ((AL l0_1 x3_2).f0),.int .i64 ((AL l0_1 x3_2).f1),.int .i64 ((AL l0_1 x3_2).f2),.slice A249_3 ((AL l0_1 x3_2).f3).length c249_3] 42 (0,0)) zC hb); have n2_:=yA (AO zR hb); clear BK248; clear BK250; clear HB; have BK248:=n0_; have BK250:=n1_; have HB:=n2_; clear n0_ n1_ n2_; (try clear hb); (try clear hb2); (try clear hk); (try clear hi); have hcz28_0:w27.cell? ⟨gb250,0,none⟩=some (.string ((AL l0_1 x3_2).f0)):=(AK BK250.out 0).trans rfl; have hcz28_1:w27.cell? ⟨gb250,1,none⟩=some (.int .i64 ((AL l0_1 x3_2).f1)):=(AK BK250.out 1).trans rfl; have hcz28_2:w27.cell? ⟨gb250,2,none⟩=some (.int .i64 ((AL l0_1 x3_2).f2)):=(AK BK250.out 2).trans rfl; have hcz28_3:w27.cell? ⟨gb250,3,none⟩=some (.slice A249_3 ((AL l0_1 x3_2).f3).length c249_3):=(AK BK250.out 3).trans rfl; have hfz28_0:=AJ BK250.out 0; have hfz28_1:=AJ BK250.out 1; have hfz28_2:=AJ BK250.out 2; have hfz28_3:=AJ BK250.out 3; clear A17)))
                        go_meet
                        case rel=>exact ⟨_,(true),zH,H',⟨by have:=HJ1.out; have:=HK2.out; first|omega|exact Nat.le_refl _⟩,⟨by (with_reducible repeat (first|refine AF ?_ _|refine AH ?_|refine AG ?_ _)); exact BK248.out⟩,⟨by (with_reducible repeat (first|refine AF ?_ _|refine AH ?_|refine AG ?_ _)); exact BK250.out⟩,⟨by repeat (first|(with_reducible first|exact HB.out|apply AE|apply AC|apply AD|refine AI ?_ GE248.out|refine AI ?_ GE250.out)|exact HB.out)⟩⟩
                      · rw [if_neg c24] at H
                        have c24b0:decide (10000<((AL l0_1 x3_2).f1))=false:=decide_eq_false c24
                        clear c24
                        by_cases c29:((AL l0_1 x3_2).f2)<0
                        · rw [if_pos c29] at H
                          have c29b0:decide (((AL l0_1 x3_2).f2)<0)=true:=decide_eq_true c29
                          clear c29
                          have H':=yA H
                          clear H
                          have hnb30:=NB250_248.out
                          have hnc30:=NB248_250.out
                          have hcz31_0:w14.cell? ⟨gb250,0,none⟩=some (.string (⟨#[]⟩:ByteArray)):=(AK BK250.out 0).trans rfl
                          have hcz31_1:w14.cell? ⟨gb250,1,none⟩=some (.int .i64 0):=(AK BK250.out 1).trans rfl
                          have hcz31_2:w14.cell? ⟨gb250,2,none⟩=some (.int .i64 0):=(AK BK250.out 2).trans rfl
                          have hcz31_3:w14.cell? ⟨gb250,3,none⟩=some (.slice none 0 0):=(AK BK250.out 3).trans rfl
                          have hfz31_0:=AJ BK250.out 0
                          have hfz31_1:=AJ BK250.out 1
                          have hfz31_2:=AJ BK250.out 2
                          have hfz31_3:=AJ BK250.out 3
                          go_wp2_with (first|(go_at_call 55; (with_reducible refine (B9.calls k2 ((AL l0_1 x3_2).f0) true _ A17.out).mono ?_); rintro e w32 ⟨rfl,hb⟩; have n0_:=yA (AP (g:=gb248) (o:= .cells #[.int .i64 A8,.slice (some ad249) l0_1.length c0_1] 24 (0,0)) zF hb); have n1_:=yA (AP (g:=gb250) (o:= .cells #[.string ((AL l0_1 x3_2).f0),.int .i64 ((AL l0_1 x3_2).f1),.int .i64 ((AL l0_1 x3_2).f2),.slice A249_3 ((AL l0_1 x3_2).f3).length c249_3] 42 (0,0)) zC hb); have n2_:=yA (AO zR hb); clear BK248; clear BK250; clear HB; have BK248:=n0_; have BK250:=n1_; have HB:=n2_; clear n0_ n1_ n2_; (try clear hb); (try clear hb2); (try clear hk); (try clear hi); have hcz33_0:w32.cell? ⟨gb250,0,none⟩=some (.string ((AL l0_1 x3_2).f0)):=(AK BK250.out 0).trans rfl; have hcz33_1:w32.cell? ⟨gb250,1,none⟩=some (.int .i64 ((AL l0_1 x3_2).f1)):=(AK BK250.out 1).trans rfl; have hcz33_2:w32.cell? ⟨gb250,2,none⟩=some (.int .i64 ((AL l0_1 x3_2).f2)):=(AK BK250.out 2).trans rfl; have hcz33_3:w32.cell? ⟨gb250,3,none⟩=some (.slice A249_3 ((AL l0_1 x3_2).f3).length c249_3):=(AK BK250.out 3).trans rfl; have hfz33_0:=AJ BK250.out 0; have hfz33_1:=AJ BK250.out 1; have hfz33_2:=AJ BK250.out 2; have hfz33_3:=AJ BK250.out 3))
                          repeat (go_quiet (first|(go_at_call 55; (with_reducible refine (B9.calls k2 ((AL l0_1 x3_2).f0) true _ A17.out).mono ?_); rintro e w32 ⟨rfl,hb⟩; have n0_:=yA (AP (g:=gb248) (o:= .cells #[.int .i64 A8,.slice (some ad249) l0_1.length c0_1] 24 (0,0)) zF hb); have n1_:=yA (AP (g:=gb250) (o:= .cells #[.string ((AL l0_1 x3_2).f0),.int .i64 ((AL l0_1 x3_2).f1),.int .i64 ((AL l0_1 x3_2).f2),.slice A249_3 ((AL l0_1 x3_2).f3).length c249_3] 42 (0,0)) zC hb); have n2_:=yA (AO zR hb); clear BK248; clear BK250; clear HB; have BK248:=n0_; have BK250:=n1_; have HB:=n2_; clear n0_ n1_ n2_; (try clear hb); (try clear hb2); (try clear hk); (try clear hi); have hcz33_0:w32.cell? ⟨gb250,0,none⟩=some (.string ((AL l0_1 x3_2).f0)):=(AK BK250.out 0).trans rfl; have hcz33_1:w32.cell? ⟨gb250,1,none⟩=some (.int .i64 ((AL l0_1 x3_2).f1)):=(AK BK250.out 1).trans rfl; have hcz33_2:w32.cell? ⟨gb250,2,none⟩=some (.int .i64 ((AL l0_1 x3_2).f2)):=(AK BK250.out 2).trans rfl; have hcz33_3:w32.cell? ⟨gb250,3,none⟩=some (.slice A249_3 ((AL l0_1 x3_2).f3).length c249_3):=(AK BK250.out 3).trans rfl; have hfz33_0:=AJ BK250.out 0; have hfz33_1:=AJ BK250.out 1; have hfz33_2:=AJ BK250.out 2; have hfz33_3:=AJ BK250.out 3; clear A17)); try go_wp2_with (first|(go_at_call 55; (with_reducible refine (B9.calls k2 ((AL l0_1 x3_2).f0) true _ A17.out).mono ?_); rintro e w32 ⟨rfl,hb⟩; have n0_:=yA (AP (g:=gb248) (o:= .cells #[.int .i64 A8,.slice (some ad249) l0_1.length c0_1] 24 (0,0)) zF hb); have n1_:=yA (AP (g:=gb250) (o:= .cells #[.string ((AL l0_1 x3_2).f0),.int .i64 ((AL l0_1 x3_2).f1),.int .i64 ((AL l0_1 x3_2).f2),.slice A249_3 ((AL l0_1 x3_2).f3).length c249_3] 42 (0,0)) zC hb); have n2_:=yA (AO zR hb); clear BK248; clear BK250; clear HB; have BK248:=n0_; have BK250:=n1_; have HB:=n2_; clear n0_ n1_ n2_; (try clear hb); (try clear hb2); (try clear hk); (try clear hi); have hcz33_0:w32.cell? ⟨gb250,0,none⟩=some (.string ((AL l0_1 x3_2).f0)):=(AK BK250.out 0).trans rfl; have hcz33_1:w32.cell? ⟨gb250,1,none⟩=some (.int .i64 ((AL l0_1 x3_2).f1)):=(AK BK250.out 1).trans rfl; have hcz33_2:w32.cell? ⟨gb250,2,none⟩=some (.int .i64 ((AL l0_1 x3_2).f2)):=(AK BK250.out 2).trans rfl; have hcz33_3:w32.cell? ⟨gb250,3,none⟩=some (.slice A249_3 ((AL l0_1 x3_2).f3).length c249_3):=(AK BK250.out 3).trans rfl; have hfz33_0:=AJ BK250.out 0; have hfz33_1:=AJ BK250.out 1; have hfz33_2:=AJ BK250.out 2; have hfz33_3:=AJ BK250.out 3; clear A17)))
                          go_meet
                          case rel=>exact ⟨_,(true),zH,H',⟨by have:=HJ1.out; have:=HK2.out; first|omega|exact Nat.le_refl _⟩,⟨by (with_reducible repeat (first|refine AF ?_ _|refine AH ?_|refine AG ?_ _)); exact BK248.out⟩,⟨by (with_reducible repeat (first|refine AF ?_ _|refine AH ?_|refine AG ?_ _)); exact BK250.out⟩,⟨by repeat (first|(with_reducible first|exact HB.out|apply AE|apply AC|apply AD|refine AI ?_ GE248.out|refine AI ?_ GE250.out)|exact HB.out)⟩⟩
                        · rw [if_neg c29] at H
                          have c29b0:decide (((AL l0_1 x3_2).f2)<0)=false:=decide_eq_false c29
                          clear c29
                          have H':=yA H
                          clear H
                          have hnb34:=NB250_248.out
                          have hnc34:=NB248_250.out
                          have hcz35_0:w14.cell? ⟨gb250,0,none⟩=some (.string (⟨#[]⟩:ByteArray)):=(AK BK250.out 0).trans rfl
                          have hcz35_1:w14.cell? ⟨gb250,1,none⟩=some (.int .i64 0):=(AK BK250.out 1).trans rfl
                          have hcz35_2:w14.cell? ⟨gb250,2,none⟩=some (.int .i64 0):=(AK BK250.out 2).trans rfl
                          have hcz35_3:w14.cell? ⟨gb250,3,none⟩=some (.slice none 0 0):=(AK BK250.out 3).trans rfl
                          have hfz35_0:=AJ BK250.out 0
                          have hfz35_1:=AJ BK250.out 1
                          have hfz35_2:=AJ BK250.out 2
                          have hfz35_3:=AJ BK250.out 3
                          go_wp2_with (first|(go_at_call 55; (with_reducible refine (B9.calls k2 ((AL l0_1 x3_2).f0) true _ A17.out).mono ?_); rintro e w36 ⟨rfl,hb⟩; have n0_:=yA (AP (g:=gb248) (o:= .cells #[.int .i64 A8,.slice (some ad249) l0_1.length c0_1] 24 (0,0)) zF hb); have n1_:=yA (AP (g:=gb250) (o:= .cells #[.string ((AL l0_1 x3_2).f0),.int .i64 ((AL l0_1 x3_2).f1),.int .i64 ((AL l0_1 x3_2).f2),.slice A249_3 ((AL l0_1 x3_2).f3).length c249_3] 42 (0,0)) zC hb); have n2_:=yA (AO zR hb); clear BK248; clear BK250; clear HB; have BK248:=n0_; have BK250:=n1_; have HB:=n2_; clear n0_ n1_ n2_; (try clear hb); (try clear hb2); (try clear hk); (try clear hi); have hcz37_0:w36.cell? ⟨gb250,0,none⟩=some (.string ((AL l0_1 x3_2).f0)):=(AK BK250.out 0).trans rfl; have hcz37_1:w36.cell? ⟨gb250,1,none⟩=some (.int .i64 ((AL l0_1 x3_2).f1)):=(AK BK250.out 1).trans rfl; have hcz37_2:w36.cell? ⟨gb250,2,none⟩=some (.int .i64 ((AL l0_1 x3_2).f2)):=(AK BK250.out 2).trans rfl; have hcz37_3:w36.cell? ⟨gb250,3,none⟩=some (.slice A249_3 ((AL l0_1 x3_2).f3).length c249_3):=(AK BK250.out 3).trans rfl; have hfz37_0:=AJ BK250.out 0; have hfz37_1:=AJ BK250.out 1; have hfz37_2:=AJ BK250.out 2; have hfz37_3:=AJ BK250.out 3))
                          repeat (go_quiet (first|(go_at_call 55; (with_reducible refine (B9.calls k2 ((AL l0_1 x3_2).f0) true _ A17.out).mono ?_); rintro e w36 ⟨rfl,hb⟩; have n0_:=yA (AP (g:=gb248) (o:= .cells #[.int .i64 A8,.slice (some ad249) l0_1.length c0_1] 24 (0,0)) zF hb); have n1_:=yA (AP (g:=gb250) (o:= .cells #[.string ((AL l0_1 x3_2).f0),.int .i64 ((AL l0_1 x3_2).f1),.int .i64 ((AL l0_1 x3_2).f2),.slice A249_3 ((AL l0_1 x3_2).f3).length c249_3] 42 (0,0)) zC hb); have n2_:=yA (AO zR hb); clear BK248; clear BK250; clear HB; have BK248:=n0_; have BK250:=n1_; have HB:=n2_; clear n0_ n1_ n2_; (try clear hb); (try clear hb2); (try clear hk); (try clear hi); have hcz37_0:w36.cell? ⟨gb250,0,none⟩=some (.string ((AL l0_1 x3_2).f0)):=(AK BK250.out 0).trans rfl; have hcz37_1:w36.cell? ⟨gb250,1,none⟩=some (.int .i64 ((AL l0_1 x3_2).f1)):=(AK BK250.out 1).trans rfl; have hcz37_2:w36.cell? ⟨gb250,2,none⟩=some (.int .i64 ((AL l0_1 x3_2).f2)):=(AK BK250.out 2).trans rfl; have hcz37_3:w36.cell? ⟨gb250,3,none⟩=some (.slice A249_3 ((AL l0_1 x3_2).f3).length c249_3):=(AK BK250.out 3).trans rfl; have hfz37_0:=AJ BK250.out 0; have hfz37_1:=AJ BK250.out 1; have hfz37_2:=AJ BK250.out 2; have hfz37_3:=AJ BK250.out 3; clear A17)); try go_wp2_with (first|(go_at_call 55; (with_reducible refine (B9.calls k2 ((AL l0_1 x3_2).f0) true _ A17.out).mono ?_); rintro e w36 ⟨rfl,hb⟩; have n0_:=yA (AP (g:=gb248) (o:= .cells #[.int .i64 A8,.slice (some ad249) l0_1.length c0_1] 24 (0,0)) zF hb); have n1_:=yA (AP (g:=gb250) (o:= .cells #[.string ((AL l0_1 x3_2).f0),.int .i64 ((AL l0_1 x3_2).f1),.int .i64 ((AL l0_1 x3_2).f2),.slice A249_3 ((AL l0_1 x3_2).f3).length c249_3] 42 (0,0)) zC hb); have n2_:=yA (AO zR hb); clear BK248; clear BK250; clear HB; have BK248:=n0_; have BK250:=n1_; have HB:=n2_; clear n0_ n1_ n2_; (try clear hb); (try clear hb2); (try clear hk); (try clear hi); have hcz37_0:w36.cell? ⟨gb250,0,none⟩=some (.string ((AL l0_1 x3_2).f0)):=(AK BK250.out 0).trans rfl; have hcz37_1:w36.cell? ⟨gb250,1,none⟩=some (.int .i64 ((AL l0_1 x3_2).f1)):=(AK BK250.out 1).trans rfl; have hcz37_2:w36.cell? ⟨gb250,2,none⟩=some (.int .i64 ((AL l0_1 x3_2).f2)):=(AK BK250.out 2).trans rfl; have hcz37_3:w36.cell? ⟨gb250,3,none⟩=some (.slice A249_3 ((AL l0_1 x3_2).f3).length c249_3):=(AK BK250.out 3).trans rfl; have hfz37_0:=AJ BK250.out 0; have hfz37_1:=AJ BK250.out 1; have hfz37_2:=AJ BK250.out 2; have hfz37_3:=AJ BK250.out 3; clear A17)))
                          go_meet
                          case rel=>exact ⟨_,(decide (((AL l0_1 x3_2).f2)>1000000)),zH,H',⟨by have:=HJ1.out; have:=HK2.out; first|omega|exact Nat.le_refl _⟩,⟨by (with_reducible repeat (first|refine AF ?_ _|refine AH ?_|refine AG ?_ _)); exact BK248.out⟩,⟨by (with_reducible repeat (first|refine AF ?_ _|refine AH ?_|refine AG ?_ _)); exact BK250.out⟩,⟨by repeat (first|(with_reducible first|exact HB.out|apply AE|apply AC|apply AD|refine AI ?_ GE248.out|refine AI ?_ GE250.out)|exact HB.out)⟩⟩
                  · replace c18:=Bool.eq_false_iff.mpr c18
                    subst c18
                    have H1:(AS.j2 k2 x3_2 true A8 l0_1 ((AL l0_1 x3_2).f0) ((AL l0_1 x3_2).f1) ((AL l0_1 x3_2).f2) ((AL l0_1 x3_2).f3))=some r:=by rw [if_neg (show ¬(false=true) by decide)] at H; exact H
                    clear H
                    have H:=H1
                    clear H1
                    have H':=yA H
                    clear H
                    have hnb38:=NB250_248.out
                    have hnc38:=NB248_250.out
                    have hcz39_0:w14.cell? ⟨gb250,0,none⟩=some (.string (⟨#[]⟩:ByteArray)):=(AK BK250.out 0).trans rfl
                    have hcz39_1:w14.cell? ⟨gb250,1,none⟩=some (.int .i64 0):=(AK BK250.out 1).trans rfl
                    have hcz39_2:w14.cell? ⟨gb250,2,none⟩=some (.int .i64 0):=(AK BK250.out 2).trans rfl
                    have hcz39_3:w14.cell? ⟨gb250,3,none⟩=some (.slice none 0 0):=(AK BK250.out 3).trans rfl
                    have hfz39_0:=AJ BK250.out 0
                    have hfz39_1:=AJ BK250.out 1
                    have hfz39_2:=AJ BK250.out 2
                    have hfz39_3:=AJ BK250.out 3
                    go_wp2_with (first|(go_at_call 55; (with_reducible refine (B9.calls k2 ((AL l0_1 x3_2).f0) false _ A17.out).mono ?_); rintro e w40 ⟨rfl,hb⟩; have n0_:=yA (AP (g:=gb248) (o:= .cells #[.int .i64 A8,.slice (some ad249) l0_1.length c0_1] 24 (0,0)) zF hb); have n1_:=yA (AP (g:=gb250) (o:= .cells #[.string ((AL l0_1 x3_2).f0),.int .i64 ((AL l0_1 x3_2).f1),.int .i64 ((AL l0_1 x3_2).f2),.slice A249_3 ((AL l0_1 x3_2).f3).length c249_3] 42 (0,0)) zC hb); have n2_:=yA (AO zR hb); clear BK248; clear BK250; clear HB; have BK248:=n0_; have BK250:=n1_; have HB:=n2_; clear n0_ n1_ n2_; (try clear hb); (try clear hb2); (try clear hk); (try clear hi)))
                    repeat (go_quiet (first|(go_at_call 55; (with_reducible refine (B9.calls k2 ((AL l0_1 x3_2).f0) false _ A17.out).mono ?_); rintro e w40 ⟨rfl,hb⟩; have n0_:=yA (AP (g:=gb248) (o:= .cells #[.int .i64 A8,.slice (some ad249) l0_1.length c0_1] 24 (0,0)) zF hb); have n1_:=yA (AP (g:=gb250) (o:= .cells #[.string ((AL l0_1 x3_2).f0),.int .i64 ((AL l0_1 x3_2).f1),.int .i64 ((AL l0_1 x3_2).f2),.slice A249_3 ((AL l0_1 x3_2).f3).length c249_3] 42 (0,0)) zC hb); have n2_:=yA (AO zR hb); clear BK248; clear BK250; clear HB; have BK248:=n0_; have BK250:=n1_; have HB:=n2_; clear n0_ n1_ n2_; (try clear hb); (try clear hb2); (try clear hk); (try clear hi); clear A17)); try go_wp2_with (first|(go_at_call 55; (with_reducible refine (B9.calls k2 ((AL l0_1 x3_2).f0) false _ A17.out).mono ?_); rintro e w40 ⟨rfl,hb⟩; have n0_:=yA (AP (g:=gb248) (o:= .cells #[.int .i64 A8,.slice (some ad249) l0_1.length c0_1] 24 (0,0)) zF hb); have n1_:=yA (AP (g:=gb250) (o:= .cells #[.string ((AL l0_1 x3_2).f0),.int .i64 ((AL l0_1 x3_2).f1),.int .i64 ((AL l0_1 x3_2).f2),.slice A249_3 ((AL l0_1 x3_2).f3).length c249_3] 42 (0,0)) zC hb); have n2_:=yA (AO zR hb); clear BK248; clear BK250; clear HB; have BK248:=n0_; have BK250:=n1_; have HB:=n2_; clear n0_ n1_ n2_; (try clear hb); (try clear hb2); (try clear hk); (try clear hi); clear A17)))
                    go_meet
                    case rel=>exact ⟨_,(true),zH,H',⟨by have:=HJ1.out; have:=HK2.out; first|omega|exact Nat.le_refl _⟩,⟨by (with_reducible repeat (first|refine AF ?_ _|refine AH ?_|refine AG ?_ _)); exact BK248.out⟩,⟨by (with_reducible repeat (first|refine AF ?_ _|refine AH ?_|refine AG ?_ _)); exact BK250.out⟩,⟨by repeat (first|(with_reducible first|exact HB.out|apply AE|apply AC|apply AD|refine AI ?_ GE248.out|refine AI ?_ GE250.out)|exact HB.out)⟩⟩
                case rest =>
                  clear HC12
                  try clear c1
                  try clear c2
                  try clear p2
                  try clear q2
                  try clear hx2
                  try clear c3
                  try clear c4
                  try clear c4b0
                  try clear c6
                  try clear c6b0
                  try clear c9
                  try clear c10
                  try clear c10b0
                  try clear c11
                  try clear c11b0
                  try clear c15
                  try clear c18
                  try clear c19
                  try clear c19b0
                  try clear c20
                  try clear c24
                  try clear c24b0
                  try clear p24
                  try clear q24
                  try clear hx24
                  try clear c25
                  try clear c29
                  try clear c29b0
                  try clear c30
                  try clear c34
                  try clear c36
                  try clear c38
                  try clear hcz13_0
                  try clear hcz13_1
                  try clear hcz16_0
                  try clear hcz16_1
                  try clear hcz16_2
                  try clear hcz16_3
                  try clear hcz21_0
                  try clear hcz21_1
                  try clear hcz21_2
                  try clear hcz21_3
                  try clear hcz23_0
                  try clear hcz23_1
                  try clear hcz23_2
                  try clear hcz23_3
                  try clear hcz26_0
                  try clear hcz26_1
                  try clear hcz26_2
                  try clear hcz26_3
                  try clear hcz28_0
                  try clear hcz28_1
                  try clear hcz28_2
                  try clear hcz28_3
                  try clear hcz31_0
                  try clear hcz31_1
                  try clear hcz31_2
                  try clear hcz31_3
                  try clear hcz33_0
                  try clear hcz33_1
                  try clear hcz33_2
                  try clear hcz33_3
                  try clear hcz35_0
                  try clear hcz35_1
                  try clear hcz35_2
                  try clear hcz35_3
                  try clear hcz37_0
                  try clear hcz37_1
                  try clear hcz37_2
                  try clear hcz37_3
                  try clear hcz39_0
                  try clear hcz39_1
                  try clear hcz39_2
                  try clear hcz39_3
                  try clear hcz5_0
                  try clear hcz5_1
                  try clear hcz7_0
                  try clear hcz7_1
                  try clear hcz8_0
                  try clear hcz8_1
                  try clear hfz13_0
                  try clear hfz13_1
                  try clear hfz16_0
                  try clear hfz16_1
                  try clear hfz16_2
                  try clear hfz16_3
                  try clear hfz21_0
                  try clear hfz21_1
                  try clear hfz21_2
                  try clear hfz21_3
                  try clear hfz23_0
                  try clear hfz23_1
                  try clear hfz23_2
                  try clear hfz23_3
                  try clear hfz26_0
                  try clear hfz26_1
                  try clear hfz26_2
                  try clear hfz26_3
                  try clear hfz28_0
                  try clear hfz28_1
                  try clear hfz28_2
                  try clear hfz28_3
                  try clear hfz31_0
                  try clear hfz31_1
                  try clear hfz31_2
                  try clear hfz31_3
                  try clear hfz33_0
                  try clear hfz33_1
                  try clear hfz33_2
                  try clear hfz33_3
                  try clear hfz35_0
                  try clear hfz35_1
                  try clear hfz35_2
                  try clear hfz35_3
                  try clear hfz37_0
                  try clear hfz37_1
                  try clear hfz37_2
                  try clear hfz37_3
                  try clear hfz39_0
                  try clear hfz39_1
                  try clear hfz39_2
                  try clear hfz39_3
                  try clear hfz5_0
                  try clear hfz5_1
                  try clear hfz7_0
                  try clear hfz7_1
                  try clear hfz8_0
                  try clear hfz8_1
                  try clear hx249_0
                  try clear hx249_1
                  try clear hx249_2
                  try clear hx249_3
                  try clear p2
                  try clear p249
                  try clear q249
                  obtain ⟨kq,x56_11,rfl,HA,HJ11,BK248,BK250,HB⟩:=hcut
                  cases kq with
                  |zero=>exact absurd HA.out (by simp [AS.j2])
                  | succ kj11 =>
                    have H:=HA.out
                    clear HA
                    simp only [AS.j2] at H
                    by_cases c41:x56_11=true
                    · subst c41
                      have H1:(some false)=some r:=by rw [if_pos rfl] at H; exact H
                      clear H
                      have H:=H1
                      clear H1
                      obtain rfl:=Option.some.inj H
                      go_wp2
                      repeat (go_quiet (fail); try go_wp2)
                      go_ret
                      exact ⟨by first|rfl|(simp [AY,AX]<;>rfl)|(simp [*,AY,AX]<;>rfl),by repeat (first|(with_reducible first|exact HB.out|apply AE|apply AC|apply AD|refine AI ?_ GE248.out|refine AI ?_ GE250.out)|exact HB.out)⟩
                    · replace c41 :=Bool.eq_false_iff.mpr c41
                      subst c41
                      have H1:(AS.l1 kj11 x3_2 0 A8 l0_1 ((AL l0_1 x3_2).f0) ((AL l0_1 x3_2).f1) ((AL l0_1 x3_2).f2) ((AL l0_1 x3_2).f3))=some r:=by rw [if_neg (show ¬(false=true) by decide)] at H; exact H
                      clear H
                      have H:=H1
                      clear H1
                      have H':=yA H
                      clear H
                      go_wp2
                      repeat (go_quiet (fail); try go_wp2)
                      go_loopg [5] kj11 (fun kq v5 w'=>∃(x5_4:Int),v5= .int .i64 x5_4∧Aside0 (AS.l1 kq x3_2 x5_4 A8 l0_1 ((AL l0_1 x3_2).f0) ((AL l0_1 x3_2).f1) ((AL l0_1 x3_2).f2) ((AL l0_1 x3_2).f3)=some r)∧Aside0 (kq≤kj11)∧Aside0 (w'.heap[gb248]? =some (.cells #[.int .i64 A8,(.slice (some ad249) l0_1.length c0_1)] 24 (0,0)))∧Aside0 (w'.heap[gb250]? =some (.cells #[.string ((AL l0_1 x3_2).f0),.int .i64 ((AL l0_1 x3_2).f1),.int .i64 ((AL l0_1 x3_2).f2),(.slice A249_3 ((AL l0_1 x3_2).f3).length c249_3)] 42 (0,0)))∧Aside0 (Below w.heap.size w w'))
                      case atStart=>exact ⟨(0),zH,H',⟨Nat.le_refl _⟩,⟨by (with_reducible repeat (first|refine AF ?_ _|refine AH ?_|refine AG ?_ _)); exact BK248.out⟩,⟨by (with_reducible repeat (first|refine AF ?_ _|refine AH ?_|refine AG ?_ _)); exact BK250.out⟩,⟨by repeat (first|(with_reducible first|exact HB.out|apply AE|apply AC|apply AD|refine AI ?_ GE248.out|refine AI ?_ GE250.out)|exact HB.out)⟩⟩
                      case round=>
                        clear H'
                        try clear c1
                        try clear c2
                        try clear p2
                        try clear q2
                        try clear hx2
                        try clear c3
                        try clear c4
                        try clear c4b0
                        try clear c6
                        try clear c6b0
                        try clear c9
                        try clear c10
                        try clear c10b0
                        try clear c11
                        try clear c11b0
                        try clear c15
                        try clear c18
                        try clear c19
                        try clear c19b0
                        try clear c20
                        try clear c24
                        try clear c24b0
                        try clear p24
                        try clear q24
                        try clear hx24
                        try clear c25
                        try clear c29
                        try clear c29b0
                        try clear c30
                        try clear c34
                        try clear c36
                        try clear c38
                        try clear c41
                        try clear hcz13_0
                        try clear hcz13_1
                        try clear hcz16_0
                        try clear hcz16_1
                        try clear hcz16_2
                        try clear hcz16_3
                        try clear hcz21_0
                        try clear hcz21_1
                        try clear hcz21_2
                        try clear hcz21_3
                        try clear hcz23_0
                        try clear hcz23_1
                        try clear hcz23_2
                        try clear hcz23_3
                        try clear hcz26_0
                        try clear hcz26_1
                        try clear hcz26_2
                        try clear hcz26_3
                        try clear hcz28_0
                        try clear hcz28_1
                        try clear hcz28_2
                        try clear hcz28_3
                        try clear hcz31_0
                        try clear hcz31_1
                        try clear hcz31_2
                        try clear hcz31_3
                        try clear hcz33_0
                        try clear hcz33_1
                        try clear hcz33_2
                        try clear hcz33_3
                        try clear hcz35_0
                        try clear hcz35_1
                        try clear hcz35_2
                        try clear hcz35_3
                        try clear hcz37_0
                        try clear hcz37_1
                        try clear hcz37_2
                        try clear hcz37_3
                        try clear hcz39_0
                        try clear hcz39_1
                        try clear hcz39_2
                        try clear hcz39_3
                        try clear hcz5_0
                        try clear hcz5_1
                        try clear hcz7_0
                        try clear hcz7_1
                        try clear hcz8_0
                        try clear hcz8_1
                        try clear hfz13_0
                        try clear hfz13_1
                        try clear hfz16_0
                        try clear hfz16_1
                        try clear hfz16_2
                        try clear hfz16_3
                        try clear hfz21_0
                        try clear hfz21_1
                        try clear hfz21_2
                        try clear hfz21_3
                        try clear hfz23_0
                        try clear hfz23_1
                        try clear hfz23_2
                        try clear hfz23_3
                        try clear hfz26_0
                        try clear hfz26_1
                        try clear hfz26_2
                        try clear hfz26_3
                        try clear hfz28_0
                        try clear hfz28_1
                        try clear hfz28_2
                        try clear hfz28_3
                        try clear hfz31_0
                        try clear hfz31_1
                        try clear hfz31_2
                        try clear hfz31_3
                        try clear hfz33_0
                        try clear hfz33_1
                        try clear hfz33_2
                        try clear hfz33_3
                        try clear hfz35_0
                        try clear hfz35_1
                        try clear hfz35_2
                        try clear hfz35_3
                        try clear hfz37_0
                        try clear hfz37_1
                        try clear hfz37_2
                        try clear hfz37_3
                        try clear hfz39_0
                        try clear hfz39_1
                        try clear hfz39_2
                        try clear hfz39_3
                        try clear hfz5_0
                        try clear hfz5_1
                        try clear hfz7_0
                        try clear hfz7_1
                        try clear hfz8_0
                        try clear hfz8_1
                        try clear hx249_0
                        try clear hx249_1
                        try clear hx249_2
                        try clear hx249_3
                        try clear p2
                        try clear p24
                        try clear p249
                        try clear q2
                        try clear q24
                        try clear q249
                        obtain ⟨x5_4,rfl,HA,HK4,BK248,BK250,HB⟩:=hrel
                        cases gk with
                        |zero=>exact absurd HA.out (by simp [AS.l1])
                        | succ k4 =>
                          have H:=HA.out
                          clear HA
                          simp only [AS.l1] at H
                          by_cases c42:x5_4<x3_2
                          · rw [if_pos c42] at H
                            have c42b0:decide (x5_4<x3_2)=true:=decide_eq_true c42
                            clear c42
                            by_cases c43:0≤x5_4
                            · rw [if_pos c43] at H
                              have c43b0:decide (0≤x5_4)=true:=decide_eq_true c43
                              clear c43
                              by_cases c44:x5_4<(l0_1.length:Int)
                              · rw [if_pos c44] at H
                                have c44b0:decide (x5_4<(l0_1.length:Int))=true:=decide_eq_true c44
                                clear c44
                                by_cases c45:((AL l0_1 x5_4).f0).toList=((AL l0_1 x3_2).f0).toList
                                · rw [if_pos c45] at H
                                  have c45b0:(((AL l0_1 x5_4).f0).toList==((AL l0_1 x3_2).f0).toList)=true:=beq_iff_eq.mpr c45
                                  have c45b1:(((AL l0_1 x5_4).f0).toList !=((AL l0_1 x3_2).f0).toList)=false:=bne_eq_false_iff_eq.mpr c45
                                  clear c45
                                  obtain rfl:=Option.some.inj H
                                  have hnb46:=NB248_250.out
                                  have hnc46:=NB250_248.out
                                  have hcz47_0:wr.cell? ⟨gb248,0,none⟩=some (.int .i64 A8):=(AK BK248.out 0).trans rfl
                                  have hcz47_1:wr.cell? ⟨gb248,1,none⟩=some (.slice (some ad249) l0_1.length c0_1):=(AK BK248.out 1).trans rfl
                                  have hfz47_0:=AJ BK248.out 0
                                  have hfz47_1:=AJ BK248.out 1
                                  have p252:0≤(x5_4:Int):=yD
                                  have q252:x5_4<(l0_1.length:Int):=yD
                                  obtain ⟨ad252,A252_3,c252_3,e252,hx252_0,hx252_1,hx252_2,hx252_3,hl252_3,hi252_3⟩:=BZ HR0_1.out x5_4 p252 q252
                                  obtain rfl:ad249=ad252:=(by injection e252)
                                  replace hx252_0:=yC HB.out hx252_0
                                  replace hx252_1:=yC HB.out hx252_1
                                  replace hx252_2:=yC HB.out hx252_2
                                  replace hx252_3:=yC HB.out hx252_3
                                  have HR252_3:=yA hi252_3
                                  have HC252_3:=yA hl252_3
                                  clear hi252_3 hl252_3
                                  replace p252:=eq_true p252
                                  replace q252:=eq_true q252
                                  have hcz48_0:wr.cell? ⟨gb250,0,none⟩=some (.string ((AL l0_1 x3_2).f0)):=(AK BK250.out 0).trans rfl
                                  have hcz48_1:wr.cell? ⟨gb250,1,none⟩=some (.int .i64 ((AL l0_1 x3_2).f1)):=(AK BK250.out 1).trans rfl
                                  have hcz48_2:wr.cell? ⟨gb250,2,none⟩=some (.int .i64 ((AL l0_1 x3_2).f2)):=(AK BK250.out 2).trans rfl
                                  have hcz48_3:wr.cell? ⟨gb250,3,none⟩=some (.slice A249_3 ((AL l0_1 x3_2).f3).length c249_3):=(AK BK250.out 3).trans rfl
                                  have hfz48_0:=AJ BK250.out 0
                                  have hfz48_1:=AJ BK250.out 1
                                  have hfz48_2:=AJ BK250.out 2
                                  have hfz48_3:=AJ BK250.out 3
                                  go_wp2
                                  repeat (go_quiet (fail); try go_wp2)
                                  go_ret
                                  exact ⟨by first|rfl|(simp [AY,AX]<;>rfl)|(simp [*,AY,AX]<;>rfl),by repeat (first|(with_reducible first|exact HB.out|apply AE|apply AC|apply AD|refine AI ?_ GE248.out|refine AI ?_ GE250.out)|exact HB.out)⟩
                                · rw [if_neg c45] at H
                                  have c45b0:(((AL l0_1 x5_4).f0).toList==((AL l0_1 x3_2).f0).toList)=false:=beq_eq_false_iff_ne.mpr c45
                                  have c45b1:(((AL l0_1 x5_4).f0).toList !=((AL l0_1 x3_2).f0).toList)=true:=bne_iff_ne.mpr c45
                                  have H':=yA H
                                  clear H
                                  have hnb49:=NB248_250.out
                                  have hnc49:=NB250_248.out
                                  have hcz50_0:wr.cell? ⟨gb248,0,none⟩=some (.int .i64 A8):=(AK BK248.out 0).trans rfl
                                  have hcz50_1:wr.cell? ⟨gb248,1,none⟩=some (.slice (some ad249) l0_1.length c0_1):=(AK BK248.out 1).trans rfl
                                  have hfz50_0:=AJ BK248.out 0
                                  have hfz50_1:=AJ BK248.out 1
                                  have p252:0≤(x5_4:Int):=yD
                                  have q252:x5_4<(l0_1.length:Int):=yD
                                  obtain ⟨ad252,A252_3,c252_3,e252,hx252_0,hx252_1,hx252_2,hx252_3,hl252_3,hi252_3⟩:=BZ HR0_1.out x5_4 p252 q252
                                  obtain rfl:ad249=ad252:=(by injection e252)
                                  replace hx252_0:=yC HB.out hx252_0
                                  replace hx252_1:=yC HB.out hx252_1
                                  replace hx252_2:=yC HB.out hx252_2
                                  replace hx252_3:=yC HB.out hx252_3
                                  have HR252_3:=yA hi252_3
                                  have HC252_3:=yA hl252_3
                                  clear hi252_3 hl252_3
                                  replace p252:=eq_true p252
                                  replace q252:=eq_true q252
                                  have hcz51_0:wr.cell? ⟨gb250,0,none⟩=some (.string ((AL l0_1 x3_2).f0)):=(AK BK250.out 0).trans rfl
                                  have hcz51_1:wr.cell? ⟨gb250,1,none⟩=some (.int .i64 ((AL l0_1 x3_2).f1)):=(AK BK250.out 1).trans rfl
                                  have hcz51_2:wr.cell? ⟨gb250,2,none⟩=some (.int .i64 ((AL l0_1 x3_2).f2)):=(AK BK250.out 2).trans rfl
                                  have hcz51_3:wr.cell? ⟨gb250,3,none⟩=some (.slice A249_3 ((AL l0_1 x3_2).f3).length c249_3):=(AK BK250.out 3).trans rfl
                                  have hfz51_0:=AJ BK250.out 0
                                  have hfz51_1:=AJ BK250.out 1
                                  have hfz51_2:=AJ BK250.out 2
                                  have hfz51_3:=AJ BK250.out 3
                                  go_wp2
                                  repeat (go_quiet (fail); try go_wp2)
                                  go_roundg k4
                                  case measure=>have:=HJ1.out; have:=HK2.out; have:=HJ11.out; have:=HK4.out; omega
                                  case rel=>exact ⟨(wrap64 (x5_4+1)),zH,H',⟨by have:=HJ1.out; have:=HK2.out; have:=HJ11.out; have:=HK4.out; omega⟩,⟨by (with_reducible repeat (first|refine AF ?_ _|refine AH ?_|refine AG ?_ _)); exact BK248.out⟩,⟨by (with_reducible repeat (first|refine AF ?_ _|refine AH ?_|refine AG ?_ _)); exact BK250.out⟩,⟨by repeat (first|(with_reducible first|exact HB.out|apply AE|apply AC|apply AD|refine AI ?_ GE248.out|refine AI ?_ GE250.out)|exact HB.out)⟩⟩
                              · rw [if_neg c44] at H
                                exact absurd H zA5
                            · rw [if_neg c43] at H
                              exact absurd H zA5
                          · rw [if_neg c42] at H
                            have c42b0:decide (x5_4<x3_2)=false:=decide_eq_false c42
                            clear c42
                            have H':=yA H
                            clear H
                            go_wp2
                            repeat (go_quiet (fail); try go_wp2)
                            go_loopg [6] k4 (fun kq v6 w'=>∃(x6_5:Int),v6= .int .i64 x6_5∧Aside0 (AS.l2 kq x3_2 x6_5 A8 l0_1 ((AL l0_1 x3_2).f0) ((AL l0_1 x3_2).f1) ((AL l0_1 x3_2).f2) ((AL l0_1 x3_2).f3)=some r)∧Aside0 (kq≤k4)∧Aside0 (w'.heap[gb248]? =some (.cells #[.int .i64 A8,(.slice (some ad249) l0_1.length c0_1)] 24 (0,0)))∧Aside0 (w'.heap[gb250]? =some (.cells #[.string ((AL l0_1 x3_2).f0),.int .i64 ((AL l0_1 x3_2).f1),.int .i64 ((AL l0_1 x3_2).f2),(.slice A249_3 ((AL l0_1 x3_2).f3).length c249_3)] 42 (0,0)))∧Aside0 (Below w.heap.size w w'))
                            case atStart=>exact ⟨(0),zH,H',⟨Nat.le_refl _⟩,⟨by (with_reducible repeat (first|refine AF ?_ _|refine AH ?_|refine AG ?_ _)); exact BK248.out⟩,⟨by (with_reducible repeat (first|refine AF ?_ _|refine AH ?_|refine AG ?_ _)); exact BK250.out⟩,⟨by repeat (first|(with_reducible first|exact HB.out|apply AE|apply AC|apply AD|refine AI ?_ GE248.out|refine AI ?_ GE250.out)|exact HB.out)⟩⟩
                            case round=>
                              clear H'
                              try clear c1
                              try clear c2
                              try clear p2
                              try clear q2
                              try clear hx2
                              try clear c3
                              try clear c4
                              try clear c4b0
                              try clear c6
                              try clear c6b0
                              try clear p6
                              try clear c9
                              try clear c10
                              try clear c10b0
                              try clear c11
                              try clear c11b0
                              try clear c15
                              try clear c18
                              try clear c19
                              try clear c19b0
                              try clear c20
                              try clear c24
                              try clear c24b0
                              try clear p24
                              try clear q24
                              try clear hx24
                              try clear c25
                              try clear p25
                              try clear q25
                              try clear hx25
                              try clear c29
                              try clear c29b0
                              try clear c30
                              try clear c34
                              try clear c36
                              try clear c38
                              try clear c41
                              try clear c42
                              try clear c42b0
                              try clear c43
                              try clear c43b0
                              try clear c44
                              try clear c44b0
                              try clear c45
                              try clear c45b0
                              try clear c45b1
                              try clear c46
                              try clear c49
                              try clear hcz13_0
                              try clear hcz13_1
                              try clear hcz16_0
                              try clear hcz16_1
                              try clear hcz16_2
                              try clear hcz16_3
                              try clear hcz21_0
                              try clear hcz21_1
                              try clear hcz21_2
                              try clear hcz21_3
                              try clear hcz23_0
                              try clear hcz23_1
                              try clear hcz23_2
                              try clear hcz23_3
                              try clear hcz26_0
                              try clear hcz26_1
                              try clear hcz26_2
                              try clear hcz26_3
                              try clear hcz28_0
                              try clear hcz28_1
                              try clear hcz28_2
                              try clear hcz28_3
                              try clear hcz31_0
                              try clear hcz31_1
                              try clear hcz31_2
                              try clear hcz31_3
                              try clear hcz33_0
                              try clear hcz33_1
                              try clear hcz33_2
                              try clear hcz33_3
                              try clear hcz35_0
                              try clear hcz35_1
                              try clear hcz35_2
                              try clear hcz35_3
                              try clear hcz37_0
                              try clear hcz37_1
                              try clear hcz37_2
                              try clear hcz37_3
                              try clear hcz39_0
                              try clear hcz39_1
                              try clear hcz39_2
                              try clear hcz39_3
                              try clear hcz47_0
                              try clear hcz47_1
                              try clear hcz48_0
                              try clear hcz48_1
                              try clear hcz48_2
                              try clear hcz48_3
                              try clear hcz50_0
                              try clear hcz50_1
                              try clear hcz51_0
                              try clear hcz51_1
                              try clear hcz51_2
                              try clear hcz51_3
                              try clear hcz5_0
                              try clear hcz5_1
                              try clear hcz7_0
                              try clear hcz7_1
                              try clear hcz8_0
                              try clear hcz8_1
                              try clear hfz13_0
                              try clear hfz13_1
                              try clear hfz16_0
                              try clear hfz16_1
                              try clear hfz16_2
                              try clear hfz16_3
                              try clear hfz21_0
                              try clear hfz21_1
                              try clear hfz21_2
                              try clear hfz21_3
                              try clear hfz23_0
                              try clear hfz23_1
                              try clear hfz23_2
                              try clear hfz23_3
                              try clear hfz26_0
                              try clear hfz26_1
                              try clear hfz26_2
                              try clear hfz26_3
                              try clear hfz28_0
                              try clear hfz28_1
                              try clear hfz28_2
                              try clear hfz28_3
                              try clear hfz31_0
                              try clear hfz31_1
                              try clear hfz31_2
                              try clear hfz31_3
                              try clear hfz33_0
                              try clear hfz33_1
                              try clear hfz33_2
                              try clear hfz33_3
                              try clear hfz35_0
                              try clear hfz35_1
                              try clear hfz35_2
                              try clear hfz35_3
                              try clear hfz37_0
                              try clear hfz37_1
                              try clear hfz37_2
                              try clear hfz37_3
                              try clear hfz39_0
                              try clear hfz39_1
                              try clear hfz39_2
                              try clear hfz39_3
                              try clear hfz47_0
                              try clear hfz47_1
                              try clear hfz48_0
                              try clear hfz48_1
                              try clear hfz48_2
                              try clear hfz48_3
                              try clear hfz50_0
                              try clear hfz50_1
                              try clear hfz51_0
                              try clear hfz51_1
                              try clear hfz51_2
                              try clear hfz51_3
                              try clear hfz5_0
                              try clear hfz5_1
                              try clear hfz7_0
                              try clear hfz7_1
                              try clear hfz8_0
                              try clear hfz8_1
                              try clear hx249_0
                              try clear hx249_1
                              try clear hx249_2
                              try clear hx249_3
                              try clear hx252_0
                              try clear hx252_1
                              try clear hx252_2
                              try clear hx252_3
                              try clear p2
                              try clear p24
                              try clear p249
                              try clear p252
                              try clear q2
                              try clear q24
                              try clear q249
                              try clear q252
                              obtain ⟨x6_5,rfl,HA,HK5,BK248,BK250,HB⟩:=hrel
                              cases gk with
                              |zero=>exact absurd HA.out (by simp [AS.l2])
                              | succ k5 =>
                                have H:=HA.out
                                clear HA
                                simp only [AS.l2] at H
                                by_cases c52:x6_5<(((AL l0_1 x3_2).f3).length:Int)
                                · rw [if_pos c52] at H
                                  have c52b0:decide (x6_5<(((AL l0_1 x3_2).f3).length:Int))=true:=decide_eq_true c52
                                  clear c52
                                  by_cases c53:0≤x6_5
                                  · rw [if_pos c53] at H
                                    have c53b0:decide (0≤x6_5)=true:=decide_eq_true c53
                                    clear c53
                                    by_cases c54:(rd ((AL l0_1 x3_2).f3) x6_5)<0
                                    · rw [if_pos c54] at H
                                      have c54b0:decide ((rd ((AL l0_1 x3_2).f3) x6_5)<0)=true:=decide_eq_true c54
                                      clear c54
                                      obtain rfl:=Option.some.inj H
                                      have hnb55:=NB250_248.out
                                      have hnc55:=NB248_250.out
                                      have hcz56_0:wr.cell? ⟨gb250,0,none⟩=some (.string ((AL l0_1 x3_2).f0)):=(AK BK250.out 0).trans rfl
                                      have hcz56_1:wr.cell? ⟨gb250,1,none⟩=some (.int .i64 ((AL l0_1 x3_2).f1)):=(AK BK250.out 1).trans rfl
                                      have hcz56_2:wr.cell? ⟨gb250,2,none⟩=some (.int .i64 ((AL l0_1 x3_2).f2)):=(AK BK250.out 2).trans rfl
                                      have hcz56_3:wr.cell? ⟨gb250,3,none⟩=some (.slice A249_3 ((AL l0_1 x3_2).f3).length c249_3):=(AK BK250.out 3).trans rfl
                                      have hfz56_0:=AJ BK250.out 0
                                      have hfz56_1:=AJ BK250.out 1
                                      have hfz56_2:=AJ BK250.out 2
                                      have hfz56_3:=AJ BK250.out 3
                                      have p253:0≤(x6_5:Int):=yD
                                      have q253:x6_5<(((AL l0_1 x3_2).f3).length:Int):=yD
                                      obtain ⟨ad253,e253,hx253_0⟩:=Kd.at_int HR249_3.out x6_5 p253 q253
                                      cases e253
                                      replace hx253_0:=yC HB.out hx253_0
                                      replace p253:=eq_true p253
                                      replace q253:=eq_true q253
                                      go_wp2
                                      repeat (go_quiet (fail); try go_wp2)
                                      go_ret
                                      exact ⟨by first|rfl|(simp [AY,AX]<;>rfl)|(simp [*,AY,AX]<;>rfl),by repeat (first|(with_reducible first|exact HB.out|apply AE|apply AC|apply AD|refine AI ?_ GE248.out|refine AI ?_ GE250.out)|exact HB.out)⟩
                                    · rw [if_neg c54] at H
                                      have c54b0:decide ((rd ((AL l0_1 x3_2).f3) x6_5)<0)=false:=decide_eq_false c54
                                      clear c54
                                      by_cases c57:(rd ((AL l0_1 x3_2).f3) x6_5)≥x3_2
                                      · rw [if_pos c57] at H
                                        have c57b0:decide (x3_2≤(rd ((AL l0_1 x3_2).f3) x6_5))=true:=decide_eq_true c57
                                        clear c57
                                        obtain rfl:=Option.some.inj H
                                        have hnb58:=NB250_248.out
                                        have hnc58:=NB248_250.out
                                        have hcz59_0:wr.cell? ⟨gb250,0,none⟩=some (.string ((AL l0_1 x3_2).f0)):=(AK BK250.out 0).trans rfl
                                        have hcz59_1:wr.cell? ⟨gb250,1,none⟩=some (.int .i64 ((AL l0_1 x3_2).f1)):=(AK BK250.out 1).trans rfl
                                        have hcz59_2:wr.cell? ⟨gb250,2,none⟩=some (.int .i64 ((AL l0_1 x3_2).f2)):=(AK BK250.out 2).trans rfl
                                        have hcz59_3:wr.cell? ⟨gb250,3,none⟩=some (.slice A249_3 ((AL l0_1 x3_2).f3).length c249_3):=(AK BK250.out 3).trans rfl
                                        have hfz59_0:=AJ BK250.out 0
                                        have hfz59_1:=AJ BK250.out 1
                                        have hfz59_2:=AJ BK250.out 2
                                        have hfz59_3:=AJ BK250.out 3
                                        have p253:0≤(x6_5:Int):=yD
                                        have q253:x6_5<(((AL l0_1 x3_2).f3).length:Int):=yD
                                        obtain ⟨ad253,e253,hx253_0⟩:=Kd.at_int HR249_3.out x6_5 p253 q253
                                        cases e253
                                        replace hx253_0:=yC HB.out hx253_0
                                        replace p253:=eq_true p253
                                        replace q253:=eq_true q253
                                        have p254:0≤(x6_5:Int):=yD
                                        have q254:x6_5<(((AL l0_1 x3_2).f3).length:Int):=yD
                                        obtain ⟨ad254,e254,hx254_0⟩:=Kd.at_int HR249_3.out x6_5 p254 q254
                                        obtain rfl:ad253=ad254:=(by injection e254)
                                        replace hx254_0:=yC HB.out hx254_0
                                        replace p254:=eq_true p254
                                        replace q254:=eq_true q254
                                        go_wp2
                                        repeat (go_quiet (fail); try go_wp2)
                                        go_ret
                                        exact ⟨by first|rfl|(simp [AY,AX]<;>rfl)|(simp [*,AY,AX]<;>rfl),by repeat (first|(with_reducible first|exact HB.out|apply AE|apply AC|apply AD|refine AI ?_ GE248.out|refine AI ?_ GE250.out)|exact HB.out)⟩
                                      · rw [if_neg c57] at H
                                        have c57b0:decide (x3_2≤(rd ((AL l0_1 x3_2).f3) x6_5))=false:=decide_eq_false c57
                                        clear c57
                                        by_cases c60:x6_5>0
                                        · rw [if_pos c60] at H
                                          have c60b0:decide (0<x6_5)=true:=decide_eq_true c60
                                          clear c60
                                          obtain ⟨ji61,hji61⟩:∃j_:Int,(wrap64 (x6_5-1))=j_:=⟨_,rfl⟩
                                          replace H:(if 0≤(ji61) then (if (ji61)<(((AL l0_1 x3_2).f3).length:Int) then (if (rd ((AL l0_1 x3_2).f3) (ji61))≥(rd ((AL l0_1 x3_2).f3) x6_5) then (some false) else (AS.l2 k5 x3_2 (wrap64 (x6_5+1)) A8 l0_1 ((AL l0_1 x3_2).f0) ((AL l0_1 x3_2).f1) ((AL l0_1 x3_2).f2) ((AL l0_1 x3_2).f3))) else (none)) else (none))=some r:=by first|(rw [hji61] at H; exact H)|(simp only [hji61] at H ⊢; exact H)
                                          have hji61w:(IntKind.i64.wrap (x6_5-1))=ji61:=(Aa _).trans hji61
                                          by_cases c62:0≤(ji61)
                                          · rw [if_pos c62] at H
                                            have c62b0:decide (0≤(ji61))=true:=decide_eq_true c62
                                            clear c62
                                            by_cases c63:(ji61)<(((AL l0_1 x3_2).f3).length:Int)
                                            · rw [if_pos c63] at H
                                              have c63b0:decide ((ji61)<(((AL l0_1 x3_2).f3).length:Int))=true:=decide_eq_true c63
                                              clear c63
                                              by_cases c64:(rd ((AL l0_1 x3_2).f3) (ji61))≥(rd ((AL l0_1 x3_2).f3) x6_5)
                                              · rw [if_pos c64] at H
                                                have c64b0:decide ((rd ((AL l0_1 x3_2).f3) x6_5)≤(rd ((AL l0_1 x3_2).f3) (ji61)))=true:=decide_eq_true c64
                                                clear c64
                                                obtain rfl:=Option.some.inj H
                                                have hnb65:=NB250_248.out
                                                have hnc65:=NB248_250.out
                                                have hcz66_0:wr.cell? ⟨gb250,0,none⟩=some (.string ((AL l0_1 x3_2).f0)):=(AK BK250.out 0).trans rfl
                                                have hcz66_1:wr.cell? ⟨gb250,1,none⟩=some (.int .i64 ((AL l0_1 x3_2).f1)):=(AK BK250.out 1).trans rfl
                                                have hcz66_2:wr.cell? ⟨gb250,2,none⟩=some (.int .i64 ((AL l0_1 x3_2).f2)):=(AK BK250.out 2).trans rfl
                                                have hcz66_3:wr.cell? ⟨gb250,3,none⟩=some (.slice A249_3 ((AL l0_1 x3_2).f3).length c249_3):=(AK BK250.out 3).trans rfl
                                                have hfz66_0:=AJ BK250.out 0
                                                have hfz66_1:=AJ BK250.out 1
                                                have hfz66_2:=AJ BK250.out 2
                                                have hfz66_3:=AJ BK250.out 3
                                                have p253:0≤(x6_5:Int):=yD
                                                have q253:x6_5<(((AL l0_1 x3_2).f3).length:Int):=yD
                                                obtain ⟨ad253,e253,hx253_0⟩:=Kd.at_int HR249_3.out x6_5 p253 q253
                                                cases e253
                                                replace hx253_0:=yC HB.out hx253_0
                                                replace p253:=eq_true p253
                                                replace q253:=eq_true q253
                                                have p254:0≤(x6_5:Int):=yD
                                                have q254:x6_5<(((AL l0_1 x3_2).f3).length:Int):=yD
                                                obtain ⟨ad254,e254,hx254_0⟩:=Kd.at_int HR249_3.out x6_5 p254 q254
                                                obtain rfl:ad253=ad254:=(by injection e254)
                                                replace hx254_0:=yC HB.out hx254_0
                                                replace p254:=eq_true p254
                                                replace q254:=eq_true q254
                                                have p255:0≤((ji61):Int):=yD
                                                have q255:(ji61)<(((AL l0_1 x3_2).f3).length:Int):=yD
                                                obtain ⟨ad255,e255,hx255_0⟩:=Kd.at_int HR249_3.out (ji61) p255 q255
                                                obtain rfl:ad253=ad255:=(by injection e255)
                                                replace hx255_0:=yC HB.out hx255_0
                                                replace p255:=eq_true p255
                                                replace q255:=eq_true q255
                                                have p256:0≤(x6_5:Int):=yD
                                                have q256:x6_5<(((AL l0_1 x3_2).f3).length:Int):=yD
                                                obtain ⟨ad256,e256,hx256_0⟩:=Kd.at_int HR249_3.out x6_5 p256 q256
                                                obtain rfl:ad253=ad256:=(by injection e256)
                                                replace hx256_0:=yC HB.out hx256_0
                                                replace p256:=eq_true p256
                                                replace q256:=eq_true q256
                                                go_wp2
                                                repeat (go_quiet (fail); try go_wp2)
                                                go_ret
                                                exact ⟨by first|rfl|(simp [AY,AX]<;>rfl)|(simp only [←hji61]; first|rfl|(simp [AY,AX]<;>rfl))|(simp [*,AY,AX]<;>rfl),by repeat (first|(with_reducible first|exact HB.out|apply AE|apply AC|apply AD|refine AI ?_ GE248.out|refine AI ?_ GE250.out)|exact HB.out)⟩
                                              · rw [if_neg c64] at H
                                                have c64b0:decide ((rd ((AL l0_1 x3_2).f3) x6_5)≤(rd ((AL l0_1 x3_2).f3) (ji61)))=false:=decide_eq_false c64
                                                clear c64
                                                have H':=yA H
                                                clear H
                                                have hnb67:=NB250_248.out
                                                have hnc67:=NB248_250.out
                                                have hcz68_0:wr.cell? ⟨gb250,0,none⟩=some (.string ((AL l0_1 x3_2).f0)):=(AK BK250.out 0).trans rfl
                                                have hcz68_1:wr.cell? ⟨gb250,1,none⟩=some (.int .i64 ((AL l0_1 x3_2).f1)):=(AK BK250.out 1).trans rfl
                                                have hcz68_2:wr.cell? ⟨gb250,2,none⟩=some (.int .i64 ((AL l0_1 x3_2).f2)):=(AK BK250.out 2).trans rfl
                                                have hcz68_3:wr.cell? ⟨gb250,3,none⟩=some (.slice A249_3 ((AL l0_1 x3_2).f3).length c249_3):=(AK BK250.out 3).trans rfl
                                                have hfz68_0:=AJ BK250.out 0
                                                have hfz68_1:=AJ BK250.out 1
                                                have hfz68_2:=AJ BK250.out 2
                                                have hfz68_3:=AJ BK250.out 3
                                                have p253:0≤(x6_5:Int):=yD
                                                have q253:x6_5<(((AL l0_1 x3_2).f3).length:Int):=yD
                                                obtain ⟨ad253,e253,hx253_0⟩:=Kd.at_int HR249_3.out x6_5 p253 q253
                                                cases e253
                                                replace hx253_0:=yC HB.out hx253_0
                                                replace p253:=eq_true p253
                                                replace q253:=eq_true q253
                                                have p254:0≤(x6_5:Int):=yD
                                                have q254:x6_5<(((AL l0_1 x3_2).f3).length:Int):=yD
                                                obtain ⟨ad254,e254,hx254_0⟩:=Kd.at_int HR249_3.out x6_5 p254 q254
                                                obtain rfl:ad253=ad254:=(by injection e254)
                                                replace hx254_0:=yC HB.out hx254_0
                                                replace p254:=eq_true p254
                                                replace q254:=eq_true q254
                                                have p255:0≤((ji61):Int):=yD
                                                have q255:(ji61)<(((AL l0_1 x3_2).f3).length:Int):=yD
                                                obtain ⟨ad255,e255,hx255_0⟩:=Kd.at_int HR249_3.out (ji61) p255 q255
                                                obtain rfl:ad253=ad255:=(by injection e255)
                                                replace hx255_0:=yC HB.out hx255_0
                                                replace p255:=eq_true p255
                                                replace q255:=eq_true q255
                                                have p256:0≤(x6_5:Int):=yD
                                                have q256:x6_5<(((AL l0_1 x3_2).f3).length:Int):=yD
                                                obtain ⟨ad256,e256,hx256_0⟩:=Kd.at_int HR249_3.out x6_5 p256 q256
                                                obtain rfl:ad253=ad256:=(by injection e256)
                                                replace hx256_0:=yC HB.out hx256_0
                                                replace p256:=eq_true p256
                                                replace q256:=eq_true q256
                                                go_wp2
                                                repeat (go_quiet (fail); try go_wp2)
                                                go_roundg k5
                                                case measure=>have:=HJ1.out; have:=HK2.out; have:=HJ11.out; have:=HK4.out; have:=HK5.out; omega
                                                case rel=>exact ⟨(wrap64 (x6_5+1)),zH,H',⟨by have:=HJ1.out; have:=HK2.out; have:=HJ11.out; have:=HK4.out; have:=HK5.out; omega⟩,⟨by (with_reducible repeat (first|refine AF ?_ _|refine AH ?_|refine AG ?_ _)); exact BK248.out⟩,⟨by (with_reducible repeat (first|refine AF ?_ _|refine AH ?_|refine AG ?_ _)); exact BK250.out⟩,⟨by repeat (first|(with_reducible first|exact HB.out|apply AE|apply AC|apply AD|refine AI ?_ GE248.out|refine AI ?_ GE250.out)|exact HB.out)⟩⟩
                                            · rw [if_neg c63] at H
                                              exact absurd H zA5
                                          · rw [if_neg c62] at H
                                            exact absurd H zA5
                                        · rw [if_neg c60] at H
                                          have c60b0:decide (0<x6_5)=false:=decide_eq_false c60
                                          clear c60
                                          have H':=yA H
                                          clear H
                                          have hnb69:=NB250_248.out
                                          have hnc69:=NB248_250.out
                                          have hcz70_0:wr.cell? ⟨gb250,0,none⟩=some (.string ((AL l0_1 x3_2).f0)):=(AK BK250.out 0).trans rfl
                                          have hcz70_1:wr.cell? ⟨gb250,1,none⟩=some (.int .i64 ((AL l0_1 x3_2).f1)):=(AK BK250.out 1).trans rfl
                                          have hcz70_2:wr.cell? ⟨gb250,2,none⟩=some (.int .i64 ((AL l0_1 x3_2).f2)):=(AK BK250.out 2).trans rfl
                                          have hcz70_3:wr.cell? ⟨gb250,3,none⟩=some (.slice A249_3 ((AL l0_1 x3_2).f3).length c249_3):=(AK BK250.out 3).trans rfl
                                          have hfz70_0:=AJ BK250.out 0
                                          have hfz70_1:=AJ BK250.out 1
                                          have hfz70_2:=AJ BK250.out 2
                                          have hfz70_3:=AJ BK250.out 3
                                          have p253:0≤(x6_5:Int):=yD
                                          have q253:x6_5<(((AL l0_1 x3_2).f3).length:Int):=yD
                                          obtain ⟨ad253,e253,hx253_0⟩:=Kd.at_int HR249_3.out x6_5 p253 q253
                                          cases e253
                                          replace hx253_0:=yC HB.out hx253_0
                                          replace p253:=eq_true p253
                                          replace q253:=eq_true q253
                                          have p254:0≤(x6_5:Int):=yD
                                          have q254:x6_5<(((AL l0_1 x3_2).f3).length:Int):=yD
                                          obtain ⟨ad254,e254,hx254_0⟩:=Kd.at_int HR249_3.out x6_5 p254 q254
                                          obtain rfl:ad253=ad254:=(by injection e254)
                                          replace hx254_0:=yC HB.out hx254_0
                                          replace p254:=eq_true p254
                                          replace q254:=eq_true q254
                                          go_wp2
                                          repeat (go_quiet (fail); try go_wp2)
                                          go_roundg k5
                                          case measure=>have:=HJ1.out; have:=HK2.out; have:=HJ11.out; have:=HK4.out; have:=HK5.out; omega
                                          case rel=>exact ⟨(wrap64 (x6_5+1)),zH,H',⟨by have:=HJ1.out; have:=HK2.out; have:=HJ11.out; have:=HK4.out; have:=HK5.out; omega⟩,⟨by (with_reducible repeat (first|refine AF ?_ _|refine AH ?_|refine AG ?_ _)); exact BK248.out⟩,⟨by (with_reducible repeat (first|refine AF ?_ _|refine AH ?_|refine AG ?_ _)); exact BK250.out⟩,⟨by repeat (first|(with_reducible first|exact HB.out|apply AE|apply AC|apply AD|refine AI ?_ GE248.out|refine AI ?_ GE250.out)|exact HB.out)⟩⟩
                                  · rw [if_neg c53] at H
                                    exact absurd H zA5
                                · rw [if_neg c52] at H
                                  have c52b0:decide (x6_5<(((AL l0_1 x3_2).f3).length:Int))=false:=decide_eq_false c52
                                  clear c52
                                  have H':=yA H
                                  clear H
                                  have hnb71:=NB250_248.out
                                  have hnc71:=NB248_250.out
                                  have hcz72_0:wr.cell? ⟨gb250,0,none⟩=some (.string ((AL l0_1 x3_2).f0)):=(AK BK250.out 0).trans rfl
                                  have hcz72_1:wr.cell? ⟨gb250,1,none⟩=some (.int .i64 ((AL l0_1 x3_2).f1)):=(AK BK250.out 1).trans rfl
                                  have hcz72_2:wr.cell? ⟨gb250,2,none⟩=some (.int .i64 ((AL l0_1 x3_2).f2)):=(AK BK250.out 2).trans rfl
                                  have hcz72_3:wr.cell? ⟨gb250,3,none⟩=some (.slice A249_3 ((AL l0_1 x3_2).f3).length c249_3):=(AK BK250.out 3).trans rfl
                                  have hfz72_0:=AJ BK250.out 0
                                  have hfz72_1:=AJ BK250.out 1
                                  have hfz72_2:=AJ BK250.out 2
                                  have hfz72_3:=AJ BK250.out 3
                                  go_wp2
                                  repeat (go_quiet (fail); try go_wp2)
                                  go_roundg k5
                                  case measure=>have:=HJ1.out; have:=HK2.out; have:=HJ11.out; have:=HK4.out; have:=HK5.out; omega
                                  case rel=>exact ⟨(wrap64 (x3_2+1)),zH,H',⟨by have:=HJ1.out; have:=HK2.out; have:=HJ11.out; have:=HK4.out; have:=HK5.out; omega⟩,⟨by (with_reducible repeat (first|refine AF ?_ _|refine AH ?_|refine AG ?_ _)); exact BK248.out⟩,⟨by repeat (first|(with_reducible first|exact HB.out|apply AE|apply AC|apply AD|refine AI ?_ GE248.out|refine AI ?_ GE250.out)|exact HB.out)⟩⟩
              · rw [if_neg c11] at H
                exact absurd H zA5
            · rw [if_neg c10] at H
              have c10b0:decide (x3_2<(l0_1.length:Int))=false:=decide_eq_false c10
              clear c10
              obtain rfl:=Option.some.inj H
              have hcz73_0:wr.cell? ⟨gb248,0,none⟩=some (.int .i64 A8):=(AK BK248.out 0).trans rfl
              have hcz73_1:wr.cell? ⟨gb248,1,none⟩=some (.slice A0_1 l0_1.length c0_1):=(AK BK248.out 1).trans rfl
              have hfz73_0:=AJ BK248.out 0
              have hfz73_1:=AJ BK248.out 1
              go_wp2
              repeat (go_quiet (fail); try go_wp2)
              go_ret
              exact ⟨by first|rfl|(simp [AY,AX]<;>rfl)|(simp [*,AY,AX]<;>rfl),by repeat (first|(with_reducible first|exact HB.out|apply AE|apply AC|apply AD|refine AI ?_ GE248.out)|exact HB.out)⟩
end Go.Proofs.Ytdadecjefafflaa.PLst
end
section
namespace Go.Proofs.StSort
set_option maxRecDepth 100000
open Go.Sort
variable {α:Type} [Inhabited α] {key:α→Int} {idx:α→Nat}
def R (key:α→Int) (idx:α→Nat) (x y:α):Prop:=key x<key y∨(key x=key y∧idx x<idx y)
theorem R.trans {x y z:α} (h:R key idx x y) (g:R key idx y z):R key idx x z:=by unfold R at*; omega
def cfk (key:α→Int) (x y:α):Int:=key x-key y
def ltk (key:α→Int) (x y:α):Bool:=decide (cfk key x y<0)
theorem Gq {x y:α} :ltk key x y=true↔key x<key y:=by unfold ltk cfk; simp only [decide_eq_true_eq]; omega
theorem Fq {x y:α} :ltk key x y=false↔key y≤key x:=by unfold ltk cfk; simp only [decide_eq_false_iff_not]; omega
def SR (key:α→Int) (idx:α→Nat) (a b:Nat) (d:Array α):Prop:=∀p q,a≤p→p<q→q<b→R key idx d[p]! d[q]!
def Cross (idx:α→Nat) (a m b:Nat) (d:Array α):Prop:=∀p q,a≤p→p<m→m≤q→q<b→idx d[p]! <idx d[q]!
structure Pre (key:α→Int) (idx:α→Nat) (a m b:Nat) (d:Array α):Prop where
 l:SR key idx a m d
 r:SR key idx m b d
 c:Cross idx a m b d
def Post (key:α→Int) (idx:α→Nat) (a b:Nat) (d d':Array α):Prop:=PermIn a b d d'∧SR key idx a b d'
structure Rot (d:Array α) (s m e:Nat) (d':Array α):Prop where
 size:d'.size=d.size
 lo:∀p,s≤p→p<s+(e-m)→d'[p]! =d[p+(m-s)]!
 hi:∀p,s+(e-m)≤p→p<e→d'[p]! =d[p-(e-m)]!
 out:∀p,p<s∨e≤p→d'[p]! =d[p]!
structure SwR (d:Array α) (a b n:Nat) (d':Array α):Prop where
 size:d'.size=d.size
 lo:∀p,a≤p→p<a+n→d'[p]! =d[p-a+b]!
 hi:∀p,b≤p→p<b+n→d'[p]! =d[p-b+a]!
 out:∀p,(p<a∨a+n≤p)→(p<b∨b+n≤p)→d'[p]! =d[p]!
theorem Rot.none {d:Array α} {s m e:Nat} (h:s=m∨m=e) (hs:s≤m) (he:m≤e):Rot d s m e d:=by
 refine ⟨rfl,fun p h1 h2=> ?_,fun p h1 h2=> ?_,fun _ _=>rfl⟩
 ·rcases h with rfl|rfl
  ·rw [show p+(s-s)=p by omega]
  ·omega
 ·rcases h with rfl|rfl
  ·omega
  ·rw [show p-(m-m)=p by omega]
theorem Rot.perm {d d':Array α} {s m e:Nat} (h:Rot d s m e d') (hs:s≤m) (he:m≤e) (hb:e≤d.size):PermIn s e d d':=by
 refine ⟨h.size,h.out,?_⟩
 rw [extract_toList d' s e (by rw [h.size]; exact hb),extract_toList d s e hb]
 have e1:(List.range' s (e-s)).map (fun i=>d'[i]!)=(List.range' m (e-m)).map (fun i=>d[i]!)++(List.range' s (m-s)).map (fun i=>d[i]!):=by
  apply List.ext_getElem
  ·simp; omega
  ·intro k h1 h2
   have hk:k<e-s:=by simpa using h1
   rw [List.getElem_append]
   simp only [List.getElem_map,List.getElem_range',Nat.one_mul,List.length_map,List.length_range']
   by_cases hc:k<e-m
   ·rw [dif_pos hc,h.lo (s+k) zE zE,show s+k+(m-s)=m+k by omega]
   ·rw [dif_neg hc,h.hi (s+k) zE zE,show s+k-(e-m)=s+(k-(e-m)) by omega]
 have e2:List.range' s (e-s)=List.range' s (m-s)++List.range' m (e-m):=by
  have:=List.range'_append_1 (s:=s) (m:=m-s) (n:=e-m)
  rw [show s+(m-s)=m by omega,show m-s+(e-m)=e-s by omega] at this
  exact this.symm
 rw [e1,e2,List.map_append]
 exact List.perm_append_comm
theorem SwR.rot {d d':Array α} {m i:Nat} (h:SwR d (m-i) m i d') (hi:i≤m):Rot d (m-i) m (m+i) d':=by
 refine ⟨h.size,fun p h1 h2=> ?_,fun p h1 h2=> ?_,fun p hp=>h.out p zE zE⟩
 ·rw [h.lo p h1 zE,show p-(m-i)+m=p+(m-(m-i)) by omega]
 ·rw [h.hi p zE zE,show p-m+(m-i)=p-(m+i-m) by omega]
theorem SwR.step_i {d d' D:Array α} {m i j:Nat} (h:SwR d (m-i) m j d') (hi:i≤m) (hj:j<i) (hR:Rot d' (m-(i-j)) m (m+j) D):Rot d (m-i) m (m+j) D:=by
 refine ⟨hR.size.trans h.size,fun p h1 h2=> ?_,fun p h1 h2=> ?_,fun p hp=> ?_⟩
 ·rw [hR.out p zE,h.lo p h1 zE,show p-(m-i)+m=p+(m-(m-i)) by omega]
 ·by_cases hc:p<m-(i-j)+(m+j-m)
  ·rw [hR.lo p zE hc,h.hi (p+(m-(m-(i-j)))) zE zE]; congr 1; omega
  ·rw [hR.hi p zE h2,h.out (p-(m+j-m)) zE zE]
 ·rw [hR.out p zE,h.out p zE zE]
theorem SwR.step_j {d d' D:Array α} {m i j:Nat} (h:SwR d (m-i) (m+j-i) i d') (hi:i≤m) (hj:i<j) (hR:Rot d' (m-i) m (m+(j-i)) D):Rot d (m-i) m (m+j) D:=by
 refine ⟨hR.size.trans h.size,fun p h1 h2=> ?_,fun p h1 h2=> ?_,fun p hp=> ?_⟩
 ·by_cases hc:p<m-i+(m+(j-i)-m)
  ·rw [hR.lo p h1 hc,h.out (p+(m-(m-i))) zE zE]
  ·rw [hR.hi p zE zE,h.lo (p-(m+(j-i)-m)) zE zE]; congr 1; omega
 ·rw [hR.out p zE,h.hi p zE zE]; congr 1; omega
 ·rw [hR.out p zE,h.out p zE zE]
theorem SwR.zero {d:Array α} {a b:Nat} :SwR d a b 0 d:=⟨rfl,fun p h1 h2=>by omega,fun p h1 h2=>by omega,fun _ _ _=>rfl⟩
theorem SwR.succ {d d':Array α} {a b n:Nat} (h:SwR d a b n d') (hab:a+n<b) (hb:b+n<d.size):SwR d a b (n+1) (swp d' (a+n) (b+n)):=by
 have g:=fun k=>swp_get d' (i:=a+n) (j:=b+n) (by rw [h.size]; omega) (by rw [h.size]; omega) k
 refine ⟨by rw [swp_size]; exact h.size,fun p h1 h2=> ?_,fun p h1 h2=> ?_,fun p h1 h2=> ?_⟩
 ·rw [g,if_neg zE]
  by_cases hp:p=a+n
  ·rw [if_pos hp,h.out (b+n) zE zE]; congr 1; omega
  ·rw [if_neg hp,h.lo p h1 zE]
 ·rw [g]
  by_cases hp:p=b+n
  ·rw [if_pos hp,h.out (a+n) zE zE]; congr 1; omega
  ·rw [if_neg hp,if_neg zE,h.hi p h1 zE]
 ·rw [g,if_neg zE,if_neg zE,h.out p zE zE]
theorem Rot.up {d d':Array α} {a k:Nat} (h:Rot d a (a+1) (k+1) d') (hk:a≤k) (hb:k+1<d.size):Rot d a (a+1) (k+2) (swp d' k (k+1)):=by
 have g:=fun p=>swp_get d' (i:=k) (j:=k+1) (by rw [h.size]; omega) (by rw [h.size]; omega) p
 refine ⟨by rw [swp_size]; exact h.size,fun p h1 h2=> ?_,fun p h1 h2=> ?_,fun p hp=> ?_⟩
 ·rw [g,if_neg zE]
  by_cases hp:p=k
  ·rw [if_pos hp,h.out (k+1) zE]; congr 1; omega
  ·rw [if_neg hp,h.lo p h1 zE]
 ·have hp:p=k+1:=by omega
  rw [g,if_pos hp,h.hi k zE zE]; congr 1; omega
 ·rw [g,if_neg zE,if_neg zE,h.out p zE]
theorem Rot.down {d d':Array α} {m k:Nat} (h:Rot d (k+1) m (m+1) d') (hk:k+1≤m) (hb:m<d.size):Rot d k m (m+1) (swp d' (k+1) k):=by
 have g:=fun p=>swp_get d' (i:=k+1) (j:=k) (by rw [h.size]; omega) (by rw [h.size]; omega) p
 refine ⟨by rw [swp_size]; exact h.size,fun p h1 h2=> ?_,fun p h1 h2=> ?_,fun p hp=> ?_⟩
 ·have hp:p=k:=by omega
  rw [g,if_pos hp,h.lo (k+1) zE zE]; congr 1; omega
 ·rw [g,if_neg zE]
  by_cases hp:p=k+1
  ·rw [if_pos hp,h.out k zE]; congr 1; omega
  ·rw [if_neg hp,h.hi p zE h2]
 ·rw [g,if_neg zE,if_neg zE,h.out p zE]
theorem EY {x y:α} (hi:idx x<idx y):ltk key y x=true↔R key idx y x:=by rw [Gq]; unfold R; omega
theorem Do {x y:α} (hi:idx x<idx y):ltk key y x=false↔R key idx x y:=by rw [Fq]; unfold R; omega
theorem Rot.from_lo {d d':Array α} {s m e:Nat} (h:Rot d s m e d') (hs:s≤m) (he:m≤e) {a p:Nat} (hp:a≤p) (hp2:p<s+(e-m)):
  (p<s∧d'[p]! =d[p]!)∨(s≤p∧m≤p+(m-s)∧p+(m-s)<e∧d'[p]! =d[p+(m-s)]!):=by
 by_cases hc:p<s
 ·exact .inl ⟨hc,h.out p (.inl hc)⟩
 ·exact .inr ⟨by omega,by omega,by omega,h.lo p zE hp2⟩
theorem Rot.from_hi {d d':Array α} {s m e:Nat} (h:Rot d s m e d') (hs:s≤m) (he:m≤e) {p:Nat} (hp:s+(e-m)≤p):
  (p<e∧s≤p-(e-m)∧p-(e-m)<m∧d'[p]! =d[p-(e-m)]!)∨(e≤p∧d'[p]! =d[p]!):=by
 by_cases hc:p<e
 ·exact .inl ⟨hc,by omega,by omega,h.hi p hp hc⟩
 ·exact .inr ⟨by omega,h.out p (.inr zE)⟩
structure Cut (key:α→Int) (idx:α→Nat) (a m b s e:Nat) (d:Array α):Prop where
 ls:a≤s
 sm:s≤m
 me:m≤e
 eb:e≤b
 c1:∀p q,m≤p→p<e→s≤q→q<m→R key idx d[p]! d[q]!
 c2:∀p q,a≤p→p<s→e≤q→q<b→R key idx d[p]! d[q]!
theorem Cut.parts {a m b s e:Nat} {d d':Array α} (hP:Pre key idx a m b d) (hC:Cut key idx a m b s e d) (hR:Rot d s m e d'):
  Pre key idx a s (s+(e-m)) d'∧Pre key idx (s+(e-m)) e b d'∧(∀p q,a≤p→p<s+(e-m)→s+(e-m)≤q→q<b→R key idx d'[p]! d'[q]!):=by
 obtain ⟨ls,sm,me,eb,c1,c2⟩:=hC
 obtain ⟨pl,pr,pc⟩:=hP
 refine ⟨⟨fun p q h1 h2 h3=> ?_,fun p q h1 h2 h3=> ?_,fun p q h1 h2 h3 h4=> ?_⟩,⟨fun p q h1 h2 h3=> ?_,fun p q h1 h2 h3=> ?_,fun p q h1 h2 h3 h4=> ?_⟩,fun p q h1 h2 h3 h4=> ?_⟩
 ·rw [hR.out p zE,hR.out q zE]; exact pl p q h1 h2 zE
 ·rw [hR.lo p h1 zE,hR.lo q zE h3]; exact pr _ _ zE zE zE
 ·rw [hR.out p zE,hR.lo q h3 h4]; exact pc _ _ h1 zE zE zE
 ·rw [hR.hi p h1 zE,hR.hi q zE h3]; exact pl _ _ zE zE zE
 ·rw [hR.out p zE,hR.out q zE]; exact pr p q zE h2 h3
 ·rw [hR.hi p h1 h2,hR.out q zE]; exact pc _ _ zE zE zE h4
 ·rcases hR.from_lo sm me h1 h2 with ⟨hp,ep⟩|⟨hp1,hp2,hp3,ep⟩<;>rcases hR.from_hi sm me h3 with ⟨hq1,hq2,hq3,eq⟩|⟨hq,eq⟩<;>rw [ep,eq]
  ·exact pl _ _ h1 zE hq3
  ·exact c2 _ _ h1 hp hq h4
  ·exact c1 _ _ hp2 hp3 hq2 hq3
  ·exact pr _ _ hp2 zE h4
theorem FZ {a c b:Nat} {d1 d2 d3:Array α} (ac:a≤c) (cb:c≤b) (hb:b≤d1.size) (hx:∀p q,a≤p→p<c→c≤q→q<b→R key idx d1[p]! d1[q]!) (h2:Post key idx a c d1 d2) (h3:Post key idx c b d2 d3):Post key idx a b d1 d3:=by
  have P2:=permIn_mono d1 d2 a c a b (Nat.le_refl _) cb hb h2.1
  have s2:d2.size=d1.size:=h2.1.1
  have P3:=permIn_mono d2 d3 c b a b ac (Nat.le_refl _) (by rw [s2]; exact hb) h3.1
  refine ⟨permIn_trans _ _ _ _ _ P2 P3,fun p q h1 hpq hq=> ?_⟩
  by_cases hqc:q<c
  · rw [h3.1.2.1 p zE,h3.1.2.1 q zE]; exact h2.2 p q h1 hpq hqc
  · by_cases hpc:p<c
    · rw [h3.1.2.1 p zE]
      refine permIn_all d2 d3 c b (fun y=>R key idx d2[p]! y) (by rw [s2]; exact hb) h3.1 (fun k hk1 hk2=> ?_) q zE hq
      rw [h2.1.2.1 k zE]
      exact permIn_all d1 d2 a c (fun x=>R key idx x d1[k]!) zE h2.1 (fun l hl1 hl2=>hx l k hl1 hl2 hk1 hk2) p h1 hpc
    · exact h3.2 p q zE hpq hq
theorem Cut.one {a m b s e:Nat} {d d':Array α} (hb:b≤d.size) (hP:Pre key idx a m b d) (hC:Cut key idx a m b s e d) (hR:Rot d s m e d')
    (c3:∀p q,s≤p→p<m→e≤q→q<b→R key idx d[p]! d[q]!) (c4:∀p q,a≤p→p<s→m≤q→q<e→R key idx d[p]! d[q]!):Post key idx a b d d':=by
  have hp:=hR.perm hC.sm hC.me (by have:=hC.eb; omega)
  obtain ⟨g1,g2,g3⟩:=hC.parts hP hR
  obtain ⟨ls,sm,me,eb,c1,c2⟩:=hC
  refine ⟨permIn_mono _ _ _ _ _ _ ls eb hb hp,fun p q h1 h2 h3=> ?_⟩
  by_cases hq:q<s+(e-m)
  · by_cases hp:s≤p
    · exact g1.r p q hp h2 hq
    · by_cases hqs:q<s
      · exact g1.l p q h1 h2 hqs
      · rw [hR.out p zE,hR.lo q zE hq]; exact c4 _ _ h1 zE zE zE
  · by_cases hp:p<s+(e-m)
    · exact g3 p q h1 hp zE h3
    · by_cases hqe:q<e
      · exact g2.l p q zE h2 hqe
      · by_cases hpe:e≤p
        · exact g2.r p q hpe h2 h3
        · rw [hR.hi p zE zE,hR.out q zE]; exact c3 _ _ zE zE zE h3
theorem Cut.found {a m b c:Nat} {d:Array α} {n s0 r0:Nat} (hP:Pre key idx a m b d) (am:a<m) (mb:m<b) (hn:n=(a+b)/2+m) (hs0:s0=if m>(a+b)/2 then n-b else a) (hr0:r0=if m>(a+b)/2 then (a+b)/2 else m)
  (h1:s0≤c) (h2:c≤r0) (hl:c=s0∨R key idx d[c-1]! d[n-1-(c-1)]!) (hr:c=r0∨R key idx d[n-1-c]! d[c]!):Cut key idx a m b c (n-c) d:=by
 have hs:a≤s0∧n-b≤s0∧(s0=a∨s0+b=n):=by subst hs0; split<;>omega
 have hrr:r0≤m∧r0+m≤n∧(r0=m∨r0+m=n):=by subst hr0; split<;>omega
 refine ⟨by omega,by omega,by omega,by omega,fun p q p1 p2 q1 q2=> ?_,fun p q p1 p2 q1 q2=> ?_⟩
 ·rcases hr with hr|hr
  ·omega
  ·have e1:R key idx d[p]! d[n-1-c]! ∨p=n-1-c:=by
    by_cases h:p=n-1-c
    ·exact .inr h
    ·exact .inl (hP.r p _ p1 zE zE)
   have e2:R key idx d[c]! d[q]! ∨q=c:=by
    by_cases h:q=c
    ·exact .inr h
    ·exact .inl (hP.l c q zE zE q2)
   rcases e1 with e1|rfl<;>rcases e2 with e2|rfl
   ·exact (e1.trans hr).trans e2
   ·exact e1.trans hr
   ·exact hr.trans e2
   ·exact hr
 ·rcases hl with hl|hl
  ·omega
  ·have e1:R key idx d[p]! d[c-1]! ∨p=c-1:=by
    by_cases h:p=c-1
    ·exact .inr h
    ·exact .inl (hP.l p _ p1 zE zE)
   have e2:R key idx d[n-1-(c-1)]! d[q]! ∨q=n-1-(c-1):=by
    by_cases h:q=n-1-(c-1)
    ·exact .inr h
    ·exact .inl (hP.r _ q zE zE q2)
   rcases e1 with e1|rfl<;>rcases e2 with e2|rfl
   ·exact (e1.trans hl).trans e2
   ·exact e1.trans hl
   ·exact hl.trans e2
   ·exact hl
def Stab (key:α→Int) (idx:α→Nat) (a b:Nat) (d:Array α):Prop:=∀p q,a≤p→p<q→q<b→key d[p]! =key d[q]! →idx d[p]! <idx d[q]!
theorem Stab.swp {a b j:Nat} {d:Array α} (h:Stab key idx a b d) (haj:a≤j) (hjb:j+1<b) (hb:b≤d.size) (hl:key d[j+1]! <key d[j]!):Stab key idx a b (swp d (j+1) j):=by
  have g:=fun p=>swp_get d (i:=j+1) (j:=j) zE zE p
  intro p q h1 h2 h3
  rw [g,g]
  by_cases p1:p=j
  · subst p1
    by_cases q1:q=p+1
    · subst q1; rw [if_pos rfl,if_neg zE,if_pos rfl]; omega
    · rw [if_pos rfl,if_neg zE,if_neg q1]; exact h (p+1) q zE zE h3
  · by_cases p2:p=j+1
    · subst p2; rw [if_neg zE,if_pos rfl,if_neg zE,if_neg zE]; exact h j q haj zE h3
    · rw [if_neg p1,if_neg p2]
      by_cases q1:q=j
      · subst q1; rw [if_pos rfl]; exact h p (q+1) h1 zE hjb
      · by_cases q2:q=j+1
        · subst q2; rw [if_neg q1,if_pos rfl]; exact h p j h1 zE zE
        · rw [if_neg q1,if_neg q2]; exact h p q h1 h2 h3
theorem swo_cfk:SWO (ltk (α:=α) key) where
 irrefl x:=Fq.mpr zE
 trans x y z h1 h2:=by rw [Gq] at*; omega
 ntrans x y z h1 h2:=by rw [Fq] at*; omega
end Go.Proofs.StSort
namespace Go.Proofs.StSort
set_option maxRecDepth 100000
open Go.Sort
variable {α:Type} [Inhabited α] {key:α→Int} {idx:α→Nat}
structure InsO (key:α→Int) (idx:α→Nat) (a b i:Nat) (d dk:Array α):Prop where
 p:PermIn a b d dk
 s:Stab key idx a b dk
 o:SortedIn (ltk key) a i dk
structure InsI (key:α→Int) (idx:α→Nat) (a b j i:Nat) (d dk:Array α):Prop where
 p:PermIn a b d dk
 s:Stab key idx a b dk
 o:Ins (ltk key) a j i dk
theorem InsO.start {a b:Nat} {d:Array α} (h:Stab key idx a b d):InsO key idx a b (a+1) d d:=⟨permIn_refl _ _ _,h,fun p q h1 h2 h3=>by omega⟩
theorem InsO.post {a b i:Nat} {d dk:Array α} (h:InsO key idx a b i d dk) (hi:b≤i):Post key idx a b d dk:=by
 refine ⟨h.p,fun p q p1 p2 p3=> ?_⟩
 have e1:=h.o p q p1 p2 zE
 have e2:=h.s p q p1 p2 p3
 rw [Fq] at e1
 unfold R; omega
theorem InsO.enter {a b i:Nat} {d dk:Array α} (h:InsO key idx a b i d dk):InsI key idx a b i i d dk:=
 ⟨h.p,h.s,fun p q hap hpq hqi hp hq=>h.o p q hap hpq zE,fun q h1 h2=>by omega⟩
theorem InsI.stop {a b j i:Nat} {d dk:Array α} (h:InsI key idx a b j i d dk) (hs:j≤a∨ltk key dk[j]! dk[j-1]! =false):InsO key idx a b (i+1) d dk:=
 ⟨h.p,h.s,h.o.stop swo_cfk hs⟩
theorem InsI.step {a b j i:Nat} {d dk:Array α} (h:InsI key idx a b (j+1) i d dk) (haj:a≤j) (hjb:j+1<b) (hb:b≤dk.size) (hl:ltk key dk[j+1]! dk[j]! =true):InsI key idx a b j i d (swp dk (j+1) j):=
 ⟨permIn_trans _ _ _ _ _ h.p (swp_permIn dk a b (j+1) j zE hjb haj zE hb),h.s.swp haj hjb hb (Gq.mp hl),h.o.step hl haj zE⟩
end Go.Proofs.StSort
end
section
namespace Go.Proofs.StSort
set_option maxRecDepth 100000
open Go.Shelf Go.RowKit Go.Lib Go.Sort
variable {α:Type} [Inhabited α]
set_option maxHeartbeats 4000000 in
theorem DF (enc:α→Value) (fv:Value) (blk off cap N a b n:Nat) (d0 d:Array α) (w0 w:World)
  (R1:Row1 enc w0 blk off d0) (h0:d0.size=N) (hN:d.size=N) (S:SW enc w0 blk off d w) (hab:a+n≤b) (hb:b+n≤N) (hsz:N<4611686018427387904):
  Calls Try.prog 73 #[.slice (some ⟨blk,off,none⟩) N cap,.int .i64 a,.int .i64 b,.int .i64 n,fv] w fun e w'=>e= .returned (.tuple #[])∧∃d',SwR d a b n d'∧d'.size=N∧SW enc w0 blk off d' w':=by
 have hcl0:=R1.hO.cells
 simp only [Value.cells] at hcl0
 have hst:=R1.hO.store Try.prog
 have mixed:Try.prog.follows .mixedOrders=true:=by kernel_rfl
 have hu26:=Try.underlying26
 have a3:=Try.isAgg3
 have z3:=Try.sizeOf3
 have S0:Aside (SW enc w0 blk off d w):=S
 clear S
 go_enter Try.func73,Try.ntmps73
 go_wp2
 go_loopg [10] n (fun kx s10 wr=>∃(i:Nat) (dk:Array α),s10= .int .i64 i∧i≤n∧n-i≤kx∧Aside (SwR d a b i dk)∧dk.size=N∧Aside (SW enc w0 blk off dk wr))
 case atStart=>exact ⟨0,d,rfl,by omega,by omega,SwR.zero,hN,S0⟩
 case round=>
  clear S0
  obtain ⟨i,dk,rfl,hin,hkx,HR,hds,S1⟩:=hrel
  by_cases hlt:i<n
  ·have hltz:(i:Int)<(n:Int):=by omega
   go_wp2_with fail
   obtain ⟨iN,hiN⟩:∃q,q=a+i:=⟨_,rfl⟩
   obtain ⟨jN,hjN⟩:∃q,q=b+i:=⟨_,rfl⟩
   have ea:((a:Int)+(i:Int)).toNat=iN:=by omega
   have pa:(0:Int)≤(a:Int)+(i:Int):=by omega
   have ba:(a:Int)+(i:Int)<(N:Int):=by omega
   have ra:IntKind.i64.wrap ((a:Int)+(i:Int))=(a:Int)+(i:Int):=by rw [IntKind.wrap_i64]; omega
   have ec:((b:Int)+(i:Int)).toNat=jN:=by omega
   have pc:(0:Int)≤(b:Int)+(i:Int):=by omega
   have bc:(b:Int)+(i:Int)<(N:Int):=by omega
   have rc:IntKind.i64.wrap ((b:Int)+(i:Int))=(b:Int)+(i:Int):=by rw [IntKind.wrap_i64]; omega
   obtain ⟨x,hx⟩:∃x,x=dk[a+i]! :=⟨_,rfl⟩
   obtain ⟨y,hy⟩:∃x,x=dk[b+i]! :=⟨_,rfl⟩
   have S2:Aside (SW enc w0 blk off (swp dk (a+i) (b+i)) ((wr.setCell ⟨blk,off+iN,none⟩ (enc y)).setCell ⟨blk,off+jN,none⟩ (enc x)).drew):=by rw [hiN,hjN,hx,hy]; exact S1.out.swapped R1 (a+i) (b+i) zE zE
   have ca:=S1.out.c1 R1 zE (a+i) zE
   have cb:=S1.out.c1 R1 zE (b+i) zE
   have fa:=S1.out.f1 R1 zE (a+i) zE
   have fb:=S1.out.f1 R1 zE (b+i) zE
   obtain ⟨u,cc⟩:=S1.out.c2 R1 zE (a+i) (b+i) zE zE (enc y)
   rw [←hjN,←hiN] at cc
   rw [←hx,←hiN] at ca
   rw [←hy,←hjN] at cb
   rw [←hiN] at fa
   rw [←hjN] at fb
   clear S1 hx hy hiN hjN
   go_wp2_with fail
   go_big_region_o
   clear ca cb cc fa fb
   generalize ((wr.setCell ⟨blk,off+iN,none⟩ (enc y)).setCell ⟨blk,off+jN,none⟩ (enc x)).drew=w2 at S2 ⊢
   clear ea ec
   go_wp2
   go_roundg (n-(i+1))
   case measure=>omega
   case rel=>exact ⟨i+1,swp dk (a+i) (b+i),by go_num,by omega,by omega,HR.out.succ zE zE,by rw [size_swp]; exact hds,S2⟩
  ·go_wp2
   go_end0
   obtain rfl:i=n:=by omega
   exact ⟨rfl,dk,HR.out,hds,S1.out⟩
set_option maxHeartbeats 4000000 in
theorem rotate (enc:α→Value) (fv:Value) (blk off cap N a m b:Nat) (d0 d:Array α) (w0 w:World)
  (R1:Row1 enc w0 blk off d0) (h0:d0.size=N) (hN:d.size=N) (S:SW enc w0 blk off d w) (ham:a<m) (hmb:m<b) (hb:b≤N) (hsz:N<4611686018427387904):
  Calls Try.prog 72 #[.slice (some ⟨blk,off,none⟩) N cap,.int .i64 a,.int .i64 m,.int .i64 b,fv] w fun e w'=>e= .returned (.tuple #[])∧∃d',Rot d a m b d'∧d'.size=N∧SW enc w0 blk off d' w':=by
 have mixed:Try.prog.follows .mixedOrders=true:=by kernel_rfl
 have hu26:=Try.underlying26
 have S0:Aside (SW enc w0 blk off d w):=S
 have HR1:Aside (Row1 enc w0 blk off d0):=R1
 clear S R1
 go_enter Try.func72,Try.ntmps72
 go_wp2
 go_loopg [10,11] (m-a+(b-m)) (fun kx s10 s11 wr=>∃(i j:Nat) (dk:Array α),s10= .int .i64 i∧s11= .int .i64 j∧Aside (0<i∧i≤m∧0<j∧m+j≤b)∧i+j≤kx∧Aside (∀D,Rot dk (m-i) m (m+j) D→Rot d a m b D)∧dk.size=N∧Aside (SW enc w0 blk off dk wr))
 case atStart=>exact ⟨m-a,b-m,d,by rw [show ((m-a:Nat):Int)=(m:Int)-a by omega],by rw [show ((b-m:Nat):Int)=(b:Int)-m by omega],⟨by omega,by omega,by omega,by omega⟩,by omega,(by rw [show m-(m-a)=a by omega,show m+(b-m)=b by omega]; exact fun D h=>h),hN,S0⟩
 case round=>
  clear S0
  obtain ⟨i,j,dk,rfl,rfl,HB,hkx,HR,hds,S1⟩:=hrel
  have hB:=HB.out
  by_cases hij:i=j
  ·subst hij
   have hcall:=DF enc fv blk off cap N (m-i) m i d0 dk w0 wr HR1.out h0 hds S1.out zE zE hsz
   rw [show ((m-i:Nat):Int)=(m:Int)-i by omega] at hcall
   clear S1 HB
   go_wp2_with (go_at_call 73; refine hcall.mono ?_; rintro e w1 ⟨rfl,dk',hsw,hds',S3⟩)
   go_end0
   exact ⟨rfl,dk',HR.out _ (hsw.rot hB.2.1),hds',S3⟩
  ·have hijz:¬(i:Int)=(j:Int):=by omega
   by_cases hgt:j<i
   ·have hgtz:(j:Int)<(i:Int):=by omega
    have hcall:=DF enc fv blk off cap N (m-i) m j d0 dk w0 wr HR1.out h0 hds S1.out zE zE hsz
    rw [show ((m-i:Nat):Int)=(m:Int)-i by omega] at hcall
    clear S1 HB
    go_wp2_with (go_at_call 73; refine hcall.mono ?_; rintro e w1 ⟨rfl,dk',hsw,hds',S3⟩)
    go_roundg (i-j+j)
    case measure=>omega
    case rel=>exact ⟨i-j,j,dk',by rw [show ((i-j:Nat):Int)=(i:Int)-j by omega],rfl,⟨by omega,by omega,by omega,by omega⟩,by omega,(fun D hD=>HR.out D (hsw.step_i hB.2.1 hgt hD)),hds',S3⟩
   ·have hgtz:¬(j:Int)<(i:Int):=by omega
    have hcall:=DF enc fv blk off cap N (m-i) (m+j-i) i d0 dk w0 wr HR1.out h0 hds S1.out zE zE hsz
    rw [show ((m-i:Nat):Int)=(m:Int)-i by omega,show ((m+j-i:Nat):Int)=(m:Int)+j-i by omega] at hcall
    clear S1 HB
    go_wp2_with (go_at_call 73; refine hcall.mono ?_; rintro e w1 ⟨rfl,dk',hsw,hds',S3⟩)
    go_roundg (i+(j-i))
    case measure=>omega
    case rel=>exact ⟨i,j-i,dk',rfl,by rw [show ((j-i:Nat):Int)=(j:Int)-i by omega],⟨by omega,by omega,by omega,by omega⟩,by omega,(fun D hD=>HR.out D (hsw.step_j hB.2.1 zE hD)),hds',S3⟩
end Go.Proofs.StSort
end
section
namespace Go.Proofs.StSort
set_option maxRecDepth 100000
open Go.Shelf Go.RowKit Go.Lib Go.Sort
variable {α:Type} [Inhabited α]
set_option maxHeartbeats 16000000 in
theorem insertion (enc:α→Value) (key:α→Int) (idx:α→Nat) (g:Nat) (cb:Array Value) (blk off cap N a b:Nat) (d0 d:Array α) (w0 w:World)
  (eg:∀args w,(callFunc g args).run Try.prog w= .ok (.enter g args) w) (hcmp:CmpLays1 Try.prog g cb enc (cfk key) blk off N w0)
  (R1:Row1 enc w0 blk off d0) (h0:d0.size=N) (hN:d.size=N) (S:SW enc w0 blk off d w) (hab:a≤b) (hb:b≤N) (hsz:N<4611686018427387904) (hS:Stab key idx a b d):
  Calls Try.prog 64 #[.slice (some ⟨blk,off,none⟩) N cap,.int .i64 a,.int .i64 b,.func (.func g) #[] cb] w fun e w'=>e= .returned (.tuple #[])∧∃d',Post key idx a b d d'∧d'.size=N∧SW enc w0 blk off d' w':=by
 have hcl0:=R1.hO.cells
 simp only [Value.cells] at hcl0
 have hst:=R1.hO.store Try.prog
 have mixed:Try.prog.follows .mixedOrders=true:=by kernel_rfl
 have hu26:=Try.underlying26
 have a3:=Try.isAgg3
 have z3:=Try.sizeOf3
 have HC:Aside _:=hcmp
 have S0:Aside (SW enc w0 blk off d w):=S
 have HI0:Aside _:=InsO.start hS
 clear S hcmp hS
 go_enter Try.func64,Try.ntmps64
 go_wp2
 go_loopg [8] (b-a) (fun kx s8 wr=>∃(i:Nat) (dk:Array α),s8= .int .i64 i∧a<i∧b+1-i≤kx+1∧i≤b+1∧dk.size=N∧Aside (SW enc w0 blk off dk wr)∧Aside (InsO key idx a b i d dk))
 case atStart=>exact ⟨a+1,d,by go_num,by omega,by omega,by omega,hN,S0,HI0⟩
 case round=>
  clear S0 HI0
  obtain ⟨i,dk,rfl,hai,hkx,hib,hds,S1,HO⟩:=hrel
  by_cases hlt:i<b
  ·have hltz:(i:Int)<(b:Int):=by omega
   go_wp2
   go_loopg [9] i (fun kj s9 wr2=>∃(j:Nat) (dj:Array α),s9= .int .i64 j∧a≤j∧j≤i∧j≤kj∧dj.size=N∧Aside (SW enc w0 blk off dj wr2)∧Aside (InsI key idx a b j i d dj))
   case atStart=>exact ⟨i,dk,rfl,by omega,Nat.le_refl _,Nat.le_refl _,hds,S1,HO.out.enter⟩
   case round=>
    clear S1 HO
    obtain ⟨j,dj,rfl,haj,hji,hkj,hdj,S1,HI⟩:=hrel
    by_cases hja:a<j
    ·obtain ⟨jp,rfl⟩:∃q,j=q+1:=⟨j-1,by omega⟩
     have zjp:((jp+1:Nat):Int)=(jp:Int)+1:=by omega
     rw [zjp]
     have hjad:decide ((jp:Int)+1>(a:Int))=true:=decide_eq_true zE
     have hjaz':(a:Int)<(jp:Int)+1:=by omega
     obtain ⟨x,hx⟩:∃x,x=dj[jp+1]! :=⟨_,rfl⟩
     obtain ⟨y,hy⟩:∃x,x=dj[jp]! :=⟨_,rfl⟩
     obtain ⟨iN,hiN⟩:∃q,q=jp+1:=⟨_,rfl⟩
     obtain ⟨jN,hjN⟩:∃q,q=jp:=⟨_,rfl⟩
     have ea:((jp:Int)+1).toNat=iN:=by omega
     have pa:(0:Int)≤(jp:Int)+1:=by omega
     have ba:(jp:Int)+1<(N:Int):=by omega
     have ra:IntKind.i64.wrap ((jp:Int)+1)=(jp:Int)+1:=by rw [IntKind.wrap_i64]; omega
     have ec:((jp:Int)).toNat=jN:=by omega
     have pc:(0:Int)≤(jp:Int):=by omega
     have bc:(jp:Int)<(N:Int):=by omega
     have rc:IntKind.i64.wrap ((jp:Int))=(jp:Int):=by rw [IntKind.wrap_i64]; omega
     have la:=S1.out.cl R1 zE (jp+1) zE
     have lb:=S1.out.cl R1 zE jp zE
     rw [←hx,←hiN] at la
     rw [←hy,←hjN] at lb
     have hc:=S1.out.cmp HC.out zE x y
     cases hlv:ltk key x y with
     | true=>
      have hv:cfk key x y<0:=of_decide_eq_true hlv
      have hd:decide (cfk key x y<0)=true:=hlv
      have HX:Aside (InsI key idx a b jp i d (swp dj (jp+1) jp)):=HI.out.step zE zE zE (by rw [←hx,←hy]; exact hlv)
      have HS:Aside _:=S1.out.grown
      clear hlv S1 HI hx hy hiN hjN
      go_wp2_with fail
      go_quiet_grown (first|(go_at_fn g; refine Calls.grown_of (hc _ _)))
      have S2:Aside (SW enc w0 blk off dj (grow (wr.drewN nq) osq)):=HS.out nq osq
      clear la lb hc HS
      generalize grow (wr.drewN nq) osq=w2 at S2 ⊢
      clear nq osq
      clear ea ec hd hv
      go_wp2_with fail
      obtain ⟨x2,hx2⟩:∃q,q=dj[jp+1]! :=⟨_,rfl⟩
      obtain ⟨y2,hy2⟩:∃q,q=dj[jp]! :=⟨_,rfl⟩
      obtain ⟨iN2,hiN2⟩:∃q,q=jp+1:=⟨_,rfl⟩
      obtain ⟨jN2,hjN2⟩:∃q,q=jp:=⟨_,rfl⟩
      have ea:((jp:Int)+1).toNat=iN2:=by omega
      have ec:((jp:Int)).toNat=jN2:=by omega
      have S3:Aside (SW enc w0 blk off (swp dj (jp+1) jp) ((w2.setCell ⟨blk,off+iN2,none⟩ (enc y2)).setCell ⟨blk,off+jN2,none⟩ (enc x2)).drew):=by rw [hiN2,hjN2,hx2,hy2]; exact S2.out.swapped R1 (jp+1) jp zE zE
      have ca:=S2.out.c1 R1 zE (jp+1) zE
      have cb':=S2.out.c1 R1 zE jp zE
      have fa:=S2.out.f1 R1 zE (jp+1) zE
      have fb:=S2.out.f1 R1 zE jp zE
      obtain ⟨u,cc⟩:=S2.out.c2 R1 zE (jp+1) jp zE zE (enc y2)
      rw [←hiN2,←hjN2] at cc
      rw [←hx2,←hiN2] at ca
      rw [←hy2,←hjN2] at cb'
      rw [←hiN2] at fa
      rw [←hjN2] at fb
      clear S2 hx2 hy2 hiN2 hjN2
      go_wp2_with fail
      go_big_region_o
      clear ca cb' cc fa fb
      generalize ((w2.setCell ⟨blk,off+iN2,none⟩ (enc y2)).setCell ⟨blk,off+jN2,none⟩ (enc x2)).drew=w3 at S3 ⊢
      clear ea ec
      go_wp2
      go_roundg jp
      case measure=>omega
      case rel=>exact ⟨jp,swp dj (jp+1) jp,by first|rfl|go_num|(congr 1; omega),by omega,by omega,Nat.le_refl _,by rw [size_swp]; exact hdj,S3,HX⟩
     | false=>
      have hv:¬cfk key x y<0:=of_decide_eq_false hlv
      have hd:decide (cfk key x y<0)=false:=hlv
      have HX:Aside (InsO key idx a b (i+1) d dj):=HI.out.stop (Or.inr (by rw [show jp+1-1=jp from rfl,←hx,←hy]; exact hlv))
      have HS:Aside _:=S1.out.grown
      clear hlv S1 HI hx hy hiN hjN
      go_wp2_with fail
      go_quiet_grown (first|(go_at_fn g; refine Calls.grown_of (hc _ _)))
      have S2:Aside (SW enc w0 blk off dj (grow (wr.drewN nq) osq)):=HS.out nq osq
      clear la lb hc HS
      generalize grow (wr.drewN nq) osq=w2 at S2 ⊢
      clear nq osq
      clear ea ec
      go_wp2
      go_roundg (b-(i+1))
      case measure=>omega
      case rel=>exact ⟨i+1,dj,by go_num,by omega,by omega,by omega,hdj,S2,HX⟩
    ·have hjaz:decide ((j:Int)>(a:Int))=false:=decide_eq_false zE
     have hjaz':¬(a:Int)<(j:Int):=by omega
     go_wp2_with fail
     go_big_region_o
     have S2:Aside (SW enc w0 blk off dj wr.drew):=S1.out.drew
     clear S1
     generalize wr.drew=w2 at S2 ⊢
     go_wp2
     go_roundg (b-(i+1))
     case measure=>omega
     case rel=>exact ⟨i+1,dj,by go_num,by omega,by omega,by omega,hdj,S2,HI.out.stop (Or.inl zE)⟩
  ·have hltz:¬(i:Int)<(b:Int):=by omega
   go_wp2
   go_end0
   exact ⟨rfl,dk,HO.out.post zE,hds,S1.out⟩
end Go.Proofs.StSort
end
