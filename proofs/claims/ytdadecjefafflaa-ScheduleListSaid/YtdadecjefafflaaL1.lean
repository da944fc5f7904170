/- A part of what the law's proof leans on. PACKED BY pack.py of this repo. -/
import Derived.Test.YtdadecjefafflaaL0
set_option linter.unusedVariables false
set_option linter.unusedSimpArgs false
set_option linter.defProp false
set_option linter.unusedSectionVars false
section
namespace Go.Proofs.Ytdadecjefafflaa.PLst
set_option maxRecDepth 100000
open Go.RowKit Go.Proofs.YtdadecjefafflaaW.PrintWords Go.Proofs.YtdadecjefafflaaW.PrintLast Go.Proofs.YtdadecjefafflaaW.PrintMore
attribute [local go_sem] Bd Bb Bm Bk BU BT Bc Ba
mutual
def AN.j0:Nat→Bool→Int→List (S64)→Option (Bool)
 |0,_,_,_=>none
 |k+1,x20,x104000,x104001=>if x20=true then (some false) else (AN.l0 k x104001 (x104001.length:Int) 0 x104000 x104001)
def AN.l0:Nat→List (S64)→Int→Int→Int→List (S64)→Option (Bool)
 |0,_,_,_,_,_=>none
 |k+1,x22,x23,x24,x104000,x104001=>if x24<x23 then (if 0≤x24 then (if x24<(x22.length:Int) then ((BK.f ((AM x22 x24).f0)).bind fun t106=>(if t106=true then (if ((AM x22 x24).f1)<1 then (AN.j2 k x24 x22 x23 x24 true x104000 x104001 ((AM x22 x24).f0) ((AM x22 x24).f1) ((AM x22 x24).f2) ((AM x22 x24).f3)) else (if ((AM x22 x24).f1)>10000 then (AN.j2 k x24 x22 x23 x24 true x104000 x104001 ((AM x22 x24).f0) ((AM x22 x24).f1) ((AM x22 x24).f2) ((AM x22 x24).f3)) else (if ((AM x22 x24).f2)<0 then (AN.j2 k x24 x22 x23 x24 true x104000 x104001 ((AM x22 x24).f0) ((AM x22 x24).f1) ((AM x22 x24).f2) ((AM x22 x24).f3)) else (AN.j2 k x24 x22 x23 x24 (decide (((AM x22 x24).f2)>1000000)) x104000 x104001 ((AM x22 x24).f0) ((AM x22 x24).f1) ((AM x22 x24).f2) ((AM x22 x24).f3))))) else (AN.j2 k x24 x22 x23 x24 true x104000 x104001 ((AM x22 x24).f0) ((AM x22 x24).f1) ((AM x22 x24).f2) ((AM x22 x24).f3)))) else (none)) else (none)) else (some true)
def AN.j2:Nat→Int→List (S64)→Int→Int→Bool→Int→List (S64)→ByteArray→Int→Int→List Int→Option (Bool)
 |0,_,_,_,_,_,_,_,_,_,_,_=>none
 |k+1,x3,x22,x23,x24,x52,x104000,x104001,x106000,x106001,x106002,x106003=>if x52=true then (some false) else (if 0≤x3 then (if x3≤(x104001.length:Int) then ((Br.f (x104001.take (x3:Int).toNat) x106000).bind fun t111=>(if t111=true then (some false) else (AN.l1 k x3 x22 x23 x24 x106003 (x106003.length:Int) 0 x104000 x104001 x106000 x106001 x106002 x106003))) else (none)) else (none))
def AN.l1:Nat→Int→List (S64)→Int→Int→List Int→Int→Int→Int→List (S64)→ByteArray→Int→Int→List Int→Option (Bool)
 |0,_,_,_,_,_,_,_,_,_,_,_,_,_=>none
 |k+1,x3,x22,x23,x24,x60,x61,x62,x104000,x104001,x106000,x106001,x106002,x106003=>if x62<x61 then (if 0≤x62 then (if x62<(x60.length:Int) then (if (rd x60 x62)<0 then (some false) else (if (rd x60 x62)≥x3 then (some false) else (if x62>0 then (if 0≤(wrap64 (x62-1)) then (if (wrap64 (x62-1))<(x106003.length:Int) then (if (rd x106003 (wrap64 (x62-1)))≥(rd x60 x62) then (some false) else (AN.l1 k x3 x22 x23 x24 x60 x61 (wrap64 (x62+1)) x104000 x104001 x106000 x106001 x106002 x106003)) else (none)) else (none)) else (AN.l1 k x3 x22 x23 x24 x60 x61 (wrap64 (x62+1)) x104000 x104001 x106000 x106001 x106002 x106003)))) else (none)) else (none)) else (AN.l0 k x22 x23 (wrap64 (x24+1)) x104000 x104001)
end
def AN.f (k:Nat) (A8:Int) (l0_1:List (S64)):Option (Bool):=if A8<1 then (AN.j0 k true A8 l0_1) else (if A8>4 then (AN.j0 k true A8 l0_1) else (AN.j0 k (decide ((l0_1.length:Int)>40)) A8 l0_1))
theorem AN.mono_l:∀k,(∀y0 y1 y2,LeO (AN.j0 k y0 y1 y2) (AN.j0 (k+1) y0 y1 y2))∧(∀y0 y1 y2 y3 y4,LeO (AN.l0 k y0 y1 y2 y3 y4) (AN.l0 (k+1) y0 y1 y2 y3 y4))∧(∀y0 y1 y2 y3 y4 y5 y6 y7 y8 y9 y10,LeO (AN.j2 k y0 y1 y2 y3 y4 y5 y6 y7 y8 y9 y10) (AN.j2 (k+1) y0 y1 y2 y3 y4 y5 y6 y7 y8 y9 y10))∧(∀y0 y1 y2 y3 y4 y5 y6 y7 y8 y9 y10 y11 y12,LeO (AN.l1 k y0 y1 y2 y3 y4 y5 y6 y7 y8 y9 y10 y11 y12) (AN.l1 (k+1) y0 y1 y2 y3 y4 y5 y6 y7 y8 y9 y10 y11 y12))
 |0=>⟨fun _ _ _ r h=>by simp [AN.j0] at h,fun _ _ _ _ _ r h=>by simp [AN.l0] at h,fun _ _ _ _ _ _ _ _ _ _ _ r h=>by simp [AN.j2] at h,fun _ _ _ _ _ _ _ _ _ _ _ _ _ r h=>by simp [AN.l1] at h⟩
 | k +1=>by
  obtain ⟨ih0,ih1,ih2,ih3⟩:=AN.mono_l k
  refine ⟨?_,?_,?_,?_⟩
  ·intro y0 y1 y2
   unfold AN.j0
   repeat' first
   |(with_reducible exact ih0 _ _ _)
   |(with_reducible exact ih1 _ _ _ _ _)
   |(with_reducible exact ih2 _ _ _ _ _ _ _ _ _ _ _)
   |(with_reducible exact ih3 _ _ _ _ _ _ _ _ _ _ _ _ _)
   |(with_reducible exact LeO.refl _)
   |(with_reducible exact LeO.none _)
   |(with_reducible refine LeO.ite ?_ ?_)
   |(with_reducible refine LeO.bind ?_ (fun _=> ?_))
   |exact ih0 _ _ _
   |exact ih1 _ _ _ _ _
   |exact ih2 _ _ _ _ _ _ _ _ _ _ _
   |exact ih3 _ _ _ _ _ _ _ _ _ _ _ _ _
   |exact LeO.none _
   |refine LeO.ite ?_ ?_
   |refine LeO.bind ?_ (fun _=> ?_)
  ·intro y0 y1 y2 y3 y4
   unfold AN.l0
   repeat' first
   |(with_reducible exact ih0 _ _ _)
   |(with_reducible exact ih1 _ _ _ _ _)
   |(with_reducible exact ih2 _ _ _ _ _ _ _ _ _ _ _)
   |(with_reducible exact ih3 _ _ _ _ _ _ _ _ _ _ _ _ _)
   |(with_reducible exact LeO.refl _)
   |(with_reducible exact LeO.none _)
   |(with_reducible refine LeO.ite ?_ ?_)
   |(with_reducible refine LeO.bind ?_ (fun _=> ?_))
   |exact ih0 _ _ _
   |exact ih1 _ _ _ _ _
   |exact ih2 _ _ _ _ _ _ _ _ _ _ _
   |exact ih3 _ _ _ _ _ _ _ _ _ _ _ _ _
   |exact LeO.none _
   |refine LeO.ite ?_ ?_
   |refine LeO.bind ?_ (fun _=> ?_)
  ·intro y0 y1 y2 y3 y4 y5 y6 y7 y8 y9 y10
   unfold AN.j2
   repeat' first
   |(with_reducible exact ih0 _ _ _)
   |(with_reducible exact ih1 _ _ _ _ _)
   |(with_reducible exact ih2 _ _ _ _ _ _ _ _ _ _ _)
   |(with_reducible exact ih3 _ _ _ _ _ _ _ _ _ _ _ _ _)
   |(with_reducible exact LeO.refl _)
   |(with_reducible exact LeO.none _)
   |(with_reducible refine LeO.ite ?_ ?_)
   |(with_reducible refine LeO.bind ?_ (fun _=> ?_))
   |exact ih0 _ _ _
   |exact ih1 _ _ _ _ _
   |exact ih2 _ _ _ _ _ _ _ _ _ _ _
   |exact ih3 _ _ _ _ _ _ _ _ _ _ _ _ _
   |exact LeO.none _
   |refine LeO.ite ?_ ?_
   |refine LeO.bind ?_ (fun _=> ?_)
  ·intro y0 y1 y2 y3 y4 y5 y6 y7 y8 y9 y10 y11 y12
   unfold AN.l1
   repeat' first
   |(with_reducible exact ih0 _ _ _)
   |(with_reducible exact ih1 _ _ _ _ _)
   |(with_reducible exact ih2 _ _ _ _ _ _ _ _ _ _ _)
   |(with_reducible exact ih3 _ _ _ _ _ _ _ _ _ _ _ _ _)
   |(with_reducible exact LeO.refl _)
   |(with_reducible exact LeO.none _)
   |(with_reducible refine LeO.ite ?_ ?_)
   |(with_reducible refine LeO.bind ?_ (fun _=> ?_))
   |exact ih0 _ _ _
   |exact ih1 _ _ _ _ _
   |exact ih2 _ _ _ _ _ _ _ _ _ _ _
   |exact ih3 _ _ _ _ _ _ _ _ _ _ _ _ _
   |exact LeO.none _
   |refine LeO.ite ?_ ?_
   |refine LeO.bind ?_ (fun _=> ?_)
theorem AN.mono:∀a0 a1 k,LeO (AN.f k a0 a1) (AN.f (k+1) a0 a1):=by
 intro a0 a1 k
 obtain ⟨ih0,ih1,ih2,ih3⟩:=AN.mono_l k
 unfold AN.f
 repeat' first
  |(with_reducible exact ih0 _ _ _)
  |(with_reducible exact ih1 _ _ _ _ _)
  |(with_reducible exact ih2 _ _ _ _ _ _ _ _ _ _ _)
  |(with_reducible exact ih3 _ _ _ _ _ _ _ _ _ _ _ _ _)
  |(with_reducible exact LeO.refl _)
  |(with_reducible exact LeO.none _)
  |(with_reducible refine LeO.ite ?_ ?_)
  |(with_reducible refine LeO.bind ?_ (fun _=> ?_))
  |exact ih0 _ _ _
  |exact ih1 _ _ _ _ _
  |exact ih2 _ _ _ _ _ _ _ _ _ _ _
  |exact ih3 _ _ _ _ _ _ _ _ _ _ _ _ _
  |exact LeO.none _
  |refine LeO.ite ?_ ?_
  |refine LeO.bind ?_ (fun _=> ?_)
set_option maxHeartbeats 8000000 in
theorem AN.calls (k : Nat) (A8 : Int) (A0_1:Option Addr) (c0_1:Nat) (l0_1:List (S64)) (r:Bool) (w:World) (hr0_1:Kd.C k64 w A0_1 l0_1.length l0_1) (hc0_1:l0_1.length≤c0_1) (h:AN.f k A8 l0_1=some r):
    Calls Try.prog 29 #[.agg #[.int .i64 A8,.slice A0_1 l0_1.length c0_1]] w fun e w'=>e= .returned (.bool r)∧Below w.heap.size w w':=by
  have hu34:=Try.underlying34
  have hu64:=Try.underlying64
  have HR0_1:=yA hr0_1
  have HC0_1:=yA hc0_1
  clear hr0_1 hc0_1
  have HB:=yA (Below.refl w.heap.size w)
  have H:(if A8<1 then (AN.j0 k true A8 l0_1) else (if A8>4 then (AN.j0 k true A8 l0_1) else (AN.j0 k (decide ((l0_1.length:Int)>40)) A8 l0_1)))=some r:=h
  clear h
  have HC2:=yA H
  clear H
  go_enter Try.func29,Try.ntmps29
  go_upto_region 1 with (first|((with_reducible refine Aq (N:=1) rfl ?_); (try (refine BC (by rfl) ?_; dsimp only)); refine Av ?hg (N:=1) ?hd (cs:= #[.int .i64 A8,.slice A0_1 l0_1.length c0_1]) (t:=34) ?hr ?_; (case hd=>rfl); (case hg=>rfl); (case hr=>first|(go_simp; done)|(go_simp; rfl)); intro gb103 hg w3 hbox hb; have n0_:=yA (AO zB hb); have n1_:=yA (hbox); have n2_:=yA ((by rw [hg]; exact (AQ zB):w.heap.size≤gb103)); have n3_:=yA ((by rw [hg]; exact (AQ zB):w.heap.size≤gb103)); clear HB; have HB:=n0_; have BK103:=n1_; have GW103:=n2_; have GE103:=n3_; clear n0_ n1_ n2_ n3_; clear hb hbox hg))
  (try simp only [Act.put,List.setIfInBounds_toArray,List.set_cons_zero,List.set_cons_succ])
  go_cut [20] (fun v20 wc=>∃(kq:Nat) (x20_1:Bool),v20= .bool x20_1∧Aside0 (AN.j0 kq x20_1 A8 l0_1=some r)∧Aside0 (kq≤k)∧Aside0 (wc.heap[gb103]? =some (.cells #[.int .i64 A8,(.slice A0_1 l0_1.length c0_1)] 34 (0,0)))∧Aside0 (Below w.heap.size w wc))
  case first=>
    have H:=HC2.out
    clear HC2
    by_cases c4:A8<1
    · rw [if_pos c4] at H
      have c4b0:decide (A8<1)=true:=decide_eq_true c4
      clear c4
      (first|rw [c4b0]|(simp only [Aa,Ab]; rw [c4b0])|skip)
      have H':=yA H
      clear H
      have hcz5_0:w3.cell? ⟨gb103,0,none⟩=some (.int .i64 A8):=(AK BK103.out 0).trans rfl
      have hcz5_1:w3.cell? ⟨gb103,1,none⟩=some (.slice A0_1 l0_1.length c0_1):=(AK BK103.out 1).trans rfl
      have hfz5_0:=AJ BK103.out 0
      have hfz5_1:=AJ BK103.out 1
      go_wp2
      go_meet
      case rel=>exact ⟨_,(true),zH,H',⟨by first|omega|exact Nat.le_refl _⟩,⟨by (with_reducible repeat (first|refine AF ?_ _|refine AH ?_|refine AG ?_ _)); exact BK103.out⟩,⟨by repeat (first|(with_reducible first|exact HB.out|apply AE|apply AC|apply AD|refine AI ?_ GE103.out)|exact HB.out)⟩⟩
    · rw [if_neg c4] at H
      have c4b0:decide (A8<1)=false:=decide_eq_false c4
      clear c4
      (first|rw [c4b0]|(simp only [Aa,Ab]; rw [c4b0])|skip)
      by_cases c6:A8>4
      · rw [if_pos c6] at H
        have c6b0:decide (4<A8)=true:=decide_eq_true c6
        clear c6
        have H':=yA H
        clear H
        have hcz7_0:w3.cell? ⟨gb103,0,none⟩=some (.int .i64 A8):=(AK BK103.out 0).trans rfl
        have hcz7_1:w3.cell? ⟨gb103,1,none⟩=some (.slice A0_1 l0_1.length c0_1):=(AK BK103.out 1).trans rfl
        have hfz7_0:=AJ BK103.out 0
        have hfz7_1:=AJ BK103.out 1
        go_wp2
        go_meet
        case rel=>exact ⟨_,(true),zH,H',⟨by first|omega|exact Nat.le_refl _⟩,⟨by (with_reducible repeat (first|refine AF ?_ _|refine AH ?_|refine AG ?_ _)); exact BK103.out⟩,⟨by repeat (first|(with_reducible first|exact HB.out|apply AE|apply AC|apply AD|refine AI ?_ GE103.out)|exact HB.out)⟩⟩
      · rw [if_neg c6] at H
        have c6b0:decide (4<A8)=false:=decide_eq_false c6
        clear c6
        have H':=yA H
        clear H
        have hcz8_0:w3.cell? ⟨gb103,0,none⟩=some (.int .i64 A8):=(AK BK103.out 0).trans rfl
        have hcz8_1:w3.cell? ⟨gb103,1,none⟩=some (.slice A0_1 l0_1.length c0_1):=(AK BK103.out 1).trans rfl
        have hfz8_0:=AJ BK103.out 0
        have hfz8_1:=AJ BK103.out 1
        go_wp2
        go_meet
        case rel=>exact ⟨_,(decide ((l0_1.length:Int)>40)),zH,H',⟨by first|omega|exact Nat.le_refl _⟩,⟨by (with_reducible repeat (first|refine AF ?_ _|refine AH ?_|refine AG ?_ _)); exact BK103.out⟩,⟨by repeat (first|(with_reducible first|exact HB.out|apply AE|apply AC|apply AD|refine AI ?_ GE103.out)|exact HB.out)⟩⟩
  case rest =>
    clear HC2
    try clear c2
    try clear p2
    try clear c4
    try clear c4b0
    try clear c6
    try clear c6b0
    try clear hcz5_0
    try clear hcz5_1
    try clear hcz7_0
    try clear hcz7_1
    try clear hcz8_0
    try clear hcz8_1
    try clear hfz5_0
    try clear hfz5_1
    try clear hfz7_0
    try clear hfz7_1
    try clear hfz8_0
    try clear hfz8_1
    obtain ⟨kq,x20_1,rfl,HA,HJ1,BK103,HB⟩:=hcut
    cases kq with
    |zero=>exact absurd HA.out (by simp [AN.j0])
    | succ kj1=>
      have H:=HA.out
      clear HA
      simp only [AN.j0] at H
      by_cases c9:x20_1=true
      · subst c9
        have H1:(some false)=some r:=by rw [if_pos rfl] at H; exact H
        clear H
        have H:=H1
        clear H1
        obtain rfl:=Option.some.inj H
        go_wp2
        go_ret
        exact ⟨by first|rfl|(simp [AY,AX]<;>rfl)|(simp [*,AY,AX]<;>rfl),by repeat (first|(with_reducible first|exact HB.out|apply AE|apply AC|apply AD|refine AI ?_ GE103.out)|exact HB.out)⟩
      · replace c9 := Bool.eq_false_iff.mpr c9
        subst c9
        have H1:(AN.l0 kj1 l0_1 (l0_1.length:Int) 0 A8 l0_1)=some r:=by rw [if_neg (show ¬(false=true) by decide)] at H; exact H
        clear H
        have H:=H1
        clear H1
        have H':=yA H
        clear H
        have hcz10_0:wc.cell? ⟨gb103,0,none⟩=some (.int .i64 A8):=(AK BK103.out 0).trans rfl
        have hcz10_1:wc.cell? ⟨gb103,1,none⟩=some (.slice A0_1 l0_1.length c0_1):=(AK BK103.out 1).trans rfl
        have hfz10_0:=AJ BK103.out 0
        have hfz10_1:=AJ BK103.out 1
        go_wp2
        go_loopg [24] kj1 (fun kq v24 w'=>∃(x24_2:Int),v24= .int .i64 x24_2∧Aside0 (AN.l0 kq l0_1 (l0_1.length:Int) x24_2 A8 l0_1=some r)∧Aside0 (kq≤kj1)∧Aside0 (w'.heap[gb103]? =some (.cells #[.int .i64 A8,(.slice A0_1 l0_1.length c0_1)] 34 (0,0)))∧Aside0 (Below w.heap.size w w'))
        case atStart=>exact ⟨(0),zH,H',⟨Nat.le_refl _⟩,⟨by (with_reducible repeat (first|refine AF ?_ _|refine AH ?_|refine AG ?_ _)); exact BK103.out⟩,⟨by repeat (first|(with_reducible first|exact HB.out|apply AE|apply AC|apply AD|refine AI ?_ GE103.out)|exact HB.out)⟩⟩
        case round=>
          clear H'
          try clear c2
          try clear p2
          try clear c4
          try clear c4b0
          try clear c6
          try clear c6b0
          try clear c9
          try clear hcz10_0
          try clear hcz10_1
          try clear hcz5_0
          try clear hcz5_1
          try clear hcz7_0
          try clear hcz7_1
          try clear hcz8_0
          try clear hcz8_1
          try clear hfz10_0
          try clear hfz10_1
          try clear hfz5_0
          try clear hfz5_1
          try clear hfz7_0
          try clear hfz7_1
          try clear hfz8_0
          try clear hfz8_1
          try clear p2
          obtain ⟨x24_2,rfl,HA,HK2,BK103,HB⟩:=hrel
          cases gk with
          |zero=>exact absurd HA.out (by simp [AN.l0])
          | succ k2 =>
            have H:=HA.out
            clear HA
            simp only [AN.l0] at H
            by_cases c11:x24_2<(l0_1.length:Int)
            · rw [if_pos c11] at H
              have c11b0:decide (x24_2<(l0_1.length:Int))=true:=decide_eq_true c11
              clear c11
              by_cases c12:0≤x24_2
              · rw [if_pos c12] at H
                have c12b0:decide (0≤x24_2)=true:=decide_eq_true c12
                clear c12
                by_cases c13:x24_2<(l0_1.length:Int)
                · rw [if_pos c13] at H
                  have c13b0:decide (x24_2<(l0_1.length:Int))=true:=decide_eq_true c13
                  clear c13
                  have HC14:=yA H
                  clear H
                  have p104:0≤(x24_2:Int):=yD
                  have q104:x24_2<(l0_1.length:Int):=yD
                  obtain ⟨ad104,A104_3,c104_3,e104,hx104_0,hx104_1,hx104_2,hx104_3,hl104_3,hi104_3⟩:=C6 HR0_1.out x24_2 p104 q104
                  cases e104
                  replace hx104_0:=yC HB.out hx104_0
                  replace hx104_1:=yC HB.out hx104_1
                  replace hx104_2:=yC HB.out hx104_2
                  replace hx104_3:=yC HB.out hx104_3
                  have HR104_3:=yA hi104_3
                  have HC104_3:=yA hl104_3
                  clear hi104_3 hl104_3
                  replace p104:=eq_true p104
                  replace q104:=eq_true q104
                  go_upto_region 6 with (first|((with_reducible refine Aq (N:=4) rfl ?_); (try (refine BC (by rfl) ?_; dsimp only)); refine Av ?hg (N:=4) ?hd (cs:= #[.string (⟨#[]⟩:ByteArray),.int .i64 0,.int .i64 0,.slice none 0 0]) (t:=64) ?hr ?_; (case hd=>rfl); (case hg=>rfl); (case hr=>first|(go_simp; done)|(go_simp; rfl)); intro gb105 hg w15 hbox hb; have n0_:=yA (AP (g:=gb103) (o:= .cells #[.int .i64 A8,.slice (some ad104) l0_1.length c0_1] 34 (0,0)) (by (with_reducible repeat (first|refine AF ?_ _|refine AH ?_|refine AG ?_ _)); exact BK103.out) hb); have n1_:=yA (AO (by repeat (first|(with_reducible first|exact HB.out|apply AE|apply AC|apply AD|refine AI ?_ GE103.out)|exact HB.out)) hb); have n2_:=yA (hbox); have n3_:=yA ((by rw [hg]; exact (AQ (by repeat (first|(with_reducible first|exact HB.out|apply AE|apply AC|apply AD|refine AI ?_ GE103.out)|exact HB.out))):w.heap.size≤gb105)); have n4_:=yA ((by rw [hg]; exact (AQ (by repeat (first|(with_reducible first|exact HB.out|apply AE|apply AC|apply AD|refine AI ?_ GE103.out)|exact HB.out))):w.heap.size≤gb105)); have n5_:=yA ((by rw [hg]; exact Nat.ne_of_lt (B8 (g:=gb103) (o:= .cells #[.int .i64 A8,.slice (some ad104) l0_1.length c0_1] 34 (0,0)) (by (with_reducible repeat (first|refine AF ?_ _|refine AH ?_|refine AG ?_ _)); exact BK103.out)):gb103≠gb105)); have n6_:=yA ((by rw [hg]; exact Nat.ne_of_gt (B8 (g:=gb103) (o:= .cells #[.int .i64 A8,.slice (some ad104) l0_1.length c0_1] 34 (0,0)) (by (with_reducible repeat (first|refine AF ?_ _|refine AH ?_|refine AG ?_ _)); exact BK103.out)):gb105≠gb103)); clear BK103; clear HB; have BK103:=n0_; have HB:=n1_; have BK105:=n2_; have GW105:=n3_; have GE105:=n4_; have NB103_105:=n5_; have NB105_103:=n6_; clear n0_ n1_ n2_ n3_ n4_ n5_ n6_; clear hb hbox hg; have hnb16:=NB105_103.out; have hnc16:=NB103_105.out; have hcz17_0:w15.cell? ⟨gb105,0,none⟩=some (.string (⟨#[]⟩:ByteArray)):=(AK BK105.out 0).trans rfl; have hcz17_1:w15.cell? ⟨gb105,1,none⟩=some (.int .i64 0):=(AK BK105.out 1).trans rfl; have hcz17_2:w15.cell? ⟨gb105,2,none⟩=some (.int .i64 0):=(AK BK105.out 2).trans rfl; have hcz17_3:w15.cell? ⟨gb105,3,none⟩=some (.slice none 0 0):=(AK BK105.out 3).trans rfl; have hfz17_0:=AJ BK105.out 0; have hfz17_1:=AJ BK105.out 1; have hfz17_2:=AJ BK105.out 2; have hfz17_3:=AJ BK105.out 3))
                  (try simp only [Act.put,List.setIfInBounds_toArray,List.set_cons_zero,List.set_cons_succ])
                  go_cut [52] (fun v52 wc=>∃(kq:Nat) (x52_13:Bool),v52= .bool x52_13∧Aside0 (AN.j2 kq x24_2 l0_1 (l0_1.length:Int) x24_2 x52_13 A8 l0_1 ((AM l0_1 x24_2).f0) ((AM l0_1 x24_2).f1) ((AM l0_1 x24_2).f2) ((AM l0_1 x24_2).f3)=some r)∧Aside0 (kq≤k2)∧Aside0 (wc.heap[gb103]? =some (.cells #[.int .i64 A8,(.slice (some ad104) l0_1.length c0_1)] 34 (0,0)))∧Aside0 (wc.heap[gb105]? =some (.cells #[.string ((AM l0_1 x24_2).f0),.int .i64 ((AM l0_1 x24_2).f1),.int .i64 ((AM l0_1 x24_2).f2),(.slice A104_3 ((AM l0_1 x24_2).f3).length c104_3)] 64 (0,0)))∧Aside0 (Below w.heap.size w wc))
                  case first=>
                    have H:=HC14.out
                    clear HC14
                    replace H:=Option.bind_eq_some_iff.mp H
                    obtain ⟨t106,A180,H⟩:=H
                    replace H:(if t106=true then (if ((AM l0_1 x24_2).f1)<1 then (AN.j2 k2 x24_2 l0_1 (l0_1.length:Int) x24_2 true A8 l0_1 ((AM l0_1 x24_2).f0) ((AM l0_1 x24_2).f1) ((AM l0_1 x24_2).f2) ((AM l0_1 x24_2).f3)) else (if ((AM l0_1 x24_2).f1)>10000 then (AN.j2 k2 x24_2 l0_1 (l0_1.length:Int) x24_2 true A8 l0_1 ((AM l0_1 x24_2).f0) ((AM l0_1 x24_2).f1) ((AM l0_1 x24_2).f2) ((AM l0_1 x24_2).f3)) else (if ((AM l0_1 x24_2).f2)<0 then (AN.j2 k2 x24_2 l0_1 (l0_1.length:Int) x24_2 true A8 l0_1 ((AM l0_1 x24_2).f0) ((AM l0_1 x24_2).f1) ((AM l0_1 x24_2).f2) ((AM l0_1 x24_2).f3)) else (AN.j2 k2 x24_2 l0_1 (l0_1.length:Int) x24_2 (decide (((AM l0_1 x24_2).f2)>1000000)) A8 l0_1 ((AM l0_1 x24_2).f0) ((AM l0_1 x24_2).f1) ((AM l0_1 x24_2).f2) ((AM l0_1 x24_2).f3))))) else (AN.j2 k2 x24_2 l0_1 (l0_1.length:Int) x24_2 true A8 l0_1 ((AM l0_1 x24_2).f0) ((AM l0_1 x24_2).f1) ((AM l0_1 x24_2).f2) ((AM l0_1 x24_2).f3)))=some r:=H
                    have A18:=yA A180
                    clear A180
                    by_cases c19:t106=true
                    · subst c19
                      have H1:(if ((AM l0_1 x24_2).f1)<1 then (AN.j2 k2 x24_2 l0_1 (l0_1.length:Int) x24_2 true A8 l0_1 ((AM l0_1 x24_2).f0) ((AM l0_1 x24_2).f1) ((AM l0_1 x24_2).f2) ((AM l0_1 x24_2).f3)) else (if ((AM l0_1 x24_2).f1)>10000 then (AN.j2 k2 x24_2 l0_1 (l0_1.length:Int) x24_2 true A8 l0_1 ((AM l0_1 x24_2).f0) ((AM l0_1 x24_2).f1) ((AM l0_1 x24_2).f2) ((AM l0_1 x24_2).f3)) else (if ((AM l0_1 x24_2).f2)<0 then (AN.j2 k2 x24_2 l0_1 (l0_1.length:Int) x24_2 true A8 l0_1 ((AM l0_1 x24_2).f0) ((AM l0_1 x24_2).f1) ((AM l0_1 x24_2).f2) ((AM l0_1 x24_2).f3)) else (AN.j2 k2 x24_2 l0_1 (l0_1.length:Int) x24_2 (decide (((AM l0_1 x24_2).f2)>1000000)) A8 l0_1 ((AM l0_1 x24_2).f0) ((AM l0_1 x24_2).f1) ((AM l0_1 x24_2).f2) ((AM l0_1 x24_2).f3)))))=some r:=by rw [if_pos rfl] at H; exact H
                      clear H
                      have H:=H1
                      clear H1
                      by_cases c20:((AM l0_1 x24_2).f1)<1
                      · rw [if_pos c20] at H
                        have c20b0:decide (((AM l0_1 x24_2).f1)<1)=true:=decide_eq_true c20
                        clear c20
                        (first|rw [c20b0]|(simp only [Aa,Ab]; rw [c20b0])|skip)
                        have H':=yA H
                        clear H
                        have hnb21:=NB105_103.out
                        have hnc21:=NB103_105.out
                        have hcz22_0:w15.cell? ⟨gb105,0,none⟩=some (.string (⟨#[]⟩:ByteArray)):=(AK BK105.out 0).trans rfl
                        have hcz22_1:w15.cell? ⟨gb105,1,none⟩=some (.int .i64 0):=(AK BK105.out 1).trans rfl
                        have hcz22_2:w15.cell? ⟨gb105,2,none⟩=some (.int .i64 0):=(AK BK105.out 2).trans rfl
                        have hcz22_3:w15.cell? ⟨gb105,3,none⟩=some (.slice none 0 0):=(AK BK105.out 3).trans rfl
                        have hfz22_0:=AJ BK105.out 0
                        have hfz22_1:=AJ BK105.out 1
                        have hfz22_2:=AJ BK105.out 2
                        have hfz22_3:=AJ BK105.out 3
                        go_wp2_with (first|((with_reducible refine Ae (f:=47) rfl ?_); refine B6 (some 31) rfl rfl Try.func47 zI rfl #[.string ((AM l0_1 x24_2).f0)] rfl zD ?_; (with_reducible refine (BK.calls ((AM l0_1 x24_2).f0) true _ A18.out).mono ?_); rintro e w' ⟨rfl,⟨nd,rfl⟩⟩; refine ⟨_,rfl,?_⟩))
                        go_meet
                        case rel=>exact ⟨_,(true),zH,H',⟨by have:=HJ1.out; have:=HK2.out; first|omega|exact Nat.le_refl _⟩,⟨by (with_reducible repeat (first|refine AF ?_ _|refine AH ?_|refine AG ?_ _)); refine AV ?_ NB103_105.out _; (with_reducible repeat (first|refine AF ?_ _|refine AH ?_|refine AG ?_ _)); refine AV ?_ NB103_105.out _; (with_reducible repeat (first|refine AF ?_ _|refine AH ?_|refine AG ?_ _)); refine AV ?_ NB103_105.out _; (with_reducible repeat (first|refine AF ?_ _|refine AH ?_|refine AG ?_ _)); refine AV ?_ NB103_105.out _; (with_reducible repeat (first|refine AF ?_ _|refine AH ?_|refine AG ?_ _)); exact BK103.out⟩,⟨by (with_reducible repeat (first|refine AF ?_ _|refine AH ?_|refine AG ?_ _)); refine An (cs:= #[.string ((AM l0_1 x24_2).f0),.int .i64 ((AM l0_1 x24_2).f1),.int .i64 ((AM l0_1 x24_2).f2),.slice none 0 0]) ?_ 3 _ rfl; (with_reducible repeat (first|refine AF ?_ _|refine AH ?_|refine AG ?_ _)); refine An (cs:= #[.string ((AM l0_1 x24_2).f0),.int .i64 ((AM l0_1 x24_2).f1),.int .i64 0,.slice none 0 0]) ?_ 2 _ rfl; (with_reducible repeat (first|refine AF ?_ _|refine AH ?_|refine AG ?_ _)); refine An (cs:= #[.string ((AM l0_1 x24_2).f0),.int .i64 0,.int .i64 0,.slice none 0 0]) ?_ 1 _ rfl; (with_reducible repeat (first|refine AF ?_ _|refine AH ?_|refine AG ?_ _)); refine An (cs:= #[.string (⟨#[]⟩:ByteArray),.int .i64 0,.int .i64 0,.slice none 0 0]) ?_ 0 _ rfl; (with_reducible repeat (first|refine AF ?_ _|refine AH ?_|refine AG ?_ _)); exact BK105.out⟩,⟨by repeat (first|(with_reducible first|exact HB.out|apply AE|apply AC|apply AD|refine AI ?_ GE103.out|refine AI ?_ GE105.out)|exact HB.out)⟩⟩
                      · rw [if_neg c20] at H
                        have c20b0:decide (((AM l0_1 x24_2).f1)<1)=false:=decide_eq_false c20
                        clear c20
                        (first|rw [c20b0]|(simp only [Aa,Ab]; rw [c20b0])|skip)
                        by_cases c23:((AM l0_1 x24_2).f1)>10000
                        · rw [if_pos c23] at H
                          have c23b0:decide (10000<((AM l0_1 x24_2).f1))=true:=decide_eq_true c23
                          clear c23
                          have H':=yA H
                          clear H
                          have hnb24:=NB105_103.out
                          have hnc24:=NB103_105.out
                          have hcz25_0:w15.cell? ⟨gb105,0,none⟩=some (.string (⟨#[]⟩:ByteArray)):=(AK BK105.out 0).trans rfl
                          have hcz25_1:w15.cell? ⟨gb105,1,none⟩=some (.int .i64 0):=(AK BK105.out 1).trans rfl
                          have hcz25_2:w15.cell? ⟨gb105,2,none⟩=some (.int .i64 0):=(AK BK105.out 2).trans rfl
                          have hcz25_3:w15.cell? ⟨gb105,3,none⟩=some (.slice none 0 0):=(AK BK105.out 3).trans rfl
                          have hfz25_0:=AJ BK105.out 0
                          have hfz25_1:=AJ BK105.out 1
                          have hfz25_2:=AJ BK105.out 2
                          have hfz25_3:=AJ BK105.out 3
                          go_wp2_with (first|((with_reducible refine Ae (f:=47) rfl ?_); refine B6 (some 31) rfl rfl Try.func47 zI rfl #[.string ((AM l0_1 x24_2).f0)] rfl zD ?_; (with_reducible refine (BK.calls ((AM l0_1 x24_2).f0) true _ A18.out).mono ?_); rintro e w' ⟨rfl,⟨nd,rfl⟩⟩; refine ⟨_,rfl,?_⟩))
                          go_meet
                          case rel=>exact ⟨_,(true),zH,H',⟨by have:=HJ1.out; have:=HK2.out; first|omega|exact Nat.le_refl _⟩,⟨by (with_reducible repeat (first|refine AF ?_ _|refine AH ?_|refine AG ?_ _)); refine AV ?_ NB103_105.out _; (with_reducible repeat (first|refine AF ?_ _|refine AH ?_|refine AG ?_ _)); refine AV ?_ NB103_105.out _; (with_reducible repeat (first|refine AF ?_ _|refine AH ?_|refine AG ?_ _)); refine AV ?_ NB103_105.out _; (with_reducible repeat (first|refine AF ?_ _|refine AH ?_|refine AG ?_ _)); refine AV ?_ NB103_105.out _; (with_reducible repeat (first|refine AF ?_ _|refine AH ?_|refine AG ?_ _)); exact BK103.out⟩,⟨by (with_reducible repeat (first|refine AF ?_ _|refine AH ?_|refine AG ?_ _)); refine An (cs:= #[.string ((AM l0_1 x24_2).f0),.int .i64 ((AM l0_1 x24_2).f1),.int .i64 ((AM l0_1 x24_2).f2),.slice none 0 0]) ?_ 3 _ rfl; (with_reducible repeat (first|refine AF ?_ _|refine AH ?_|refine AG ?_ _)); refine An (cs:= #[.string ((AM l0_1 x24_2).f0),.int .i64 ((AM l0_1 x24_2).f1),.int .i64 0,.slice none 0 0]) ?_ 2 _ rfl; (with_reducible repeat (first|refine AF ?_ _|refine AH ?_|refine AG ?_ _)); refine An (cs:= #[.string ((AM l0_1 x24_2).f0),.int .i64 0,.int .i64 0,.slice none 0 0]) ?_ 1 _ rfl; (with_reducible repeat (first|refine AF ?_ _|refine AH ?_|refine AG ?_ _)); refine An (cs:= #[.string (⟨#[]⟩:ByteArray),.int .i64 0,.int .i64 0,.slice none 0 0]) ?_ 0 _ rfl; (with_reducible repeat (first|refine AF ?_ _|refine AH ?_|refine AG ?_ _)); exact BK105.out⟩,⟨by repeat (first|(with_reducible first|exact HB.out|apply AE|apply AC|apply AD|refine AI ?_ GE103.out|refine AI ?_ GE105.out)|exact HB.out)⟩⟩
                        · rw [if_neg c23] at H
                          have c23b0:decide (10000<((AM l0_1 x24_2).f1))=false:=decide_eq_false c23
                          clear c23
                          by_cases c26:((AM l0_1 x24_2).f2)<0
                          · rw [if_pos c26] at H
                            have c26b0:decide (((AM l0_1 x24_2).f2)<0)=true:=decide_eq_true c26
                            clear c26
                            have H':=yA H
                            clear H
                            have hnb27:=NB105_103.out
                            have hnc27:=NB103_105.out
                            have hcz28_0:w15.cell? ⟨gb105,0,none⟩=some (.string (⟨#[]⟩:ByteArray)):=(AK BK105.out 0).trans rfl
                            have hcz28_1:w15.cell? ⟨gb105,1,none⟩=some (.int .i64 0):=(AK BK105.out 1).trans rfl
                            have hcz28_2:w15.cell? ⟨gb105,2,none⟩=some (.int .i64 0):=(AK BK105.out 2).trans rfl
                            have hcz28_3:w15.cell? ⟨gb105,3,none⟩=some (.slice none 0 0):=(AK BK105.out 3).trans rfl
                            have hfz28_0:=AJ BK105.out 0
                            have hfz28_1:=AJ BK105.out 1
                            have hfz28_2:=AJ BK105.out 2
                            have hfz28_3:=AJ BK105.out 3
                            go_wp2_with (first|((with_reducible refine Ae (f:=47) rfl ?_); refine B6 (some 31) rfl rfl Try.func47 zI rfl #[.string ((AM l0_1 x24_2).f0)] rfl zD ?_; (with_reducible refine (BK.calls ((AM l0_1 x24_2).f0) true _ A18.out).mono ?_); rintro e w' ⟨rfl,⟨nd,rfl⟩⟩; refine ⟨_,rfl,?_⟩))
                            go_meet
                            case rel=>exact ⟨_,(true),zH,H',⟨by have:=HJ1.out; have:=HK2.out; first|omega|exact Nat.le_refl _⟩,⟨by (with_reducible repeat (first|refine AF ?_ _|refine AH ?_|refine AG ?_ _)); refine AV ?_ NB103_105.out _; (with_reducible repeat (first|refine AF ?_ _|refine AH ?_|refine AG ?_ _)); refine AV ?_ NB103_105.out _; (with_reducible repeat (first|refine AF ?_ _|refine AH ?_|refine AG ?_ _)); refine AV ?_ NB103_105.out _; (with_reducible repeat (first|refine AF ?_ _|refine AH ?_|refine AG ?_ _)); refine AV ?_ NB103_105.out _; (with_reducible repeat (first|refine AF ?_ _|refine AH ?_|refine AG ?_ _)); exact BK103.out⟩,⟨by (with_reducible repeat (first|refine AF ?_ _|refine AH ?_|refine AG ?_ _)); refine An (cs:= #[.string ((AM l0_1 x24_2).f0),.int .i64 ((AM l0_1 x24_2).f1),.int .i64 ((AM l0_1 x24_2).f2),.slice none 0 0]) ?_ 3 _ rfl; (with_reducible repeat (first|refine AF ?_ _|refine AH ?_|refine AG ?_ _)); refine An (cs:= #[.string ((AM l0_1 x24_2).f0),.int .i64 ((AM l0_1 x24_2).f1),.int .i64 0,.slice none 0 0]) ?_ 2 _ rfl; (with_reducible repeat (first|refine AF ?_ _|refine AH ?_|refine AG ?_ _)); refine An (cs:= #[.string ((AM l0_1 x24_2).f0),.int .i64 0,.int .i64 0,.slice none 0 0]) ?_ 1 _ rfl; (with_reducible repeat (first|refine AF ?_ _|refine AH ?_|refine AG ?_ _)); refine An (cs:= #[.string (⟨#[]⟩:ByteArray),.int .i64 0,.int .i64 0,.slice none 0 0]) ?_ 0 _ rfl; (with_reducible repeat (first|refine AF ?_ _|refine AH ?_|refine AG ?_ _)); exact BK105.out⟩,⟨by repeat (first|(with_reducible first|exact HB.out|apply AE|apply AC|apply AD|refine AI ?_ GE103.out|refine AI ?_ GE105.out)|exact HB.out)⟩⟩
                          · rw [if_neg c26] at H
                            have c26b0:decide (((AM l0_1 x24_2).f2)<0)=false:=decide_eq_false c26
                            clear c26
                            have H':=yA H
                            clear H
                            have hnb29:=NB105_103.out
                            have hnc29:=NB103_105.out
                            have hcz30_0:w15.cell? ⟨gb105,0,none⟩=some (.string (⟨#[]⟩:ByteArray)):=(AK BK105.out 0).trans rfl
                            have hcz30_1:w15.cell? ⟨gb105,1,none⟩=some (.int .i64 0):=(AK BK105.out 1).trans rfl
                            have hcz30_2:w15.cell? ⟨gb105,2,none⟩=some (.int .i64 0):=(AK BK105.out 2).trans rfl
                            have hcz30_3:w15.cell? ⟨gb105,3,none⟩=some (.slice none 0 0):=(AK BK105.out 3).trans rfl
                            have hfz30_0:=AJ BK105.out 0
                            have hfz30_1:=AJ BK105.out 1
                            have hfz30_2:=AJ BK105.out 2
                            have hfz30_3:=AJ BK105.out 3
                            go_wp2_with (first|((with_reducible refine Ae (f:=47) rfl ?_); refine B6 (some 31) rfl rfl Try.func47 zI rfl #[.string ((AM l0_1 x24_2).f0)] rfl zD ?_; (with_reducible refine (BK.calls ((AM l0_1 x24_2).f0) true _ A18.out).mono ?_); rintro e w' ⟨rfl,⟨nd,rfl⟩⟩; refine ⟨_,rfl,?_⟩))
                            go_meet
                            case rel=>exact ⟨_,(decide (((AM l0_1 x24_2).f2)>1000000)),zH,H',⟨by have:=HJ1.out; have:=HK2.out; first|omega|exact Nat.le_refl _⟩,⟨by (with_reducible repeat (first|refine AF ?_ _|refine AH ?_|refine AG ?_ _)); refine AV ?_ NB103_105.out _; (with_reducible repeat (first|refine AF ?_ _|refine AH ?_|refine AG ?_ _)); refine AV ?_ NB103_105.out _; (with_reducible repeat (first|refine AF ?_ _|refine AH ?_|refine AG ?_ _)); refine AV ?_ NB103_105.out _; (with_reducible repeat (first|refine AF ?_ _|refine AH ?_|refine AG ?_ _)); refine AV ?_ NB103_105.out _; (with_reducible repeat (first|refine AF ?_ _|refine AH ?_|refine AG ?_ _)); exact BK103.out⟩,⟨by (with_reducible repeat (first|refine AF ?_ _|refine AH ?_|refine AG ?_ _)); refine An (cs:= #[.string ((AM l0_1 x24_2).f0),.int .i64 ((AM l0_1 x24_2).f1),.int .i64 ((AM l0_1 x24_2).f2),.slice none 0 0]) ?_ 3 _ rfl; (with_reducible repeat (first|refine AF ?_ _|refine AH ?_|refine AG ?_ _)); refine An (cs:= #[.string ((AM l0_1 x24_2).f0),.int .i64 ((AM l0_1 x24_2).f1),.int .i64 0,.slice none 0 0]) ?_ 2 _ rfl; (with_reducible repeat (first|refine AF ?_ _|refine AH ?_|refine AG ?_ _)); refine An (cs:= #[.string ((AM l0_1 x24_2).f0),.int .i64 0,.int .i64 0,.slice none 0 0]) ?_ 1 _ rfl; (with_reducible repeat (first|refine AF ?_ _|refine AH ?_|refine AG ?_ _)); refine An (cs:= #[.string (⟨#[]⟩:ByteArray),.int .i64 0,.int .i64 0,.slice none 0 0]) ?_ 0 _ rfl; (with_reducible repeat (first|refine AF ?_ _|refine AH ?_|refine AG ?_ _)); exact BK105.out⟩,⟨by repeat (first|(with_reducible first|exact HB.out|apply AE|apply AC|apply AD|refine AI ?_ GE103.out|refine AI ?_ GE105.out)|exact HB.out)⟩⟩
                    · replace c19:=Bool.eq_false_iff.mpr c19
                      subst c19
                      have H1:(AN.j2 k2 x24_2 l0_1 (l0_1.length:Int) x24_2 true A8 l0_1 ((AM l0_1 x24_2).f0) ((AM l0_1 x24_2).f1) ((AM l0_1 x24_2).f2) ((AM l0_1 x24_2).f3))=some r:=by rw [if_neg (show ¬(false=true) by decide)] at H; exact H
                      clear H
                      have H:=H1
                      clear H1
                      have H':=yA H
                      clear H
                      have hnb31:=NB105_103.out
                      have hnc31:=NB103_105.out
                      have hcz32_0:w15.cell? ⟨gb105,0,none⟩=some (.string (⟨#[]⟩:ByteArray)):=(AK BK105.out 0).trans rfl
                      have hcz32_1:w15.cell? ⟨gb105,1,none⟩=some (.int .i64 0):=(AK BK105.out 1).trans rfl
                      have hcz32_2:w15.cell? ⟨gb105,2,none⟩=some (.int .i64 0):=(AK BK105.out 2).trans rfl
                      have hcz32_3:w15.cell? ⟨gb105,3,none⟩=some (.slice none 0 0):=(AK BK105.out 3).trans rfl
                      have hfz32_0:=AJ BK105.out 0
                      have hfz32_1:=AJ BK105.out 1
                      have hfz32_2:=AJ BK105.out 2
                      have hfz32_3:=AJ BK105.out 3
                      go_wp2_with (first|((with_reducible refine Ae (f:=47) rfl ?_); refine B6 (some 31) rfl rfl Try.func47 zI rfl #[.string ((AM l0_1 x24_2).f0)] rfl zD ?_; (with_reducible refine (BK.calls ((AM l0_1 x24_2).f0) false _ A18.out).mono ?_); rintro e w' ⟨rfl,⟨nd,rfl⟩⟩; refine ⟨_,rfl,?_⟩))
                      go_meet
                      case rel=>exact ⟨_,(true),zH,H',⟨by have:=HJ1.out; have:=HK2.out; first|omega|exact Nat.le_refl _⟩,⟨by (with_reducible repeat (first|refine AF ?_ _|refine AH ?_|refine AG ?_ _)); refine AV ?_ NB103_105.out _; (with_reducible repeat (first|refine AF ?_ _|refine AH ?_|refine AG ?_ _)); refine AV ?_ NB103_105.out _; (with_reducible repeat (first|refine AF ?_ _|refine AH ?_|refine AG ?_ _)); refine AV ?_ NB103_105.out _; (with_reducible repeat (first|refine AF ?_ _|refine AH ?_|refine AG ?_ _)); refine AV ?_ NB103_105.out _; (with_reducible repeat (first|refine AF ?_ _|refine AH ?_|refine AG ?_ _)); exact BK103.out⟩,⟨by (with_reducible repeat (first|refine AF ?_ _|refine AH ?_|refine AG ?_ _)); refine An (cs:= #[.string ((AM l0_1 x24_2).f0),.int .i64 ((AM l0_1 x24_2).f1),.int .i64 ((AM l0_1 x24_2).f2),.slice none 0 0]) ?_ 3 _ rfl; (with_reducible repeat (first|refine AF ?_ _|refine AH ?_|refine AG ?_ _)); refine An (cs:= #[.string ((AM l0_1 x24_2).f0),.int .i64 ((AM l0_1 x24_2).f1),.int .i64 0,.slice none 0 0]) ?_ 2 _ rfl; (with_reducible repeat (first|refine AF ?_ _|refine AH ?_|refine AG ?_ _)); refine An (cs:= #[.string ((AM l0_1 x24_2).f0),.int .i64 0,.int .i64 0,.slice none 0 0]) ?_ 1 _ rfl; (with_reducible repeat (first|refine AF ?_ _|refine AH ?_|refine AG ?_ _)); refine An (cs:= #[.string (⟨#[]⟩:ByteArray),.int .i64 0,.int .i64 0,.slice none 0 0]) ?_ 0 _ rfl; (with_reducible repeat (first|refine AF ?_ _|refine AH ?_|refine AG ?_ _)); exact BK105.out⟩,⟨by repeat (first|(with_reducible first|exact HB.out|apply AE|apply AC|apply AD|refine AI ?_ GE103.out|refine AI ?_ GE105.out)|exact HB.out)⟩⟩
                  case rest =>
                    clear HC14
                    try clear c1
                    try clear p1
                    try clear q1
                    try clear hx1
                    try clear c2
                    try clear p2
                    try clear c3
                    try clear c4
                    try clear c4b0
                    try clear c6
                    try clear c6b0
                    try clear c9
                    try clear c10
                    try clear p10
                    try clear q10
                    try clear hx10
                    try clear c11
                    try clear c11b0
                    try clear c12
                    try clear c12b0
                    try clear c13
                    try clear c13b0
                    try clear c16
                    try clear c19
                    try clear c20
                    try clear c20b0
                    try clear c21
                    try clear c23
                    try clear c23b0
                    try clear c24
                    try clear c26
                    try clear c26b0
                    try clear c27
                    try clear c29
                    try clear c31
                    try clear hcz10_0
                    try clear hcz10_1
                    try clear hcz17_0
                    try clear hcz17_1
                    try clear hcz17_2
                    try clear hcz17_3
                    try clear hcz22_0
                    try clear hcz22_1
                    try clear hcz22_2
                    try clear hcz22_3
                    try clear hcz25_0
                    try clear hcz25_1
                    try clear hcz25_2
                    try clear hcz25_3
                    try clear hcz28_0
                    try clear hcz28_1
                    try clear hcz28_2
                    try clear hcz28_3
                    try clear hcz30_0
                    try clear hcz30_1
                    try clear hcz30_2
                    try clear hcz30_3
                    try clear hcz32_0
                    try clear hcz32_1
                    try clear hcz32_2
                    try clear hcz32_3
                    try clear hcz5_0
                    try clear hcz5_1
                    try clear hcz7_0
                    try clear hcz7_1
                    try clear hcz8_0
                    try clear hcz8_1
                    try clear hfz10_0
                    try clear hfz10_1
                    try clear hfz17_0
                    try clear hfz17_1
                    try clear hfz17_2
                    try clear hfz17_3
                    try clear hfz22_0
                    try clear hfz22_1
                    try clear hfz22_2
                    try clear hfz22_3
                    try clear hfz25_0
                    try clear hfz25_1
                    try clear hfz25_2
                    try clear hfz25_3
                    try clear hfz28_0
                    try clear hfz28_1
                    try clear hfz28_2
                    try clear hfz28_3
                    try clear hfz30_0
                    try clear hfz30_1
                    try clear hfz30_2
                    try clear hfz30_3
                    try clear hfz32_0
                    try clear hfz32_1
                    try clear hfz32_2
                    try clear hfz32_3
                    try clear hfz5_0
                    try clear hfz5_1
                    try clear hfz7_0
                    try clear hfz7_1
                    try clear hfz8_0
                    try clear hfz8_1
                    try clear hx104_0
                    try clear hx104_1
                    try clear hx104_2
                    try clear hx104_3
                    try clear p104
                    try clear p2
                    try clear q104
                    obtain ⟨kq,x52_13,rfl,HA,HJ13,BK103,BK105,HB⟩:=hcut
                    cases kq with
                    |zero=>exact absurd HA.out (by simp [AN.j2])
                    | succ kj13 =>
                      have H:=HA.out
                      clear HA
                      simp only [AN.j2] at H
                      by_cases c33:x52_13=true
                      · subst c33
                        have H1:(some false)=some r:=by rw [if_pos rfl] at H; exact H
                        clear H
                        have H:=H1
                        clear H1
                        obtain rfl:=Option.some.inj H
                        go_wp2
                        go_ret
                        exact ⟨by first|rfl|(simp [AY,AX]<;>rfl)|(simp [*,AY,AX]<;>rfl),by repeat (first|(with_reducible first|exact HB.out|apply AE|apply AC|apply AD|refine AI ?_ GE103.out|refine AI ?_ GE105.out)|exact HB.out)⟩
                      · replace c33 :=Bool.eq_false_iff.mpr c33
                        subst c33
                        have H1:(if 0≤x24_2 then (if x24_2≤(l0_1.length:Int) then ((Br.f (l0_1.take (x24_2:Int).toNat) ((AM l0_1 x24_2).f0)).bind fun t111=>(if t111=true then (some false) else (AN.l1 kj13 x24_2 l0_1 (l0_1.length:Int) x24_2 ((AM l0_1 x24_2).f3) (((AM l0_1 x24_2).f3).length:Int) 0 A8 l0_1 ((AM l0_1 x24_2).f0) ((AM l0_1 x24_2).f1) ((AM l0_1 x24_2).f2) ((AM l0_1 x24_2).f3)))) else (none)) else (none))=some r:=by rw [if_neg (show ¬(false=true) by decide)] at H; exact H
                        clear H
                        have H:=H1
                        clear H1
                        by_cases c34:0≤x24_2
                        · rw [if_pos c34] at H
                          have c34b0:=eq_true c34
                          have c34b1:decide (0≤x24_2)=true:=decide_eq_true c34
                          clear c34
                          by_cases c35:x24_2≤(l0_1.length:Int)
                          · rw [if_pos c35] at H
                            have c35b0:=eq_true c35
                            have c35b1:decide (x24_2≤(l0_1.length:Int))=true:=decide_eq_true c35
                            clear c35
                            obtain ⟨y107,hy107⟩:∃y_:List (S64),y_=(l0_1.take (x24_2:Int).toNat):=⟨_,rfl⟩
                            replace H:((Br.f y107 ((AM l0_1 x24_2).f0)).bind fun t111=>(if t111=true then (some false) else (AN.l1 kj13 x24_2 l0_1 (l0_1.length:Int) x24_2 ((AM l0_1 x24_2).f3) (((AM l0_1 x24_2).f3).length:Int) 0 A8 l0_1 ((AM l0_1 x24_2).f0) ((AM l0_1 x24_2).f1) ((AM l0_1 x24_2).f2) ((AM l0_1 x24_2).f3))))=some r:=by first|(rw [hy107]; with_reducible exact H)|(have H2_:=(Option.bind_some _ _).symm.trans H; rw [hy107]; with_reducible exact H2_)|(have H2_:=(Option.bind_some _ _).symm.trans H; with_reducible exact H2_)|with_reducible exact H|(rw [hy107]; exact H)|exact H
                            have Ny107:=yA hy107
                            clear hy107
                            replace H:=Option.bind_eq_some_iff.mp H
                            obtain ⟨t111,A360,H⟩:=H
                            replace H:(if t111=true then (some false) else (AN.l1 kj13 x24_2 l0_1 (l0_1.length:Int) x24_2 ((AM l0_1 x24_2).f3) (((AM l0_1 x24_2).f3).length:Int) 0 A8 l0_1 ((AM l0_1 x24_2).f0) ((AM l0_1 x24_2).f1) ((AM l0_1 x24_2).f2) ((AM l0_1 x24_2).f3)))=some r:=H
                            have A36:=yA A360
                            clear A360
                            by_cases c37:t111=true
                            · subst c37
                              have H1:(some false)=some r:=by rw [if_pos rfl] at H; exact H
                              clear H
                              have H:=H1
                              clear H1
                              obtain rfl:=Option.some.inj H
                              have hnb38:=NB103_105.out
                              have hnc38:=NB105_103.out
                              have hcz39_0:wc.cell? ⟨gb103,0,none⟩=some (.int .i64 A8):=(AK BK103.out 0).trans rfl
                              have hcz39_1:wc.cell? ⟨gb103,1,none⟩=some (.slice (some ad104) l0_1.length c0_1):=(AK BK103.out 1).trans rfl
                              have hfz39_0:=AJ BK103.out 0
                              have hfz39_1:=AJ BK103.out 1
                              have q40:(x24_2:Int)≤((l0_1.length:Int):Int):=yD
                              obtain ⟨i040,hi040,_,hsz40,_⟩:=info_parts info64
                              have hroom40:l0_1.length≤c0_1:=HC0_1.out
                              have hC40:Kd.C k64 _ (some ad104) l0_1.length l0_1:=HR0_1.out
                              have hcut40:=H9 (P:=Try.prog) 32 64 .i64 Try.underlying32 hi040 (some ad104) l0_1.length c0_1 x24_2 (yD) q40 hroom40
                              have hr40:=Kd.C_take (m:=(x24_2:Int).toNat) hC40 zE
                              have hy40:y107.length=(x24_2:Int).toNat:=(by rw [Ny107.out,List.length_take]; omega)
                              rw [←Ny107.out] at hr40
                              rw [←hy40] at hcut40
                              have HR110:=yA hr40
                              have HC110:=yA (show y107.length≤c0_1 from by omega)
                              clear hr40 hC40 hroom40 hi040 hsz40
                              have KY40:=yA hy40
                              clear hy40
                              replace q40:=eq_true q40
                              have hcz41_0:wc.cell? ⟨gb105,0,none⟩=some (.string ((AM l0_1 x24_2).f0)):=(AK BK105.out 0).trans rfl
                              have hcz41_1:wc.cell? ⟨gb105,1,none⟩=some (.int .i64 ((AM l0_1 x24_2).f1)):=(AK BK105.out 1).trans rfl
                              have hcz41_2:wc.cell? ⟨gb105,2,none⟩=some (.int .i64 ((AM l0_1 x24_2).f2)):=(AK BK105.out 2).trans rfl
                              have hcz41_3:wc.cell? ⟨gb105,3,none⟩=some (.slice A104_3 ((AM l0_1 x24_2).f3).length c104_3):=(AK BK105.out 3).trans rfl
                              have hfz41_0:=AJ BK105.out 0
                              have hfz41_1:=AJ BK105.out 1
                              have hfz41_2:=AJ BK105.out 2
                              have hfz41_3:=AJ BK105.out 3
                              go_wp2_with (first|((with_reducible refine Ae (f:=48) rfl ?_); refine B6 (some 58) rfl rfl Try.func48 zI rfl #[.slice (some ad104) y107.length c0_1,.func (.func 49) #[] #[.pointer (some ⟨gb105,0,none⟩)]] rfl zD ?_; (with_reducible refine (Br.calls _ _ y107 ((AM l0_1 x24_2).f0) true _ ?side1 ?side2 A36.out (by (with_reducible repeat (first|refine AF ?_ _|refine AH ?_|refine AG ?_ _)); exact BK105.out)).mono ?_); (case side1=>repeat (first|exact (Kd.C_below HR110.out HB.out)|(with_reducible refine Kd.C_alloc ?_ _)|(with_reducible refine Kd.C_drewN ?_ _)|(with_reducible refine Kd.C_drew ?_))); (case side2=>exact HC110.out); rintro e w42 ⟨rfl,hb⟩; refine ⟨_,rfl,?_⟩; have n0_:=yA (AP (g:=gb103) (o:= .cells #[.int .i64 A8,.slice (some ad104) l0_1.length c0_1] 34 (0,0)) (by (with_reducible repeat (first|refine AF ?_ _|refine AH ?_|refine AG ?_ _)); exact BK103.out) hb); have n1_:=yA (AP (g:=gb105) (o:= .cells #[.string ((AM l0_1 x24_2).f0),.int .i64 ((AM l0_1 x24_2).f1),.int .i64 ((AM l0_1 x24_2).f2),.slice A104_3 ((AM l0_1 x24_2).f3).length c104_3] 64 (0,0)) (by (with_reducible repeat (first|refine AF ?_ _|refine AH ?_|refine AG ?_ _)); exact BK105.out) hb); have n2_:=yA (AO (by repeat (first|(with_reducible first|exact HB.out|apply AE|apply AC|apply AD|refine AI ?_ GE103.out|refine AI ?_ GE105.out)|exact HB.out)) hb); clear BK103; clear BK105; clear HB; have BK103:=n0_; have BK105:=n1_; have HB:=n2_; clear n0_ n1_ n2_; (try clear hb); (try clear hb2); (try clear hk); (try clear hi)))
                              go_ret
                              exact ⟨by first|rfl|(simp [AY,AX]<;>rfl)|(simp [*,AY,AX]<;>rfl),by repeat (first|(with_reducible first|exact HB.out|apply AE|apply AC|apply AD|refine AI ?_ GE103.out|refine AI ?_ GE105.out)|exact HB.out)⟩
                            · replace c37 :=Bool.eq_false_iff.mpr c37
                              subst c37
                              have H1:(AN.l1 kj13 x24_2 l0_1 (l0_1.length:Int) x24_2 ((AM l0_1 x24_2).f3) (((AM l0_1 x24_2).f3).length:Int) 0 A8 l0_1 ((AM l0_1 x24_2).f0) ((AM l0_1 x24_2).f1) ((AM l0_1 x24_2).f2) ((AM l0_1 x24_2).f3))=some r:=by rw [if_neg (show ¬(false=true) by decide)] at H; exact H
                              clear H
                              have H:=H1
                              clear H1
                              have H':=yA H
                              clear H
                              have hnb43:=NB103_105.out
                              have hnc43:=NB105_103.out
                              have hcz44_0:wc.cell? ⟨gb103,0,none⟩=some (.int .i64 A8):=(AK BK103.out 0).trans rfl
                              have hcz44_1:wc.cell? ⟨gb103,1,none⟩=some (.slice (some ad104) l0_1.length c0_1):=(AK BK103.out 1).trans rfl
                              have hfz44_0:=AJ BK103.out 0
                              have hfz44_1:=AJ BK103.out 1
                              have q45:(x24_2:Int)≤((l0_1.length:Int):Int):=yD
                              obtain ⟨i045,hi045,_,hsz45,_⟩:=info_parts info64
                              have hroom45:l0_1.length≤c0_1:=HC0_1.out
                              have hC45:Kd.C k64 _ (some ad104) l0_1.length l0_1:=HR0_1.out
                              have hcut45:=H9 (P:=Try.prog) 32 64 .i64 Try.underlying32 hi045 (some ad104) l0_1.length c0_1 x24_2 (yD) q45 hroom45
                              have hr45:=Kd.C_take (m:=(x24_2:Int).toNat) hC45 zE
                              have hy45:y107.length=(x24_2:Int).toNat:=(by rw [Ny107.out,List.length_take]; omega)
                              rw [←Ny107.out] at hr45
                              rw [←hy45] at hcut45
                              have HR110:=yA hr45
                              have HC110:=yA (show y107.length≤c0_1 from by omega)
                              clear hr45 hC45 hroom45 hi045 hsz45
                              have KY45:=yA hy45
                              clear hy45
                              replace q45:=eq_true q45
                              have hcz46_0:wc.cell? ⟨gb105,0,none⟩=some (.string ((AM l0_1 x24_2).f0)):=(AK BK105.out 0).trans rfl
                              have hcz46_1:wc.cell? ⟨gb105,1,none⟩=some (.int .i64 ((AM l0_1 x24_2).f1)):=(AK BK105.out 1).trans rfl
                              have hcz46_2:wc.cell? ⟨gb105,2,none⟩=some (.int .i64 ((AM l0_1 x24_2).f2)):=(AK BK105.out 2).trans rfl
                              have hcz46_3:wc.cell? ⟨gb105,3,none⟩=some (.slice A104_3 ((AM l0_1 x24_2).f3).length c104_3):=(AK BK105.out 3).trans rfl
                              have hfz46_0:=AJ BK105.out 0
                              have hfz46_1:=AJ BK105.out 1
                              have hfz46_2:=AJ BK105.out 2
                              have hfz46_3:=AJ BK105.out 3
                              go_wp2_with (first|((with_reducible refine Ae (f:=48) rfl ?_); refine B6 (some 58) rfl rfl Try.func48 zI rfl #[.slice (some ad104) y107.length c0_1,.func (.func 49) #[] #[.pointer (some ⟨gb105,0,none⟩)]] rfl zD ?_; (with_reducible refine (Br.calls _ _ y107 ((AM l0_1 x24_2).f0) false _ ?side1 ?side2 A36.out (by (with_reducible repeat (first|refine AF ?_ _|refine AH ?_|refine AG ?_ _)); exact BK105.out)).mono ?_); (case side1=>repeat (first|exact (Kd.C_below HR110.out HB.out)|(with_reducible refine Kd.C_alloc ?_ _)|(with_reducible refine Kd.C_drewN ?_ _)|(with_reducible refine Kd.C_drew ?_))); (case side2=>exact HC110.out); rintro e w47 ⟨rfl,hb⟩; refine ⟨_,rfl,?_⟩; have n0_:=yA (AP (g:=gb103) (o:= .cells #[.int .i64 A8,.slice (some ad104) l0_1.length c0_1] 34 (0,0)) (by (with_reducible repeat (first|refine AF ?_ _|refine AH ?_|refine AG ?_ _)); exact BK103.out) hb); have n1_:=yA (AP (g:=gb105) (o:= .cells #[.string ((AM l0_1 x24_2).f0),.int .i64 ((AM l0_1 x24_2).f1),.int .i64 ((AM l0_1 x24_2).f2),.slice A104_3 ((AM l0_1 x24_2).f3).length c104_3] 64 (0,0)) (by (with_reducible repeat (first|refine AF ?_ _|refine AH ?_|refine AG ?_ _)); exact BK105.out) hb); have n2_:=yA (AO (by repeat (first|(with_reducible first|exact HB.out|apply AE|apply AC|apply AD|refine AI ?_ GE103.out|refine AI ?_ GE105.out)|exact HB.out)) hb); clear BK103; clear BK105; clear HB; have BK103:=n0_; have BK105:=n1_; have HB:=n2_; clear n0_ n1_ n2_; (try clear hb); (try clear hb2); (try clear hk); (try clear hi); have hcz48_0:w47.cell? ⟨gb105,0,none⟩=some (.string ((AM l0_1 x24_2).f0)):=(AK BK105.out 0).trans rfl; have hcz48_1:w47.cell? ⟨gb105,1,none⟩=some (.int .i64 ((AM l0_1 x24_2).f1)):=(AK BK105.out 1).trans rfl; have hcz48_2:w47.cell? ⟨gb105,2,none⟩=some (.int .i64 ((AM l0_1 x24_2).f2)):=(AK BK105.out 2).trans rfl; have hcz48_3:w47.cell? ⟨gb105,3,none⟩=some (.slice A104_3 ((AM l0_1 x24_2).f3).length c104_3):=(AK BK105.out 3).trans rfl; have hfz48_0:=AJ BK105.out 0; have hfz48_1:=AJ BK105.out 1; have hfz48_2:=AJ BK105.out 2; have hfz48_3:=AJ BK105.out 3))
                              go_loopg [62] kj13 (fun kq v62 w'=>∃(x62_4:Int),v62= .int .i64 x62_4∧Aside0 (AN.l1 kq x24_2 l0_1 (l0_1.length:Int) x24_2 ((AM l0_1 x24_2).f3) (((AM l0_1 x24_2).f3).length:Int) x62_4 A8 l0_1 ((AM l0_1 x24_2).f0) ((AM l0_1 x24_2).f1) ((AM l0_1 x24_2).f2) ((AM l0_1 x24_2).f3)=some r)∧Aside0 (kq≤kj13)∧Aside0 (w'.heap[gb103]? =some (.cells #[.int .i64 A8,(.slice (some ad104) l0_1.length c0_1)] 34 (0,0)))∧Aside0 (w'.heap[gb105]? =some (.cells #[.string ((AM l0_1 x24_2).f0),.int .i64 ((AM l0_1 x24_2).f1),.int .i64 ((AM l0_1 x24_2).f2),(.slice A104_3 ((AM l0_1 x24_2).f3).length c104_3)] 64 (0,0)))∧Aside0 (Below w.heap.size w w'))
                              case atStart=>exact ⟨(0),zH,H',⟨Nat.le_refl _⟩,⟨by (with_reducible repeat (first|refine AF ?_ _|refine AH ?_|refine AG ?_ _)); exact BK103.out⟩,⟨by (with_reducible repeat (first|refine AF ?_ _|refine AH ?_|refine AG ?_ _)); exact BK105.out⟩,⟨by repeat (first|(with_reducible first|exact HB.out|apply AE|apply AC|apply AD|refine AI ?_ GE103.out|refine AI ?_ GE105.out)|exact HB.out)⟩⟩
                              case round=>
                                clear H'
                                try clear c1
                                try clear p1
                                try clear q1
                                try clear hx1
                                try clear c2
                                try clear p2
                                try clear c3
                                try clear c4
                                try clear c4b0
                                try clear q4
                                try clear c6
                                try clear c6b0
                                try clear c9
                                try clear c10
                                try clear p10
                                try clear q10
                                try clear hx10
                                try clear c11
                                try clear c11b0
                                try clear c12
                                try clear c12b0
                                try clear c13
                                try clear c13b0
                                try clear c16
                                try clear c19
                                try clear c20
                                try clear c20b0
                                try clear c21
                                try clear c23
                                try clear c23b0
                                try clear c24
                                try clear c26
                                try clear c26b0
                                try clear c27
                                try clear c29
                                try clear c31
                                try clear c33
                                try clear c34
                                try clear c34b0
                                try clear c34b1
                                try clear c35
                                try clear c35b0
                                try clear c35b1
                                try clear c37
                                try clear c38
                                try clear q40
                                try clear c43
                                try clear q45
                                try clear c47
                                try clear hcz10_0
                                try clear hcz10_1
                                try clear hcz17_0
                                try clear hcz17_1
                                try clear hcz17_2
                                try clear hcz17_3
                                try clear hcz22_0
                                try clear hcz22_1
                                try clear hcz22_2
                                try clear hcz22_3
                                try clear hcz25_0
                                try clear hcz25_1
                                try clear hcz25_2
                                try clear hcz25_3
                                try clear hcz28_0
                                try clear hcz28_1
                                try clear hcz28_2
                                try clear hcz28_3
                                try clear hcz30_0
                                try clear hcz30_1
                                try clear hcz30_2
                                try clear hcz30_3
                                try clear hcz32_0
                                try clear hcz32_1
                                try clear hcz32_2
                                try clear hcz32_3
                                try clear hcz39_0
                                try clear hcz39_1
                                try clear hcz41_0
                                try clear hcz41_1
                                try clear hcz41_2
                                try clear hcz41_3
                                try clear hcz44_0
                                try clear hcz44_1
                                try clear hcz46_0
                                try clear hcz46_1
                                try clear hcz46_2
                                try clear hcz46_3
                                try clear hcz48_0
                                try clear hcz48_1
                                try clear hcz48_2
                                try clear hcz48_3
                                try clear hcz5_0
                                try clear hcz5_1
                                try clear hcz7_0
                                try clear hcz7_1
                                try clear hcz8_0
                                try clear hcz8_1
                                try clear hfz10_0
                                try clear hfz10_1
                                try clear hfz17_0
                                try clear hfz17_1
                                try clear hfz17_2
                                try clear hfz17_3
                                try clear hfz22_0
                                try clear hfz22_1
                                try clear hfz22_2
                                try clear hfz22_3
                                try clear hfz25_0
                                try clear hfz25_1
                                try clear hfz25_2
                                try clear hfz25_3
                                try clear hfz28_0
                                try clear hfz28_1
                                try clear hfz28_2
                                try clear hfz28_3
                                try clear hfz30_0
                                try clear hfz30_1
                                try clear hfz30_2
                                try clear hfz30_3
                                try clear hfz32_0
                                try clear hfz32_1
                                try clear hfz32_2
                                try clear hfz32_3
                                try clear hfz39_0
                                try clear hfz39_1
                                try clear hfz41_0
                                try clear hfz41_1
                                try clear hfz41_2
                                try clear hfz41_3
                                try clear hfz44_0
                                try clear hfz44_1
                                try clear hfz46_0
                                try clear hfz46_1
                                try clear hfz46_2
                                try clear hfz46_3
                                try clear hfz48_0
                                try clear hfz48_1
                                try clear hfz48_2
                                try clear hfz48_3
                                try clear hfz5_0
                                try clear hfz5_1
                                try clear hfz7_0
                                try clear hfz7_1
                                try clear hfz8_0
                                try clear hfz8_1
                                try clear hx104_0
                                try clear hx104_1
                                try clear hx104_2
                                try clear hx104_3
                                try clear p1
                                try clear p10
                                try clear p104
                                try clear p2
                                try clear q1
                                try clear q10
                                try clear q104
                                try clear q40
                                try clear q45
                                obtain ⟨x62_4,rfl,HA,HK4,BK103,BK105,HB⟩:=hrel
                                cases gk with
                                |zero=>exact absurd HA.out (by simp [AN.l1])
                                | succ k4 =>
                                  have H:=HA.out
                                  clear HA
                                  simp only [AN.l1] at H
                                  by_cases c49:x62_4<(((AM l0_1 x24_2).f3).length:Int)
                                  · rw [if_pos c49] at H
                                    have c49b0:decide (x62_4<(((AM l0_1 x24_2).f3).length:Int))=true:=decide_eq_true c49
                                    clear c49
                                    by_cases c50:0≤x62_4
                                    · rw [if_pos c50] at H
                                      have c50b0:decide (0≤x62_4)=true:=decide_eq_true c50
                                      clear c50
                                      by_cases c51:x62_4<(((AM l0_1 x24_2).f3).length:Int)
                                      · rw [if_pos c51] at H
                                        have c51b0:decide (x62_4<(((AM l0_1 x24_2).f3).length:Int))=true:=decide_eq_true c51
                                        clear c51
                                        by_cases c52:(rd ((AM l0_1 x24_2).f3) x62_4)<0
                                        · rw [if_pos c52] at H
                                          have c52b0:decide ((rd ((AM l0_1 x24_2).f3) x62_4)<0)=true:=decide_eq_true c52
                                          clear c52
                                          obtain rfl:=Option.some.inj H
                                          have p112:0≤(x62_4:Int):=yD
                                          have q112:x62_4<(((AM l0_1 x24_2).f3).length:Int):=yD
                                          obtain ⟨ad112,e112,hx112_0⟩:=Kd.at_int HR104_3.out x62_4 p112 q112
                                          cases e112
                                          replace hx112_0:=yC HB.out hx112_0
                                          replace p112:=eq_true p112
                                          replace q112:=eq_true q112
                                          go_wp2
                                          go_ret
                                          exact ⟨by first|rfl|(simp [AY,AX]<;>rfl)|(simp [*,AY,AX]<;>rfl),by repeat (first|(with_reducible first|exact HB.out|apply AE|apply AC|apply AD|refine AI ?_ GE103.out|refine AI ?_ GE105.out)|exact HB.out)⟩
                                        · rw [if_neg c52] at H
                                          have c52b0:decide ((rd ((AM l0_1 x24_2).f3) x62_4)<0)=false:=decide_eq_false c52
                                          clear c52
                                          by_cases c53:(rd ((AM l0_1 x24_2).f3) x62_4)≥x24_2
                                          · rw [if_pos c53] at H
                                            have c53b0:decide (x24_2≤(rd ((AM l0_1 x24_2).f3) x62_4))=true:=decide_eq_true c53
                                            clear c53
                                            obtain rfl:=Option.some.inj H
                                            have p112:0≤(x62_4:Int):=yD
                                            have q112:x62_4<(((AM l0_1 x24_2).f3).length:Int):=yD
                                            obtain ⟨ad112,e112,hx112_0⟩:=Kd.at_int HR104_3.out x62_4 p112 q112
                                            cases e112
                                            replace hx112_0:=yC HB.out hx112_0
                                            replace p112:=eq_true p112
                                            replace q112:=eq_true q112
                                            go_wp2
                                            go_ret
                                            exact ⟨by first|rfl|(simp [AY,AX]<;>rfl)|(simp [*,AY,AX]<;>rfl),by repeat (first|(with_reducible first|exact HB.out|apply AE|apply AC|apply AD|refine AI ?_ GE103.out|refine AI ?_ GE105.out)|exact HB.out)⟩
                                          · rw [if_neg c53] at H
                                            have c53b0:decide (x24_2≤(rd ((AM l0_1 x24_2).f3) x62_4))=false:=decide_eq_false c53
                                            clear c53
                                            by_cases c54:x62_4>0
                                            · rw [if_pos c54] at H
                                              have c54b0:decide (0<x62_4)=true:=decide_eq_true c54
                                              clear c54
                                              obtain ⟨ji55,hji55⟩:∃j_:Int,(wrap64 (x62_4-1))=j_:=⟨_,rfl⟩
                                              replace H:(if 0≤(ji55) then (if (ji55)<(((AM l0_1 x24_2).f3).length:Int) then (if (rd ((AM l0_1 x24_2).f3) (ji55))≥(rd ((AM l0_1 x24_2).f3) x62_4) then (some false) else (AN.l1 k4 x24_2 l0_1 (l0_1.length:Int) x24_2 ((AM l0_1 x24_2).f3) (((AM l0_1 x24_2).f3).length:Int) (wrap64 (x62_4+1)) A8 l0_1 ((AM l0_1 x24_2).f0) ((AM l0_1 x24_2).f1) ((AM l0_1 x24_2).f2) ((AM l0_1 x24_2).f3))) else (none)) else (none))=some r:=by first|(rw [hji55] at H; exact H)|(simp only [hji55] at H ⊢; exact H)
                                              have hji55w:(IntKind.i64.wrap (x62_4-1))=ji55:=(Aa _).trans hji55
                                              by_cases c56:0≤(ji55)
                                              · rw [if_pos c56] at H
                                                have c56b0:decide (0≤(ji55))=true:=decide_eq_true c56
                                                clear c56
                                                by_cases c57:(ji55)<(((AM l0_1 x24_2).f3).length:Int)
                                                · rw [if_pos c57] at H
                                                  have c57b0:decide ((ji55)<(((AM l0_1 x24_2).f3).length:Int))=true:=decide_eq_true c57
                                                  clear c57
                                                  by_cases c58:(rd ((AM l0_1 x24_2).f3) (ji55))≥(rd ((AM l0_1 x24_2).f3) x62_4)
                                                  · rw [if_pos c58] at H
                                                    have c58b0:decide ((rd ((AM l0_1 x24_2).f3) x62_4)≤(rd ((AM l0_1 x24_2).f3) (ji55)))=true:=decide_eq_true c58
                                                    clear c58
                                                    obtain rfl:=Option.some.inj H
                                                    have p112:0≤(x62_4:Int):=yD
                                                    have q112:x62_4<(((AM l0_1 x24_2).f3).length:Int):=yD
                                                    obtain ⟨ad112,e112,hx112_0⟩:=Kd.at_int HR104_3.out x62_4 p112 q112
                                                    cases e112
                                                    replace hx112_0:=yC HB.out hx112_0
                                                    replace p112:=eq_true p112
                                                    replace q112:=eq_true q112
                                                    have hnb59:=NB105_103.out
                                                    have hnc59:=NB103_105.out
                                                    have hcz60_0:wr.cell? ⟨gb105,0,none⟩=some (.string ((AM l0_1 x24_2).f0)):=(AK BK105.out 0).trans rfl
                                                    have hcz60_1:wr.cell? ⟨gb105,1,none⟩=some (.int .i64 ((AM l0_1 x24_2).f1)):=(AK BK105.out 1).trans rfl
                                                    have hcz60_2:wr.cell? ⟨gb105,2,none⟩=some (.int .i64 ((AM l0_1 x24_2).f2)):=(AK BK105.out 2).trans rfl
                                                    have hcz60_3:wr.cell? ⟨gb105,3,none⟩=some (.slice (some ad112) ((AM l0_1 x24_2).f3).length c104_3):=(AK BK105.out 3).trans rfl
                                                    have hfz60_0:=AJ BK105.out 0
                                                    have hfz60_1:=AJ BK105.out 1
                                                    have hfz60_2:=AJ BK105.out 2
                                                    have hfz60_3:=AJ BK105.out 3
                                                    have p113:0≤((ji55):Int):=yD
                                                    have q113:(ji55)<(((AM l0_1 x24_2).f3).length:Int):=yD
                                                    obtain ⟨ad113,e113,hx113_0⟩:=Kd.at_int HR104_3.out (ji55) p113 q113
                                                    obtain rfl:ad112=ad113:=(by injection e113)
                                                    replace hx113_0:=yC HB.out hx113_0
                                                    replace p113:=eq_true p113
                                                    replace q113:=eq_true q113
                                                    go_wp2
                                                    go_ret
                                                    exact ⟨by first|rfl|(simp [AY,AX]<;>rfl)|(simp only [←hji55]; first|rfl|(simp [AY,AX]<;>rfl))|(simp [*,AY,AX]<;>rfl),by repeat (first|(with_reducible first|exact HB.out|apply AE|apply AC|apply AD|refine AI ?_ GE103.out|refine AI ?_ GE105.out)|exact HB.out)⟩
                                                  · rw [if_neg c58] at H
                                                    have c58b0:decide ((rd ((AM l0_1 x24_2).f3) x62_4)≤(rd ((AM l0_1 x24_2).f3) (ji55)))=false:=decide_eq_false c58
                                                    clear c58
                                                    have H':=yA H
                                                    clear H
                                                    have p112:0≤(x62_4:Int):=yD
                                                    have q112:x62_4<(((AM l0_1 x24_2).f3).length:Int):=yD
                                                    obtain ⟨ad112,e112,hx112_0⟩:=Kd.at_int HR104_3.out x62_4 p112 q112
                                                    cases e112
                                                    replace hx112_0:=yC HB.out hx112_0
                                                    replace p112:=eq_true p112
                                                    replace q112:=eq_true q112
                                                    have hnb61:=NB105_103.out
                                                    have hnc61:=NB103_105.out
                                                    have hcz62_0:wr.cell? ⟨gb105,0,none⟩=some (.string ((AM l0_1 x24_2).f0)):=(AK BK105.out 0).trans rfl
                                                    have hcz62_1:wr.cell? ⟨gb105,1,none⟩=some (.int .i64 ((AM l0_1 x24_2).f1)):=(AK BK105.out 1).trans rfl
                                                    have hcz62_2:wr.cell? ⟨gb105,2,none⟩=some (.int .i64 ((AM l0_1 x24_2).f2)):=(AK BK105.out 2).trans rfl
                                                    have hcz62_3:wr.cell? ⟨gb105,3,none⟩=some (.slice (some ad112) ((AM l0_1 x24_2).f3).length c104_3):=(AK BK105.out 3).trans rfl
                                                    have hfz62_0:=AJ BK105.out 0
                                                    have hfz62_1:=AJ BK105.out 1
                                                    have hfz62_2:=AJ BK105.out 2
                                                    have hfz62_3:=AJ BK105.out 3
                                                    have p113:0≤((ji55):Int):=yD
                                                    have q113:(ji55)<(((AM l0_1 x24_2).f3).length:Int):=yD
                                                    obtain ⟨ad113,e113,hx113_0⟩:=Kd.at_int HR104_3.out (ji55) p113 q113
                                                    obtain rfl:ad112=ad113:=(by injection e113)
                                                    replace hx113_0:=yC HB.out hx113_0
                                                    replace p113:=eq_true p113
                                                    replace q113:=eq_true q113
                                                    go_wp2
                                                    go_roundg k4
                                                    case measure=>have:=HJ1.out; have:=HK2.out; have:=HJ13.out; have:=HK4.out; omega
                                                    case rel=>exact ⟨(wrap64 (x62_4+1)),zH,H',⟨by have:=HJ1.out; have:=HK2.out; have:=HJ13.out; have:=HK4.out; omega⟩,⟨by (with_reducible repeat (first|refine AF ?_ _|refine AH ?_|refine AG ?_ _)); exact BK103.out⟩,⟨by (with_reducible repeat (first|refine AF ?_ _|refine AH ?_|refine AG ?_ _)); exact BK105.out⟩,⟨by repeat (first|(with_reducible first|exact HB.out|apply AE|apply AC|apply AD|refine AI ?_ GE103.out|refine AI ?_ GE105.out)|exact HB.out)⟩⟩
                                                · rw [if_neg c57] at H
                                                  exact absurd H zA5
                                              · rw [if_neg c56] at H
                                                exact absurd H zA5
                                            · rw [if_neg c54] at H
                                              have c54b0:decide (0<x62_4)=false:=decide_eq_false c54
                                              clear c54
                                              have H':=yA H
                                              clear H
                                              have p112:0≤(x62_4:Int):=yD
                                              have q112:x62_4<(((AM l0_1 x24_2).f3).length:Int):=yD
                                              obtain ⟨ad112,e112,hx112_0⟩:=Kd.at_int HR104_3.out x62_4 p112 q112
                                              cases e112
                                              replace hx112_0:=yC HB.out hx112_0
                                              replace p112:=eq_true p112
                                              replace q112:=eq_true q112
                                              go_wp2
                                              go_roundg k4
                                              case measure=>have:=HJ1.out; have:=HK2.out; have:=HJ13.out; have:=HK4.out; omega
                                              case rel=>exact ⟨(wrap64 (x62_4+1)),zH,H',⟨by have:=HJ1.out; have:=HK2.out; have:=HJ13.out; have:=HK4.out; omega⟩,⟨by (with_reducible repeat (first|refine AF ?_ _|refine AH ?_|refine AG ?_ _)); exact BK103.out⟩,⟨by (with_reducible repeat (first|refine AF ?_ _|refine AH ?_|refine AG ?_ _)); exact BK105.out⟩,⟨by repeat (first|(with_reducible first|exact HB.out|apply AE|apply AC|apply AD|refine AI ?_ GE103.out|refine AI ?_ GE105.out)|exact HB.out)⟩⟩
                                      · rw [if_neg c51] at H
                                        exact absurd H zA5
                                    · rw [if_neg c50] at H
                                      exact absurd H zA5
                                  · rw [if_neg c49] at H
                                    have c49b0:decide (x62_4<(((AM l0_1 x24_2).f3).length:Int))=false:=decide_eq_false c49
                                    clear c49
                                    have H':=yA H
                                    clear H
                                    go_wp2
                                    go_roundg k4
                                    case measure=>have:=HJ1.out; have:=HK2.out; have:=HJ13.out; have:=HK4.out; omega
                                    case rel=>exact ⟨(wrap64 (x24_2+1)),zH,H',⟨by have:=HJ1.out; have:=HK2.out; have:=HJ13.out; have:=HK4.out; omega⟩,⟨by (with_reducible repeat (first|refine AF ?_ _|refine AH ?_|refine AG ?_ _)); exact BK103.out⟩,⟨by repeat (first|(with_reducible first|exact HB.out|apply AE|apply AC|apply AD|refine AI ?_ GE103.out|refine AI ?_ GE105.out)|exact HB.out)⟩⟩
                          · rw [if_neg c35] at H
                            exact absurd H zA5
                        · rw [if_neg c34] at H
                          exact absurd H zA5
                · rw [if_neg c13] at H
                  exact absurd H zA5
              · rw [if_neg c12] at H
                exact absurd H zA5
            · rw [if_neg c11] at H
              have c11b0:decide (x24_2<(l0_1.length:Int))=false:=decide_eq_false c11
              clear c11
              obtain rfl:=Option.some.inj H
              go_wp2
              go_ret
              exact ⟨by first|rfl|(simp [AY,AX]<;>rfl)|(simp [*,AY,AX]<;>rfl),by repeat (first|(with_reducible first|exact HB.out|apply AE|apply AC|apply AD|refine AI ?_ GE103.out)|exact HB.out)⟩
end Go.Proofs.Ytdadecjefafflaa.PLst
end
section
namespace Go.Proofs.Ytdadecjefafflaa.PLst
set_option maxRecDepth 100000
open Go.RowKit Go.Proofs.YtdadecjefafflaaW.PrintWords Go.Proofs.YtdadecjefafflaaW.PrintLast Go.Proofs.YtdadecjefafflaaW.PrintMore
attribute [local go_sem] Bd Bb Bm Bk BU BT Bc Ba
mutual
def Ad.l0:Nat→List Int→List (S64)→Int→Int→Option (List Int×Int)
 |0,_,_,_,_=>none
 |k+1,x4,x14,x15,x16=>if x16<x15 then (if 0≤x16 then (if x16<(x14.length:Int) then (Ad.l1 k x4 0 x14 x15 x16 ((AM x14 x16).f3) (((AM x14 x16).f3).length:Int) 0 ((AM x14 x16).f0) ((AM x14 x16).f1) ((AM x14 x16).f2) ((AM x14 x16).f3)) else (none)) else (none)) else (some (x4,0))
def Ad.l1:Nat→List Int→Int→List (S64)→Int→Int→List Int→Int→Int→ByteArray→Int→Int→List Int→Option (List Int×Int)
 |0,_,_,_,_,_,_,_,_,_,_,_,_=>none
 |k+1,x4,x7,x14,x15,x16,x21,x22,x23,x118000,x118001,x118002,x118003=>if x23<x22 then (if 0≤x23 then (if x23<(x21.length:Int) then (if 0≤(rd x21 x23) then (if (rd x21 x23)<(x4.length:Int) then (Ad.l1 k x4 (mx x7 (rd x4 (rd x21 x23))) x14 x15 x16 x21 x22 (wrap64 (x23+1)) x118000 x118001 x118002 x118003) else (none)) else (none)) else (none)) else (none)) else (if x4.length<17592186044416 then (Ad.l0 k (x4++[wrap64 (x7+x118001)]) x14 x15 (wrap64 (x16+1))) else (none))
end
def Ad.f (k:Nat) (A8:Int) (l0_1:List (S64)):Option (List Int×Int):=(AN.f k A8 l0_1).bind fun t115=>(if t115=true then (Ad.l0 k ([]:List Int) l0_1 (l0_1.length:Int) 0) else (some (([]:List Int),1)))
theorem Ad.mono_l:∀k,(∀y0 y1 y2 y3,LeO (Ad.l0 k y0 y1 y2 y3) (Ad.l0 (k+1) y0 y1 y2 y3))∧(∀y0 y1 y2 y3 y4 y5 y6 y7 y8 y9 y10 y11,LeO (Ad.l1 k y0 y1 y2 y3 y4 y5 y6 y7 y8 y9 y10 y11) (Ad.l1 (k+1) y0 y1 y2 y3 y4 y5 y6 y7 y8 y9 y10 y11))
 |0=>⟨fun _ _ _ _ r h=>by simp [Ad.l0] at h,fun _ _ _ _ _ _ _ _ _ _ _ _ r h=>by simp [Ad.l1] at h⟩
 | k +1=>by
  obtain ⟨ih0,ih1⟩:=Ad.mono_l k
  refine ⟨?_,?_⟩
  ·intro y0 y1 y2 y3
   unfold Ad.l0
   repeat' first
   |(with_reducible exact ih0 _ _ _ _)
   |(with_reducible exact ih1 _ _ _ _ _ _ _ _ _ _ _ _)
   |(with_reducible exact AN.mono _ _ _)
   |(with_reducible exact LeO.refl _)
   |(with_reducible exact LeO.none _)
   |(with_reducible refine LeO.ite ?_ ?_)
   |(with_reducible refine LeO.bind ?_ (fun _=> ?_))
   |exact ih0 _ _ _ _
   |exact ih1 _ _ _ _ _ _ _ _ _ _ _ _
   |exact AN.mono _ _ _
   |exact LeO.none _
   |refine LeO.ite ?_ ?_
   |refine LeO.bind ?_ (fun _=> ?_)
  ·intro y0 y1 y2 y3 y4 y5 y6 y7 y8 y9 y10 y11
   unfold Ad.l1
   repeat' first
   |(with_reducible exact ih0 _ _ _ _)
   |(with_reducible exact ih1 _ _ _ _ _ _ _ _ _ _ _ _)
   |(with_reducible exact AN.mono _ _ _)
   |(with_reducible exact LeO.refl _)
   |(with_reducible exact LeO.none _)
   |(with_reducible refine LeO.ite ?_ ?_)
   |(with_reducible refine LeO.bind ?_ (fun _=> ?_))
   |exact ih0 _ _ _ _
   |exact ih1 _ _ _ _ _ _ _ _ _ _ _ _
   |exact AN.mono _ _ _
   |exact LeO.none _
   |refine LeO.ite ?_ ?_
   |refine LeO.bind ?_ (fun _=> ?_)
theorem Ad.mono:∀a0 a1 k,LeO (Ad.f k a0 a1) (Ad.f (k+1) a0 a1):=by
 intro a0 a1 k
 obtain ⟨ih0,ih1⟩:=Ad.mono_l k
 unfold Ad.f
 repeat' first
  |(with_reducible exact ih0 _ _ _ _)
  |(with_reducible exact ih1 _ _ _ _ _ _ _ _ _ _ _ _)
  |(with_reducible exact AN.mono _ _ _)
  |(with_reducible exact LeO.refl _)
  |(with_reducible exact LeO.none _)
  |(with_reducible refine LeO.ite ?_ ?_)
  |(with_reducible refine LeO.bind ?_ (fun _=> ?_))
  |exact ih0 _ _ _ _
  |exact ih1 _ _ _ _ _ _ _ _ _ _ _ _
  |exact AN.mono _ _ _
  |exact LeO.none _
  |refine LeO.ite ?_ ?_
  |refine LeO.bind ?_ (fun _=> ?_)
set_option maxHeartbeats 8000000 in
theorem Ad.calls (k:Nat) (A8:Int) (A0_1:Option Addr) (c0_1:Nat) (l0_1:List (S64)) (r1:List Int) (r2:Int) (w:World) (hr0_1:Kd.C k64 w A0_1 l0_1.length l0_1) (hc0_1:l0_1.length≤c0_1) (h:Ad.f k A8 l0_1=some (r1,r2)):
  Calls Try.prog 16 #[.agg #[.int .i64 A8,.slice A0_1 l0_1.length c0_1]] w fun e w'=>∃v0_:Value,e= .returned (.tuple #[v0_,.int .i64 r2])∧Kd.R (Kd.int .i64) 3 w' w.heap.size (fun _=>True) v0_ r1∧Below w.heap.size w w':=by
 have hu34:=Try.underlying34
 have hu64:=Try.underlying64
 have HR0_1:=yA hr0_1
 have HC0_1:=yA hc0_1
 clear hr0_1 hc0_1
 have HB:=yA (Below.refl w.heap.size w)
 have H:((AN.f k A8 l0_1).bind fun t115=>(if t115=true then (Ad.l0 k ([]:List Int) l0_1 (l0_1.length:Int) 0) else (some (([]:List Int),1))))=some (r1,r2):=h
 clear h
 replace H:=Option.bind_eq_some_iff.mp H
 obtain ⟨t115,A20,H⟩:=H
 replace H:(if t115=true then (Ad.l0 k ([]:List Int) l0_1 (l0_1.length:Int) 0) else (some (([]:List Int),1)))=some (r1,r2):=H
 have A2:=yA A20
 clear A20
 by_cases c3:t115=true
 ·subst c3
  have H1:(Ad.l0 k ([]:List Int) l0_1 (l0_1.length:Int) 0)=some (r1,r2):=by rw [if_pos rfl] at H; exact H
  clear H
  have H:=H1
  clear H1
  have H':=yA H
  clear H
  go_enter Try.func16,Try.ntmps16
  go_wp2_with (first|((with_reducible refine Aq (N:=1) rfl ?_); refine Av ?hg (N:=1) ?hd (cs:= #[.int .i64 A8,.slice A0_1 l0_1.length c0_1]) (t:=34) ?hr ?_; (case hd=>rfl); (case hg=>rfl); (case hr=>first|(go_simp; done)|(go_simp; rfl)); intro gb114 hg w4 hbox hb; have n0_:=yA (AO zB hb); have n1_:=yA (hbox); have n2_:=yA ((by rw [hg]; exact (AQ zB):w.heap.size≤gb114)); have n3_:=yA ((by rw [hg]; exact (AQ zB):w.heap.size≤gb114)); clear HB; have HB:=n0_; have BK114:=n1_; have GW114:=n2_; have GE114:=n3_; clear n0_ n1_ n2_ n3_; clear hb hbox hg; have hcz5_0:w4.cell? ⟨gb114,0,none⟩=some (.int .i64 A8):=(AK BK114.out 0).trans rfl; have hcz5_1:w4.cell? ⟨gb114,1,none⟩=some (.slice A0_1 l0_1.length c0_1):=(AK BK114.out 1).trans rfl; have hfz5_0:=AJ BK114.out 0; have hfz5_1:=AJ BK114.out 1)|((with_reducible refine Ae (f:=29) rfl ?_); refine B6 (some 11) rfl rfl Try.func29 zI rfl #[.agg #[.int .i64 A8,.slice A0_1 l0_1.length c0_1]] rfl zD ?_; (with_reducible refine (AN.calls k A8 _ _ l0_1 true _ ?side1 ?side2 A2.out).mono ?_); (case side1=>repeat (first|exact (Kd.C_below HR0_1.out HB.out)|(with_reducible refine Kd.C_alloc ?_ _)|(with_reducible refine Kd.C_drewN ?_ _)|(with_reducible refine Kd.C_drew ?_))); (case side2=>exact HC0_1.out); rintro e w6 ⟨rfl,hb⟩; refine ⟨_,rfl,?_⟩; have n0_:=yA (AP (g:=gb114) (o:= .cells #[.int .i64 A8,.slice A0_1 l0_1.length c0_1] 34 (0,0)) zD2 hb); have n1_:=yA (AO zD5 hb); clear BK114; clear HB; have BK114:=n0_; have HB:=n1_; clear n0_ n1_; (try clear hb); (try clear hb2); (try clear hk); (try clear hi); have hcz7_0:w6.cell? ⟨gb114,0,none⟩=some (.int .i64 A8):=(AK BK114.out 0).trans rfl; have hcz7_1:w6.cell? ⟨gb114,1,none⟩=some (.slice A0_1 l0_1.length c0_1):=(AK BK114.out 1).trans rfl; have hfz7_0:=AJ BK114.out 0; have hfz7_1:=AJ BK114.out 1))
  go_loopg [4,16] k (fun kq v4 v16 w'=>∃(x4_1:List Int) (x16_1:Int),v16= .int .i64 x16_1∧Aside0 (Ad.l0 kq x4_1 l0_1 (l0_1.length:Int) x16_1=some (r1,r2))∧Aside0 (kq≤k)∧Aside0 (Kd.R (Kd.int .i64) 3 w' w.heap.size (fun _=>True) v4 x4_1)∧Aside0 (w'.heap[gb114]? =some (.cells #[.int .i64 A8,(.slice A0_1 l0_1.length c0_1)] 34 (0,0)))∧Aside0 (Below w.heap.size w w'))
  case atStart=>exact ⟨(([]:List Int)),(0),zH,H',⟨Nat.le_refl _⟩,⟨by first|exact Kd.R_nil _ _ _ _ _|exact Kd.N_nil _ _ _ _ _|exact Kd.V_nil _ _ _ _ _|exact Kd.Q_nil _ _ _ _ _|exact Kd.S_nil _ _ _ _ _⟩,⟨by (with_reducible repeat (first|refine AF ?_ _|refine AH ?_|refine AG ?_ _)); exact BK114.out⟩,⟨by repeat (first|(with_reducible first|exact HB.out|apply AE|apply AC|apply AD|refine AI ?_ GE114.out)|exact HB.out)⟩⟩
  case round=>
   clear H'
   try clear c1
   try clear c2
   try clear p2
   try clear c3
   try clear hcz5_0
   try clear hcz5_1
   try clear hcz7_0
   try clear hcz7_1
   try clear hfz5_0
   try clear hfz5_1
   try clear hfz7_0
   try clear hfz7_1
   obtain ⟨x4_1,x16_1,rfl,HA,HK1,HO_4,BK114,HB⟩:=hrel
   cases gk with
   |zero=>exact absurd HA.out (by simp [Ad.l0])
   | succ k1 =>
    have H:=HA.out
    clear HA
    simp only [Ad.l0] at H
    by_cases c8:x16_1<(l0_1.length:Int)
    ·rw [if_pos c8] at H
     have c8b0:decide (x16_1<(l0_1.length:Int))=true:=decide_eq_true c8
     clear c8
     by_cases c9:0≤x16_1
     ·rw [if_pos c9] at H
      have c9b0:decide (0≤x16_1)=true:=decide_eq_true c9
      clear c9
      by_cases c10:x16_1<(l0_1.length:Int)
      ·rw [if_pos c10] at H
       have c10b0:decide (x16_1<(l0_1.length:Int))=true:=decide_eq_true c10
       clear c10
       have H':=yA H
       clear H
       have p116:0≤(x16_1:Int):=yD
       have q116:x16_1<(l0_1.length:Int):=yD
       obtain ⟨ad116,A116_3,c116_3,e116,hx116_0,hx116_1,hx116_2,hx116_3,hl116_3,hi116_3⟩:=C6 HR0_1.out x16_1 p116 q116
       cases e116
       replace hx116_0:=yC HB.out hx116_0
       replace hx116_1:=yC HB.out hx116_1
       replace hx116_2:=yC HB.out hx116_2
       replace hx116_3:=yC HB.out hx116_3
       have HR116_3:=yA hi116_3
       have HC116_3:=yA hl116_3
       clear hi116_3 hl116_3
       replace p116:=eq_true p116
       replace q116:=eq_true q116
       go_wp2_with (first|((with_reducible refine Aq (N:=6) rfl ?_); refine Av ?hg (N:=6) ?hd (cs:= #[.string (⟨#[]⟩:ByteArray),.int .i64 0,.int .i64 0,.slice none 0 0]) (t:=64) ?hr ?_; (case hd=>rfl); (case hg=>rfl); (case hr=>first|(go_simp; done)|(go_simp; rfl)); intro gb117 hg w11 hbox hb; have n0_:=yA (Kd.R_below zB7 hb); have n1_:=yA (AP (g:=gb114) (o:= .cells #[.int .i64 A8,.slice (some ad116) l0_1.length c0_1] 34 (0,0)) zD2 hb); have n2_:=yA (AO zD5 hb); have n3_:=yA (hbox); have n4_:=yA ((by rw [hg]; exact (AQ zD5):w.heap.size≤gb117)); have n5_:=yA ((by rw [hg]; exact (AQ zD5):w.heap.size≤gb117)); have n6_:=yA ((by rw [hg]; exact Nat.ne_of_lt (B8 (g:=gb114) (o:= .cells #[.int .i64 A8,.slice (some ad116) l0_1.length c0_1] 34 (0,0)) zD2):gb114≠gb117)); have n7_:=yA ((by rw [hg]; exact Nat.ne_of_gt (B8 (g:=gb114) (o:= .cells #[.int .i64 A8,.slice (some ad116) l0_1.length c0_1] 34 (0,0)) zD2):gb117≠gb114)); clear HO_4; clear BK114; clear HB; have HO_4:=n0_; have BK114:=n1_; have HB:=n2_; have BK117:=n3_; have GW117:=n4_; have GE117:=n5_; have NB114_117:=n6_; have NB117_114:=n7_; clear n0_ n1_ n2_ n3_ n4_ n5_ n6_ n7_; clear hb hbox hg; have hnb12:=NB117_114.out; have hnc12:=NB114_117.out; have hcz13_0:w11.cell? ⟨gb117,0,none⟩=some (.string (⟨#[]⟩:ByteArray)):=(AK BK117.out 0).trans rfl; have hcz13_1:w11.cell? ⟨gb117,1,none⟩=some (.int .i64 0):=(AK BK117.out 1).trans rfl; have hcz13_2:w11.cell? ⟨gb117,2,none⟩=some (.int .i64 0):=(AK BK117.out 2).trans rfl; have hcz13_3:w11.cell? ⟨gb117,3,none⟩=some (.slice none 0 0):=(AK BK117.out 3).trans rfl; have hfz13_0:=AJ BK117.out 0; have hfz13_1:=AJ BK117.out 1; have hfz13_2:=AJ BK117.out 2; have hfz13_3:=AJ BK117.out 3))
       go_loopg [7,23] k1 (fun kq v7 v23 w'=>∃(x7_2:Int) (x23_2:Int),v7= .int .i64 x7_2∧v23= .int .i64 x23_2∧Aside0 (Ad.l1 kq x4_1 x7_2 l0_1 (l0_1.length:Int) x16_1 ((AM l0_1 x16_1).f3) (((AM l0_1 x16_1).f3).length:Int) x23_2 ((AM l0_1 x16_1).f0) ((AM l0_1 x16_1).f1) ((AM l0_1 x16_1).f2) ((AM l0_1 x16_1).f3)=some (r1,r2))∧Aside0 (kq≤k1)∧Aside0 (Kd.R (Kd.int .i64) 3 w' w.heap.size (fun _=>True) u4 x4_1)∧Aside0 (w'.heap[gb114]? =some (.cells #[.int .i64 A8,(.slice (some ad116) l0_1.length c0_1)] 34 (0,0)))∧Aside0 (w'.heap[gb117]? =some (.cells #[.string ((AM l0_1 x16_1).f0),.int .i64 ((AM l0_1 x16_1).f1),.int .i64 ((AM l0_1 x16_1).f2),(.slice A116_3 ((AM l0_1 x16_1).f3).length c116_3)] 64 (0,0)))∧Aside0 (Below w.heap.size w w'))
       case atStart=>exact ⟨(0),(0),zH,zH,H',⟨Nat.le_refl _⟩,⟨by (with_reducible repeat (first|apply Kd.R_alloc|apply Kd.R_drewN|apply Kd.R_drew)); exact Kd.R_mono (Kd.R_far (p:=⟨gb117,3,none⟩) (Kd.R_far (p:=⟨gb117,2,none⟩) (Kd.R_far (p:=⟨gb117,1,none⟩) (Kd.R_far (p:=⟨gb117,0,none⟩) (Kd.R_types HO_4.out BK117.out zA0) (fun _ hk=>hk.2) (.string ((AM l0_1 x16_1).f0))) (fun _ hk=>hk.2) (.int .i64 ((AM l0_1 x16_1).f1))) (fun _ hk=>hk.2) (.int .i64 ((AM l0_1 x16_1).f2))) (fun _ hk=>hk.2) (.slice A116_3 ((AM l0_1 x16_1).f3).length c116_3)) (fun _ hk=>trivial)⟩,⟨by (with_reducible repeat (first|refine AF ?_ _|refine AH ?_|refine AG ?_ _)); refine AV ?_ NB114_117.out _; (with_reducible repeat (first|refine AF ?_ _|refine AH ?_|refine AG ?_ _)); refine AV ?_ NB114_117.out _; (with_reducible repeat (first|refine AF ?_ _|refine AH ?_|refine AG ?_ _)); refine AV ?_ NB114_117.out _; (with_reducible repeat (first|refine AF ?_ _|refine AH ?_|refine AG ?_ _)); refine AV ?_ NB114_117.out _; (with_reducible repeat (first|refine AF ?_ _|refine AH ?_|refine AG ?_ _)); exact BK114.out⟩,⟨by (with_reducible repeat (first|refine AF ?_ _|refine AH ?_|refine AG ?_ _)); refine An (cs:= #[.string ((AM l0_1 x16_1).f0),.int .i64 ((AM l0_1 x16_1).f1),.int .i64 ((AM l0_1 x16_1).f2),.slice none 0 0]) ?_ 3 _ rfl; (with_reducible repeat (first|refine AF ?_ _|refine AH ?_|refine AG ?_ _)); refine An (cs:= #[.string ((AM l0_1 x16_1).f0),.int .i64 ((AM l0_1 x16_1).f1),.int .i64 0,.slice none 0 0]) ?_ 2 _ rfl; (with_reducible repeat (first|refine AF ?_ _|refine AH ?_|refine AG ?_ _)); refine An (cs:= #[.string ((AM l0_1 x16_1).f0),.int .i64 0,.int .i64 0,.slice none 0 0]) ?_ 1 _ rfl; (with_reducible repeat (first|refine AF ?_ _|refine AH ?_|refine AG ?_ _)); refine An (cs:= #[.string (⟨#[]⟩:ByteArray),.int .i64 0,.int .i64 0,.slice none 0 0]) ?_ 0 _ rfl; (with_reducible repeat (first|refine AF ?_ _|refine AH ?_|refine AG ?_ _)); exact BK117.out⟩,⟨by repeat (first|(with_reducible first|exact HB.out|apply AE|apply AC|apply AD|refine AI ?_ GE114.out|refine AI ?_ GE117.out)|exact HB.out)⟩⟩
       case round=>
        clear H'
        try clear c1
        try clear p1
        try clear q1
        try clear hx1
        try clear c2
        try clear p2
        try clear c3
        try clear c8
        try clear c8b0
        try clear c9
        try clear c9b0
        try clear c10
        try clear c10b0
        try clear c11
        try clear p11
        try clear q11
        try clear hx11
        try clear c12
        try clear hcz13_0
        try clear hcz13_1
        try clear hcz13_2
        try clear hcz13_3
        try clear hcz5_0
        try clear hcz5_1
        try clear hcz7_0
        try clear hcz7_1
        try clear hfz13_0
        try clear hfz13_1
        try clear hfz13_2
        try clear hfz13_3
        try clear hfz5_0
        try clear hfz5_1
        try clear hfz7_0
        try clear hfz7_1
        try clear hx116_0
        try clear hx116_1
        try clear hx116_2
        try clear hx116_3
        try clear p116
        try clear p2
        try clear q116
        obtain ⟨x7_2,x23_2,rfl,rfl,HA,HK2,HO_4,BK114,BK117,HB⟩:=hrel
        cases gk with
        |zero=>exact absurd HA.out (by simp [Ad.l1])
        | succ k2 =>
         have H:=HA.out
         clear HA
         simp only [Ad.l1] at H
         by_cases c14:x23_2<(((AM l0_1 x16_1).f3).length:Int)
         ·rw [if_pos c14] at H
          have c14b0:decide (x23_2<(((AM l0_1 x16_1).f3).length:Int))=true:=decide_eq_true c14
          clear c14
          by_cases c15:0≤x23_2
          ·rw [if_pos c15] at H
           have c15b0:decide (0≤x23_2)=true:=decide_eq_true c15
           clear c15
           by_cases c16:x23_2<(((AM l0_1 x16_1).f3).length:Int)
           ·rw [if_pos c16] at H
            have c16b0:decide (x23_2<(((AM l0_1 x16_1).f3).length:Int))=true:=decide_eq_true c16
            clear c16
            by_cases c17:0≤(rd ((AM l0_1 x16_1).f3) x23_2)
            ·rw [if_pos c17] at H
             have c17b0:decide (0≤(rd ((AM l0_1 x16_1).f3) x23_2))=true:=decide_eq_true c17
             clear c17
             by_cases c18:(rd ((AM l0_1 x16_1).f3) x23_2)<(x4_1.length:Int)
             ·rw [if_pos c18] at H
              have c18b0:decide ((rd ((AM l0_1 x16_1).f3) x23_2)<(x4_1.length:Int))=true:=decide_eq_true c18
              clear c18
              obtain ⟨ji19,hji19⟩:∃j_:Int,(mx x7_2 (rd x4_1 (rd ((AM l0_1 x16_1).f3) x23_2)))=j_:=⟨_,rfl⟩
              replace H:(Ad.l1 k2 x4_1 ji19 l0_1 (l0_1.length:Int) x16_1 ((AM l0_1 x16_1).f3) (((AM l0_1 x16_1).f3).length:Int) (wrap64 (x23_2+1)) ((AM l0_1 x16_1).f0) ((AM l0_1 x16_1).f1) ((AM l0_1 x16_1).f2) ((AM l0_1 x16_1).f3))=some (r1,r2):=by first|(rw [hji19] at H; exact H)|(simp only [hji19] at H ⊢; exact H)
              have hji19_:(if x7_2<(rd x4_1 (rd ((AM l0_1 x16_1).f3) x23_2)) then (rd x4_1 (rd ((AM l0_1 x16_1).f3) x23_2)) else x7_2)=ji19:=hji19
              have H':=yA H
              clear H
              have p118:0≤(x23_2:Int):=yD
              have q118:x23_2<(((AM l0_1 x16_1).f3).length:Int):=yD
              obtain ⟨ad118,e118,hx118_0⟩:=Kd.at_int HR116_3.out x23_2 p118 q118
              cases e118
              replace hx118_0:=yC HB.out hx118_0
              replace p118:=eq_true p118
              replace q118:=eq_true q118
              obtain ⟨Ao20,co20,eo20⟩:=Kd.R_slice HO_4.out
              subst eo20
              have p119:0≤((rd ((AM l0_1 x16_1).f3) x23_2):Int):=yD
              have q119:(rd ((AM l0_1 x16_1).f3) x23_2)<(x4_1.length:Int):=yD
              obtain ⟨ad119,e119,hx119_0⟩:=Kd.at_int (Kd.R_reads' HO_4.out).2.2 (rd ((AM l0_1 x16_1).f3) x23_2) p119 q119
              cases e119
              replace p119:=eq_true p119
              replace q119:=eq_true q119
              go_wp2
              go_roundg k2
              case measure=>have:=HK1.out; have:=HK2.out; omega
              case rel=>exact ⟨(ji19),(wrap64 (x23_2+1)),(by first|rfl|(simp; done)|(simp only [←hji19]<;>(first|rfl|simp))|(simp [*]; done)),zH,H',⟨by have:=HK1.out; have:=HK2.out; omega⟩,⟨by (with_reducible repeat (first|apply Kd.R_alloc|apply Kd.R_drewN|apply Kd.R_drew)); exact HO_4.out⟩,⟨by (with_reducible repeat (first|refine AF ?_ _|refine AH ?_|refine AG ?_ _)); exact BK114.out⟩,⟨by (with_reducible repeat (first|refine AF ?_ _|refine AH ?_|refine AG ?_ _)); exact BK117.out⟩,⟨by repeat (first|(with_reducible first|exact HB.out|apply AE|apply AC|apply AD|refine AI ?_ GE114.out|refine AI ?_ GE117.out)|exact HB.out)⟩⟩
             ·rw [if_neg c18] at H
              exact absurd H zA5
            ·rw [if_neg c17] at H
             exact absurd H zA5
           ·rw [if_neg c16] at H
            exact absurd H zA5
          ·rw [if_neg c15] at H
           exact absurd H zA5
         ·rw [if_neg c14] at H
          have c14b0:decide (x23_2<(((AM l0_1 x16_1).f3).length:Int))=false:=decide_eq_false c14
          clear c14
          by_cases c21:x4_1.length<17592186044416
          ·rw [if_pos c21] at H
           have LMc21:=yA c21
           clear c21
           obtain ⟨y120,hy120⟩:∃y_:List Int,y_=(x4_1++[wrap64 (x7_2+((AM l0_1 x16_1).f1))]):=⟨_,rfl⟩
           replace H:(Ad.l0 k2 y120 l0_1 (l0_1.length:Int) (wrap64 (x16_1+1)))=some (r1,r2):=by first|(rw [hy120]; with_reducible exact H)|(have H2_:=(Option.bind_some _ _).symm.trans H; rw [hy120]; with_reducible exact H2_)|(have H2_:=(Option.bind_some _ _).symm.trans H; with_reducible exact H2_)|with_reducible exact H|(rw [hy120]; exact H)|exact H
           have Ny120:=yA hy120
           clear hy120
           have H':=yA H
           clear H
           have hnb22:=NB117_114.out
           have hnc22:=NB114_117.out
           have hcz23_0:wr.cell? ⟨gb117,0,none⟩=some (.string ((AM l0_1 x16_1).f0)):=(AK BK117.out 0).trans rfl
           have hcz23_1:wr.cell? ⟨gb117,1,none⟩=some (.int .i64 ((AM l0_1 x16_1).f1)):=(AK BK117.out 1).trans rfl
           have hcz23_2:wr.cell? ⟨gb117,2,none⟩=some (.int .i64 ((AM l0_1 x16_1).f2)):=(AK BK117.out 2).trans rfl
           have hcz23_3:wr.cell? ⟨gb117,3,none⟩=some (.slice A116_3 ((AM l0_1 x16_1).f3).length c116_3):=(AK BK117.out 3).trans rfl
           have hfz23_0:=AJ BK117.out 0
           have hfz23_1:=AJ BK117.out 1
           have hfz23_2:=AJ BK117.out 2
           have hfz23_3:=AJ BK117.out 3
           go_wp2_with (first|((with_reducible refine CB (b:= .append) (xs:= #[.tmp 34,.tmp 39]) rfl ?_); at_builtin; refine Kd.R_append (Kd.int .i64) (w0:=w) w.heap.size rfl (.tmp 34) (.tmp 39) 26 3 (.int .i64 0) 8 rfl Try.underlying26 info3 rfl zA0 zE u4 x4_1 (wrap64 (x7_2+((AM l0_1 x16_1).f1))) [.int .i64 (wrap64 (x7_2+((AM l0_1 x16_1).f1)))] (fun _=>True) (fun _=>False) rfl rfl ?aP (fun _ hk=>hk.elim) ?aF ?aO ?aB ?aS ?aL ?_; (case aP=>exact rfl); (case aB=>exact (by repeat (first|(with_reducible first|exact HB.out|apply AE|apply AC|apply AD|refine AI ?_ GE114.out|refine AI ?_ GE117.out)|exact HB.out))); (case aF=>exact (fun _ _=>trivial)); (case aO=>exact zB7); (case aS=>exact (AQ (by repeat (first|(with_reducible first|exact HB.out|apply AE|apply AC|apply AD|refine AI ?_ GE114.out|refine AI ?_ GE117.out)|exact HB.out)))); (case aL=>have:=LMc21.out; omega); intro v121 w24 ho hb hg hat; rw [←Ny120.out] at ho; have n0_:=yA (BJ (g:=gb114) (o:= .cells #[.int .i64 A8,.slice (some ad116) l0_1.length c0_1] 34 (0,0)) zD2 hg (Kd.R_ne HO_4.out BK114.out zA0)); have n1_:=yA (BJ (g:=gb117) (o:= .cells #[.string ((AM l0_1 x16_1).f0),.int .i64 ((AM l0_1 x16_1).f1),.int .i64 ((AM l0_1 x16_1).f2),.slice A116_3 ((AM l0_1 x16_1).f3).length c116_3] 64 (0,0)) (by (with_reducible repeat (first|refine AF ?_ _|refine AH ?_|refine AG ?_ _)); exact BK117.out) hg (Kd.R_ne HO_4.out BK117.out zA0)); have n2_:=yA (hb); have n3_:=yA (ho); clear BK114; clear BK117; clear HB; clear HO_4; have BK114:=n0_; have BK117:=n1_; have HB:=n2_; have HO122:=n3_; clear n0_ n1_ n2_ n3_; clear ho hb hg hat))
           go_roundg k2
           case measure=>have:=HK1.out; have:=HK2.out; omega
           case rel=>exact ⟨(y120),(wrap64 (x16_1+1)),zH,H',⟨by have:=HK1.out; have:=HK2.out; omega⟩,⟨by (with_reducible repeat (first|apply Kd.R_alloc|apply Kd.R_drewN|apply Kd.R_drew)); exact HO122.out⟩,⟨by (with_reducible repeat (first|refine AF ?_ _|refine AH ?_|refine AG ?_ _)); exact BK114.out⟩,⟨by repeat (first|(with_reducible first|exact HB.out|apply AE|apply AC|apply AD|refine AI ?_ GE114.out|refine AI ?_ GE117.out)|exact HB.out)⟩⟩
          ·rw [if_neg c21] at H
           exact absurd H zA5
      ·rw [if_neg c10] at H
       exact absurd H zA5
     ·rw [if_neg c9] at H
      exact absurd H zA5
    ·rw [if_neg c8] at H
     have c8b0:decide (x16_1<(l0_1.length:Int))=false:=decide_eq_false c8
     clear c8
     simp only [Option.some.injEq,Prod.mk.injEq] at H
     obtain ⟨rfl,rfl⟩:=H
     go_wp2
     go_ret2
     exact ⟨_,by first|rfl|(simp [AY,AX]<;>rfl)|(simp [*,AY,AX]<;>rfl),by (with_reducible repeat (first|apply Kd.R_alloc|apply Kd.R_drewN|apply Kd.R_drew)); exact HO_4.out,by repeat (first|(with_reducible first|exact HB.out|apply AE|apply AC|apply AD|refine AI ?_ GE114.out)|exact HB.out)⟩
 ·replace c3:=Bool.eq_false_iff.mpr c3
  subst c3
  have H1:(some (([]:List Int),1))=some (r1,r2):=by rw [if_neg (show ¬(false=true) by decide)] at H; exact H
  clear H
  have H:=H1
  clear H1
  simp only [Option.some.injEq,Prod.mk.injEq] at H
  obtain ⟨rfl,rfl⟩:=H
  go_enter Try.func16,Try.ntmps16
  go_wp2_with (first|((with_reducible refine Aq (N:=1) rfl ?_); refine Av ?hg (N:=1) ?hd (cs:= #[.int .i64 A8,.slice A0_1 l0_1.length c0_1]) (t:=34) ?hr ?_; (case hd=>rfl); (case hg=>rfl); (case hr=>first|(go_simp; done)|(go_simp; rfl)); intro gb114 hg w25 hbox hb; have n0_:=yA (AO zB hb); have n1_:=yA (hbox); have n2_:=yA ((by rw [hg]; exact (AQ zB):w.heap.size≤gb114)); have n3_:=yA ((by rw [hg]; exact (AQ zB):w.heap.size≤gb114)); clear HB; have HB:=n0_; have BK114:=n1_; have GW114:=n2_; have GE114:=n3_; clear n0_ n1_ n2_ n3_; clear hb hbox hg; have hcz26_0:w25.cell? ⟨gb114,0,none⟩=some (.int .i64 A8):=(AK BK114.out 0).trans rfl; have hcz26_1:w25.cell? ⟨gb114,1,none⟩=some (.slice A0_1 l0_1.length c0_1):=(AK BK114.out 1).trans rfl; have hfz26_0:=AJ BK114.out 0; have hfz26_1:=AJ BK114.out 1)|((with_reducible refine Ae (f:=29) rfl ?_); refine B6 (some 11) rfl rfl Try.func29 zI rfl #[.agg #[.int .i64 A8,.slice A0_1 l0_1.length c0_1]] rfl zD ?_; (with_reducible refine (AN.calls k A8 _ _ l0_1 false _ ?side1 ?side2 A2.out).mono ?_); (case side1=>repeat (first|exact (Kd.C_below HR0_1.out HB.out)|(with_reducible refine Kd.C_alloc ?_ _)|(with_reducible refine Kd.C_drewN ?_ _)|(with_reducible refine Kd.C_drew ?_))); (case side2=>exact HC0_1.out); rintro e w27 ⟨rfl,hb⟩; refine ⟨_,rfl,?_⟩; have n0_:=yA (AP (g:=gb114) (o:= .cells #[.int .i64 A8,.slice A0_1 l0_1.length c0_1] 34 (0,0)) zD2 hb); have n1_:=yA (AO zD5 hb); clear BK114; clear HB; have BK114:=n0_; have HB:=n1_; clear n0_ n1_; (try clear hb); (try clear hb2); (try clear hk); (try clear hi)))
  go_ret2
  exact ⟨_,by first|rfl|(simp [AY,AX]<;>rfl)|(simp [*,AY,AX]<;>rfl),by first|exact Kd.R_nil _ _ _ _ _|exact Kd.N_nil _ _ _ _ _|exact Kd.V_nil _ _ _ _ _|exact Kd.Q_nil _ _ _ _ _|exact Kd.S_nil _ _ _ _ _,by repeat (first|(with_reducible first|exact HB.out|apply AE|apply AC|apply AD|refine AI ?_ GE114.out)|exact HB.out)⟩
def Ap.l0:Nat→List Int→Int→Int→List (S64)→Int→Int→Int→List (S64)→Option (Int×Int)
 |0,_,_,_,_,_,_,_,_=>none
 |k+1,x4,x6,x7,x19,x20,x21,x124000,x124001=>if x21<x20 then (if 0≤x21 then (if x21<(x19.length:Int) then (if x21<(x4.length:Int) then (Ap.l0 k x4 (wrap64 (x6+((AM x19 x21).f1))) (mx x7 (rd x4 x21)) x19 x20 (wrap64 (x21+1)) x124000 x124001) else (none)) else (none)) else (none)) else (if x124000=0 then (none) else (some (mx x7 (wrap64 (Int.tdiv (wrap64 ((wrap64 (x6+x124000))-1)) x124000)),0)))
def Ap.f (k:Nat) (A8:Int) (l0_1:List (S64)):Option (Int×Int):=(Ad.f k A8 l0_1).bind fun bt124=>(if bt124.2=0 then (Ap.l0 k bt124.1 0 0 l0_1 (l0_1.length:Int) 0 A8 l0_1) else (some (0,bt124.2)))
theorem Ap.mono_l:∀k,(∀y0 y1 y2 y3 y4 y5 y6 y7,LeO (Ap.l0 k y0 y1 y2 y3 y4 y5 y6 y7) (Ap.l0 (k+1) y0 y1 y2 y3 y4 y5 y6 y7))
 |0=>fun _ _ _ _ _ _ _ _ r h=>by simp [Ap.l0] at h
 | k +1=>by
  have ih0:=Ap.mono_l k
  ·intro y0 y1 y2 y3 y4 y5 y6 y7
   unfold Ap.l0
   repeat' first
   |(with_reducible exact ih0 _ _ _ _ _ _ _ _)
   |(with_reducible exact Ad.mono _ _ _)
   |(with_reducible exact LeO.refl _)
   |(with_reducible exact LeO.none _)
   |(with_reducible refine LeO.ite ?_ ?_)
   |(with_reducible refine LeO.bind ?_ (fun _=> ?_))
   |exact ih0 _ _ _ _ _ _ _ _
   |exact Ad.mono _ _ _
   |exact LeO.none _
   |refine LeO.ite ?_ ?_
   |refine LeO.bind ?_ (fun _=> ?_)
theorem Ap.mono:∀a0 a1 k,LeO (Ap.f k a0 a1) (Ap.f (k+1) a0 a1):=by
 intro a0 a1 k
 have ih0:=Ap.mono_l k
 unfold Ap.f
 repeat' first
  |(with_reducible exact ih0 _ _ _ _ _ _ _ _)
  |(with_reducible exact Ad.mono _ _ _)
  |(with_reducible exact LeO.refl _)
  |(with_reducible exact LeO.none _)
  |(with_reducible refine LeO.ite ?_ ?_)
  |(with_reducible refine LeO.bind ?_ (fun _=> ?_))
  |exact ih0 _ _ _ _ _ _ _ _
  |exact Ad.mono _ _ _
  |exact LeO.none _
  |refine LeO.ite ?_ ?_
  |refine LeO.bind ?_ (fun _=> ?_)
set_option maxHeartbeats 8000000 in
theorem Ap.calls (k:Nat) (A8:Int) (A0_1:Option Addr) (c0_1:Nat) (l0_1:List (S64)) (r1:Int) (r2:Int) (w:World) (hr0_1:Kd.C k64 w A0_1 l0_1.length l0_1) (hc0_1:l0_1.length≤c0_1) (h:Ap.f k A8 l0_1=some (r1,r2)):
  Calls Try.prog 11 #[.agg #[.int .i64 A8,.slice A0_1 l0_1.length c0_1]] w fun e w'=>e= .returned (.tuple #[.int .i64 r1,.int .i64 r2])∧Below w.heap.size w w':=by
 have hu34:=Try.underlying34
 have hu64:=Try.underlying64
 have HR0_1:=yA hr0_1
 have HC0_1:=yA hc0_1
 clear hr0_1 hc0_1
 have HB:=yA (Below.refl w.heap.size w)
 have H:((Ad.f k A8 l0_1).bind fun bt124=>(if bt124.2=0 then (Ap.l0 k bt124.1 0 0 l0_1 (l0_1.length:Int) 0 A8 l0_1) else (some (0,bt124.2))))=some (r1,r2):=h
 clear h
 replace H:=Option.bind_eq_some_iff.mp H
 obtain ⟨⟨t124,t127⟩,A20,H⟩:=H
 replace H:(if t127=0 then (Ap.l0 k t124 0 0 l0_1 (l0_1.length:Int) 0 A8 l0_1) else (some (0,t127)))=some (r1,r2):=H
 have A2:=yA A20
 clear A20
 by_cases c3:t127=0
 ·rw [if_pos c3] at H
  have c3b0:(t127==0)=true:=beq_iff_eq.mpr c3
  have c3b1:(t127 !=0)=false:=bne_eq_false_iff_eq.mpr c3
  clear c3
  have H':=yA H
  clear H
  go_enter Try.func11,Try.ntmps11
  go_wp2_with (first|((with_reducible refine Aq (N:=1) rfl ?_); refine Av ?hg (N:=1) ?hd (cs:= #[.int .i64 A8,.slice A0_1 l0_1.length c0_1]) (t:=34) ?hr ?_; (case hd=>rfl); (case hg=>rfl); (case hr=>first|(go_simp; done)|(go_simp; rfl)); intro gb123 hg w4 hbox hb; have n0_:=yA (AO zB hb); have n1_:=yA (hbox); have n2_:=yA ((by rw [hg]; exact (AQ zB):w.heap.size≤gb123)); have n3_:=yA ((by rw [hg]; exact (AQ zB):w.heap.size≤gb123)); clear HB; have HB:=n0_; have BK123:=n1_; have GW123:=n2_; have GE123:=n3_; clear n0_ n1_ n2_ n3_; clear hb hbox hg; have hcz5_0:w4.cell? ⟨gb123,0,none⟩=some (.int .i64 A8):=(AK BK123.out 0).trans rfl; have hcz5_1:w4.cell? ⟨gb123,1,none⟩=some (.slice A0_1 l0_1.length c0_1):=(AK BK123.out 1).trans rfl; have hfz5_0:=AJ BK123.out 0; have hfz5_1:=AJ BK123.out 1)|(go_at_call 16; (with_reducible refine (Ad.calls k A8 _ _ l0_1 t124 t127 _ ?side1 ?side2 A2.out).mono ?_); (case side1=>repeat (first|exact (Kd.C_below HR0_1.out HB.out)|(with_reducible refine Kd.C_alloc ?_ _)|(with_reducible refine Kd.C_drewN ?_ _)|(with_reducible refine Kd.C_drew ?_))); (case side2=>exact HC0_1.out); rintro e w6 ⟨v125,rfl,ho0,hb⟩; have n0_:=yA (Kd.R_lower ho0 (AQ zM)); have n1_:=yA (AP (g:=gb123) (o:= .cells #[.int .i64 A8,.slice A0_1 l0_1.length c0_1] 34 (0,0)) zA1 hb); have n2_:=yA (AO zM hb); clear BK123; clear HB; have HO126:=n0_; have BK123:=n1_; have HB:=n2_; clear n0_ n1_ n2_; (try clear hb); (try clear hb2); (try clear hk); (try clear hi); (try clear ho0); have hcz7_0:w6.cell? ⟨gb123,0,none⟩=some (.int .i64 A8):=(AK BK123.out 0).trans rfl; have hcz7_1:w6.cell? ⟨gb123,1,none⟩=some (.slice A0_1 l0_1.length c0_1):=(AK BK123.out 1).trans rfl; have hfz7_0:=AJ BK123.out 0; have hfz7_1:=AJ BK123.out 1))
  repeat (go_quiet (first|((with_reducible refine Aq (N:=1) rfl ?_); refine Av ?hg (N:=1) ?hd (cs:= #[.int .i64 A8,.slice A0_1 l0_1.length c0_1]) (t:=34) ?hr ?_; (case hd=>rfl); (case hg=>rfl); (case hr=>first|(go_simp; done)|(go_simp; rfl)); intro gb123 hg w4 hbox hb; have n0_:=yA (AO zB hb); have n1_:=yA (hbox); have n2_:=yA ((by rw [hg]; exact (AQ zB):w.heap.size≤gb123)); have n3_:=yA ((by rw [hg]; exact (AQ zB):w.heap.size≤gb123)); clear HB; have HB:=n0_; have BK123:=n1_; have GW123:=n2_; have GE123:=n3_; clear n0_ n1_ n2_ n3_; clear hb hbox hg; have hcz5_0:w4.cell? ⟨gb123,0,none⟩=some (.int .i64 A8):=(AK BK123.out 0).trans rfl; have hcz5_1:w4.cell? ⟨gb123,1,none⟩=some (.slice A0_1 l0_1.length c0_1):=(AK BK123.out 1).trans rfl; have hfz5_0:=AJ BK123.out 0; have hfz5_1:=AJ BK123.out 1)|(go_at_call 16; (with_reducible refine (Ad.calls k A8 _ _ l0_1 t124 t127 _ ?side1 ?side2 A2.out).mono ?_); (case side1=>repeat (first|exact (Kd.C_below HR0_1.out HB.out)|(with_reducible refine Kd.C_alloc ?_ _)|(with_reducible refine Kd.C_drewN ?_ _)|(with_reducible refine Kd.C_drew ?_))); (case side2=>exact HC0_1.out); rintro e w6 ⟨v125,rfl,ho0,hb⟩; have n0_:=yA (Kd.R_lower ho0 (AQ zM)); have n1_:=yA (AP (g:=gb123) (o:= .cells #[.int .i64 A8,.slice A0_1 l0_1.length c0_1] 34 (0,0)) zA1 hb); have n2_:=yA (AO zM hb); clear BK123; clear HB; have HO126:=n0_; have BK123:=n1_; have HB:=n2_; clear n0_ n1_ n2_; (try clear hb); (try clear hb2); (try clear hk); (try clear hi); (try clear ho0); have hcz7_0:w6.cell? ⟨gb123,0,none⟩=some (.int .i64 A8):=(AK BK123.out 0).trans rfl; have hcz7_1:w6.cell? ⟨gb123,1,none⟩=some (.slice A0_1 l0_1.length c0_1):=(AK BK123.out 1).trans rfl; have hfz7_0:=AJ BK123.out 0; have hfz7_1:=AJ BK123.out 1; clear A2)); try go_wp2_with (first|((with_reducible refine Aq (N:=1) rfl ?_); refine Av ?hg (N:=1) ?hd (cs:= #[.int .i64 A8,.slice A0_1 l0_1.length c0_1]) (t:=34) ?hr ?_; (case hd=>rfl); (case hg=>rfl); (case hr=>first|(go_simp; done)|(go_simp; rfl)); intro gb123 hg w4 hbox hb; have n0_:=yA (AO zB hb); have n1_:=yA (hbox); have n2_:=yA ((by rw [hg]; exact (AQ zB):w.heap.size≤gb123)); have n3_:=yA ((by rw [hg]; exact (AQ zB):w.heap.size≤gb123)); clear HB; have HB:=n0_; have BK123:=n1_; have GW123:=n2_; have GE123:=n3_; clear n0_ n1_ n2_ n3_; clear hb hbox hg; have hcz5_0:w4.cell? ⟨gb123,0,none⟩=some (.int .i64 A8):=(AK BK123.out 0).trans rfl; have hcz5_1:w4.cell? ⟨gb123,1,none⟩=some (.slice A0_1 l0_1.length c0_1):=(AK BK123.out 1).trans rfl; have hfz5_0:=AJ BK123.out 0; have hfz5_1:=AJ BK123.out 1)|(go_at_call 16; (with_reducible refine (Ad.calls k A8 _ _ l0_1 t124 t127 _ ?side1 ?side2 A2.out).mono ?_); (case side1=>repeat (first|exact (Kd.C_below HR0_1.out HB.out)|(with_reducible refine Kd.C_alloc ?_ _)|(with_reducible refine Kd.C_drewN ?_ _)|(with_reducible refine Kd.C_drew ?_))); (case side2=>exact HC0_1.out); rintro e w6 ⟨v125,rfl,ho0,hb⟩; have n0_:=yA (Kd.R_lower ho0 (AQ zM)); have n1_:=yA (AP (g:=gb123) (o:= .cells #[.int .i64 A8,.slice A0_1 l0_1.length c0_1] 34 (0,0)) zA1 hb); have n2_:=yA (AO zM hb); clear BK123; clear HB; have HO126:=n0_; have BK123:=n1_; have HB:=n2_; clear n0_ n1_ n2_; (try clear hb); (try clear hb2); (try clear hk); (try clear hi); (try clear ho0); have hcz7_0:w6.cell? ⟨gb123,0,none⟩=some (.int .i64 A8):=(AK BK123.out 0).trans rfl; have hcz7_1:w6.cell? ⟨gb123,1,none⟩=some (.slice A0_1 l0_1.length c0_1):=(AK BK123.out 1).trans rfl; have hfz7_0:=AJ BK123.out 0; have hfz7_1:=AJ BK123.out 1; clear A2)))
  go_loopg [6,7,21] k (fun kq v6 v7 v21 w'=>∃(x6_1:Int) (x7_1:Int) (x21_1:Int),v6= .int .i64 x6_1∧v7= .int .i64 x7_1∧v21= .int .i64 x21_1∧Aside0 (Ap.l0 kq t124 x6_1 x7_1 l0_1 (l0_1.length:Int) x21_1 A8 l0_1=some (r1,r2))∧Aside0 (kq≤k)∧Aside0 (Kd.R (Kd.int .i64) 3 w' w.heap.size (fun _=>True) v125 t124)∧Aside0 (w'.heap[gb123]? =some (.cells #[.int .i64 A8,(.slice A0_1 l0_1.length c0_1)] 34 (0,0)))∧Aside0 (Below w.heap.size w w'))
  case atStart=>exact ⟨(0),(0),(0),zH,zH,zH,H',⟨Nat.le_refl _⟩,⟨by (with_reducible repeat (first|apply Kd.R_alloc|apply Kd.R_drewN|apply Kd.R_drew)); exact HO126.out⟩,⟨by (with_reducible repeat (first|refine AF ?_ _|refine AH ?_|refine AG ?_ _)); exact BK123.out⟩,⟨by repeat (first|(with_reducible first|exact HB.out|apply AE|apply AC|apply AD|refine AI ?_ GE123.out)|exact HB.out)⟩⟩
  case round=>
   clear H'
   try clear c1
   try clear p2
   try clear c3
   try clear c3b0
   try clear c3b1
   try clear hcz5_0
   try clear hcz5_1
   try clear hcz7_0
   try clear hcz7_1
   try clear hfz5_0
   try clear hfz5_1
   try clear hfz7_0
   try clear hfz7_1
   obtain ⟨x6_1,x7_1,x21_1,rfl,rfl,rfl,HA,HK1,HO_4,BK123,HB⟩:=hrel
   cases gk with
   |zero=>exact absurd HA.out (by simp [Ap.l0])
   | succ k1 =>
    have H:=HA.out
    clear HA
    simp only [Ap.l0] at H
    by_cases c8:x21_1<(l0_1.length:Int)
    ·rw [if_pos c8] at H
     have c8b0:decide (x21_1<(l0_1.length:Int))=true:=decide_eq_true c8
     clear c8
     by_cases c9:0≤x21_1
     ·rw [if_pos c9] at H
      have c9b0:decide (0≤x21_1)=true:=decide_eq_true c9
      clear c9
      by_cases c10:x21_1<(l0_1.length:Int)
      ·rw [if_pos c10] at H
       have c10b0:decide (x21_1<(l0_1.length:Int))=true:=decide_eq_true c10
       clear c10
       by_cases c11:x21_1<(t124.length:Int)
       ·rw [if_pos c11] at H
        have c11b0:decide (x21_1<(t124.length:Int))=true:=decide_eq_true c11
        clear c11
        obtain ⟨ji12,hji12⟩:∃j_:Int,(mx x7_1 (rd t124 x21_1))=j_:=⟨_,rfl⟩
        replace H:(Ap.l0 k1 t124 (wrap64 (x6_1+((AM l0_1 x21_1).f1))) ji12 l0_1 (l0_1.length:Int) (wrap64 (x21_1+1)) A8 l0_1)=some (r1,r2):=by first|(rw [hji12] at H; exact H)|(simp only [hji12] at H ⊢; exact H)
        have hji12_:(if x7_1<(rd t124 x21_1) then (rd t124 x21_1) else x7_1)=ji12:=hji12
        have H':=yA H
        clear H
        have p128:0≤(x21_1:Int):=yD
        have q128:x21_1<(l0_1.length:Int):=yD
        obtain ⟨ad128,A128_3,c128_3,e128,hx128_0,hx128_1,hx128_2,hx128_3,hl128_3,hi128_3⟩:=C6 HR0_1.out x21_1 p128 q128
        cases e128
        replace hx128_0:=yC HB.out hx128_0
        replace hx128_1:=yC HB.out hx128_1
        replace hx128_2:=yC HB.out hx128_2
        replace hx128_3:=yC HB.out hx128_3
        have HR128_3:=yA hi128_3
        have HC128_3:=yA hl128_3
        clear hi128_3 hl128_3
        replace p128:=eq_true p128
        replace q128:=eq_true q128
        go_wp2_with (first|((with_reducible refine Aq (N:=9) rfl ?_); refine Av ?hg (N:=9) ?hd (cs:= #[.string (⟨#[]⟩:ByteArray),.int .i64 0,.int .i64 0,.slice none 0 0]) (t:=64) ?hr ?_; (case hd=>rfl); (case hg=>rfl); (case hr=>first|(go_simp; done)|(go_simp; rfl)); intro gb129 hg w13 hbox hb; have n0_:=yA (Kd.R_below zB7 hb); have n1_:=yA (AP (g:=gb123) (o:= .cells #[.int .i64 A8,.slice (some ad128) l0_1.length c0_1] 34 (0,0)) zA1 hb); have n2_:=yA (AO zM hb); have n3_:=yA (hbox); have n4_:=yA ((by rw [hg]; exact (AQ zM):w.heap.size≤gb129)); have n5_:=yA ((by rw [hg]; exact (AQ zM):w.heap.size≤gb129)); have n6_:=yA ((by rw [hg]; exact Nat.ne_of_lt (B8 (g:=gb123) (o:= .cells #[.int .i64 A8,.slice (some ad128) l0_1.length c0_1] 34 (0,0)) zA1):gb123≠gb129)); have n7_:=yA ((by rw [hg]; exact Nat.ne_of_gt (B8 (g:=gb123) (o:= .cells #[.int .i64 A8,.slice (some ad128) l0_1.length c0_1] 34 (0,0)) zA1):gb129≠gb123)); clear HO_4; clear BK123; clear HB; have HO_4:=n0_; have BK123:=n1_; have HB:=n2_; have BK129:=n3_; have GW129:=n4_; have GE129:=n5_; have NB123_129:=n6_; have NB129_123:=n7_; clear n0_ n1_ n2_ n3_ n4_ n5_ n6_ n7_; clear hb hbox hg; have hnb14:=NB129_123.out; have hnc14:=NB123_129.out; have hcz15_0:w13.cell? ⟨gb129,0,none⟩=some (.string (⟨#[]⟩:ByteArray)):=(AK BK129.out 0).trans rfl; have hcz15_1:w13.cell? ⟨gb129,1,none⟩=some (.int .i64 0):=(AK BK129.out 1).trans rfl; have hcz15_2:w13.cell? ⟨gb129,2,none⟩=some (.int .i64 0):=(AK BK129.out 2).trans rfl; have hcz15_3:w13.cell? ⟨gb129,3,none⟩=some (.slice none 0 0):=(AK BK129.out 3).trans rfl; have hfz15_0:=AJ BK129.out 0; have hfz15_1:=AJ BK129.out 1; have hfz15_2:=AJ BK129.out 2; have hfz15_3:=AJ BK129.out 3; obtain ⟨Ao16,co16,eo16⟩:=Kd.R_slice HO_4.out; subst eo16; have p130:0≤(x21_1:Int):=yD; have q130:x21_1<(t124.length:Int):=yD; obtain ⟨ad130,e130,hx130_0⟩:=Kd.at_int (Kd.R_reads' HO_4.out).2.2 x21_1 p130 q130; cases e130; have hn130_0:ad130.block≠gb129:=Kd.own_blk (Kd.R_ne HO_4.out BK129.out zA0); have hn130_1:ad130.block≠gb129:=Kd.own_blk (Kd.R_ne HO_4.out BK129.out zA0); have hn130_2:ad130.block≠gb129:=Kd.own_blk (Kd.R_ne HO_4.out BK129.out zA0); have hn130_3:ad130.block≠gb129:=Kd.own_blk (Kd.R_ne HO_4.out BK129.out zA0); replace hx130_0:=(Bt (p:=⟨gb129,0,none⟩) (by first|(rw [BH]; exact hn130_0)|(show (Addr.add _ _).block≠_; rw [BH]; exact hn130_0)|exact hn130_0) (.string ((AM l0_1 x21_1).f0))).trans hx130_0; replace hx130_0:=(Bt (p:=⟨gb129,1,none⟩) (by first|(rw [BH]; exact hn130_1)|(show (Addr.add _ _).block≠_; rw [BH]; exact hn130_1)|exact hn130_1) (.int .i64 ((AM l0_1 x21_1).f1))).trans hx130_0; replace hx130_0:=(Bt (p:=⟨gb129,2,none⟩) (by first|(rw [BH]; exact hn130_2)|(show (Addr.add _ _).block≠_; rw [BH]; exact hn130_2)|exact hn130_2) (.int .i64 ((AM l0_1 x21_1).f2))).trans hx130_0; replace hx130_0:=(Bt (p:=⟨gb129,3,none⟩) (by first|(rw [BH]; exact hn130_3)|(show (Addr.add _ _).block≠_; rw [BH]; exact hn130_3)|exact hn130_3) (.slice A128_3 ((AM l0_1 x21_1).f3).length c128_3)).trans hx130_0; (try have hy130_0:=fun (n_:Nat)=>(show ((((((w13.drewN n_).setCell ⟨gb129,0,none⟩ (.string ((AM l0_1 x21_1).f0))).setCell ⟨gb129,1,none⟩ (.int .i64 ((AM l0_1 x21_1).f1))).setCell ⟨gb129,2,none⟩ (.int .i64 ((AM l0_1 x21_1).f2))).setCell ⟨gb129,3,none⟩ (.slice A128_3 ((AM l0_1 x21_1).f3).length c128_3))).cell? _=some _ from hx130_0)); clear hn130_0; clear hn130_1; clear hn130_2; clear hn130_3; replace p130:=eq_true p130; replace q130:=eq_true q130))
        repeat (go_quiet (first|((with_reducible refine Aq (N:=9) rfl ?_); refine Av ?hg (N:=9) ?hd (cs:= #[.string (⟨#[]⟩:ByteArray),.int .i64 0,.int .i64 0,.slice none 0 0]) (t:=64) ?hr ?_; (case hd=>rfl); (case hg=>rfl); (case hr=>first|(go_simp; done)|(go_simp; rfl)); intro gb129 hg w13 hbox hb; have n0_:=yA (Kd.R_below zB7 hb); have n1_:=yA (AP (g:=gb123) (o:= .cells #[.int .i64 A8,.slice (some ad128) l0_1.length c0_1] 34 (0,0)) zA1 hb); have n2_:=yA (AO zM hb); have n3_:=yA (hbox); have n4_:=yA ((by rw [hg]; exact (AQ zM):w.heap.size≤gb129)); have n5_:=yA ((by rw [hg]; exact (AQ zM):w.heap.size≤gb129)); have n6_:=yA ((by rw [hg]; exact Nat.ne_of_lt (B8 (g:=gb123) (o:= .cells #[.int .i64 A8,.slice (some ad128) l0_1.length c0_1] 34 (0,0)) zA1):gb123≠gb129)); have n7_:=yA ((by rw [hg]; exact Nat.ne_of_gt (B8 (g:=gb123) (o:= .cells #[.int .i64 A8,.slice (some ad128) l0_1.length c0_1] 34 (0,0)) zA1):gb129≠gb123)); clear HO_4; clear BK123; clear HB; have HO_4:=n0_; have BK123:=n1_; have HB:=n2_; have BK129:=n3_; have GW129:=n4_; have GE129:=n5_; have NB123_129:=n6_; have NB129_123:=n7_; clear n0_ n1_ n2_ n3_ n4_ n5_ n6_ n7_; clear hb hbox hg; have hnb14:=NB129_123.out; have hnc14:=NB123_129.out; have hcz15_0:w13.cell? ⟨gb129,0,none⟩=some (.string (⟨#[]⟩:ByteArray)):=(AK BK129.out 0).trans rfl; have hcz15_1:w13.cell? ⟨gb129,1,none⟩=some (.int .i64 0):=(AK BK129.out 1).trans rfl; have hcz15_2:w13.cell? ⟨gb129,2,none⟩=some (.int .i64 0):=(AK BK129.out 2).trans rfl; have hcz15_3:w13.cell? ⟨gb129,3,none⟩=some (.slice none 0 0):=(AK BK129.out 3).trans rfl; have hfz15_0:=AJ BK129.out 0; have hfz15_1:=AJ BK129.out 1; have hfz15_2:=AJ BK129.out 2; have hfz15_3:=AJ BK129.out 3; obtain ⟨Ao16,co16,eo16⟩:=Kd.R_slice HO_4.out; subst eo16; have p130:0≤(x21_1:Int):=yD; have q130:x21_1<(t124.length:Int):=yD; obtain ⟨ad130,e130,hx130_0⟩:=Kd.at_int (Kd.R_reads' HO_4.out).2.2 x21_1 p130 q130; cases e130; have hn130_0:ad130.block≠gb129:=Kd.own_blk (Kd.R_ne HO_4.out BK129.out zA0); have hn130_1:ad130.block≠gb129:=Kd.own_blk (Kd.R_ne HO_4.out BK129.out zA0); have hn130_2:ad130.block≠gb129:=Kd.own_blk (Kd.R_ne HO_4.out BK129.out zA0); have hn130_3:ad130.block≠gb129:=Kd.own_blk (Kd.R_ne HO_4.out BK129.out zA0); replace hx130_0:=(Bt (p:=⟨gb129,0,none⟩) (by first|(rw [BH]; exact hn130_0)|(show (Addr.add _ _).block≠_; rw [BH]; exact hn130_0)|exact hn130_0) (.string ((AM l0_1 x21_1).f0))).trans hx130_0; replace hx130_0:=(Bt (p:=⟨gb129,1,none⟩) (by first|(rw [BH]; exact hn130_1)|(show (Addr.add _ _).block≠_; rw [BH]; exact hn130_1)|exact hn130_1) (.int .i64 ((AM l0_1 x21_1).f1))).trans hx130_0; replace hx130_0:=(Bt (p:=⟨gb129,2,none⟩) (by first|(rw [BH]; exact hn130_2)|(show (Addr.add _ _).block≠_; rw [BH]; exact hn130_2)|exact hn130_2) (.int .i64 ((AM l0_1 x21_1).f2))).trans hx130_0; replace hx130_0:=(Bt (p:=⟨gb129,3,none⟩) (by first|(rw [BH]; exact hn130_3)|(show (Addr.add _ _).block≠_; rw [BH]; exact hn130_3)|exact hn130_3) (.slice A128_3 ((AM l0_1 x21_1).f3).length c128_3)).trans hx130_0; (try have hy130_0:=fun (n_:Nat)=>(show ((((((w13.drewN n_).setCell ⟨gb129,0,none⟩ (.string ((AM l0_1 x21_1).f0))).setCell ⟨gb129,1,none⟩ (.int .i64 ((AM l0_1 x21_1).f1))).setCell ⟨gb129,2,none⟩ (.int .i64 ((AM l0_1 x21_1).f2))).setCell ⟨gb129,3,none⟩ (.slice A128_3 ((AM l0_1 x21_1).f3).length c128_3))).cell? _=some _ from hx130_0)); clear hn130_0; clear hn130_1; clear hn130_2; clear hn130_3; replace p130:=eq_true p130; replace q130:=eq_true q130)); try go_wp2_with (first|((with_reducible refine Aq (N:=9) rfl ?_); refine Av ?hg (N:=9) ?hd (cs:= #[.string (⟨#[]⟩:ByteArray),.int .i64 0,.int .i64 0,.slice none 0 0]) (t:=64) ?hr ?_; (case hd=>rfl); (case hg=>rfl); (case hr=>first|(go_simp; done)|(go_simp; rfl)); intro gb129 hg w13 hbox hb; have n0_:=yA (Kd.R_below zB7 hb); have n1_:=yA (AP (g:=gb123) (o:= .cells #[.int .i64 A8,.slice (some ad128) l0_1.length c0_1] 34 (0,0)) zA1 hb); have n2_:=yA (AO zM hb); have n3_:=yA (hbox); have n4_:=yA ((by rw [hg]; exact (AQ zM):w.heap.size≤gb129)); have n5_:=yA ((by rw [hg]; exact (AQ zM):w.heap.size≤gb129)); have n6_:=yA ((by rw [hg]; exact Nat.ne_of_lt (B8 (g:=gb123) (o:= .cells #[.int .i64 A8,.slice (some ad128) l0_1.length c0_1] 34 (0,0)) zA1):gb123≠gb129)); have n7_:=yA ((by rw [hg]; exact Nat.ne_of_gt (B8 (g:=gb123) (o:= .cells #[.int .i64 A8,.slice (some ad128) l0_1.length c0_1] 34 (0,0)) zA1):gb129≠gb123)); clear HO_4; clear BK123; clear HB; have HO_4:=n0_; have BK123:=n1_; have HB:=n2_; have BK129:=n3_; have GW129:=n4_; have GE129:=n5_; have NB123_129:=n6_; have NB129_123:=n7_; clear n0_ n1_ n2_ n3_ n4_ n5_ n6_ n7_; clear hb hbox hg; have hnb14:=NB129_123.out; have hnc14:=NB123_129.out; have hcz15_0:w13.cell? ⟨gb129,0,none⟩=some (.string (⟨#[]⟩:ByteArray)):=(AK BK129.out 0).trans rfl; have hcz15_1:w13.cell? ⟨gb129,1,none⟩=some (.int .i64 0):=(AK BK129.out 1).trans rfl; have hcz15_2:w13.cell? ⟨gb129,2,none⟩=some (.int .i64 0):=(AK BK129.out 2).trans rfl; have hcz15_3:w13.cell? ⟨gb129,3,none⟩=some (.slice none 0 0):=(AK BK129.out 3).trans rfl; have hfz15_0:=AJ BK129.out 0; have hfz15_1:=AJ BK129.out 1; have hfz15_2:=AJ BK129.out 2; have hfz15_3:=AJ BK129.out 3; obtain ⟨Ao16,co16,eo16⟩:=Kd.R_slice HO_4.out; subst eo16; have p130:0≤(x21_1:Int):=yD; have q130:x21_1<(t124.length:Int):=yD; obtain ⟨ad130,e130,hx130_0⟩:=Kd.at_int (Kd.R_reads' HO_4.out).2.2 x21_1 p130 q130; cases e130; have hn130_0:ad130.block≠gb129:=Kd.own_blk (Kd.R_ne HO_4.out BK129.out zA0); have hn130_1:ad130.block≠gb129:=Kd.own_blk (Kd.R_ne HO_4.out BK129.out zA0); have hn130_2:ad130.block≠gb129:=Kd.own_blk (Kd.R_ne HO_4.out BK129.out zA0); have hn130_3:ad130.block≠gb129:=Kd.own_blk (Kd.R_ne HO_4.out BK129.out zA0); replace hx130_0:=(Bt (p:=⟨gb129,0,none⟩) (by first|(rw [BH]; exact hn130_0)|(show (Addr.add _ _).block≠_; rw [BH]; exact hn130_0)|exact hn130_0) (.string ((AM l0_1 x21_1).f0))).trans hx130_0; replace hx130_0:=(Bt (p:=⟨gb129,1,none⟩) (by first|(rw [BH]; exact hn130_1)|(show (Addr.add _ _).block≠_; rw [BH]; exact hn130_1)|exact hn130_1) (.int .i64 ((AM l0_1 x21_1).f1))).trans hx130_0; replace hx130_0:=(Bt (p:=⟨gb129,2,none⟩) (by first|(rw [BH]; exact hn130_2)|(show (Addr.add _ _).block≠_; rw [BH]; exact hn130_2)|exact hn130_2) (.int .i64 ((AM l0_1 x21_1).f2))).trans hx130_0; replace hx130_0:=(Bt (p:=⟨gb129,3,none⟩) (by first|(rw [BH]; exact hn130_3)|(show (Addr.add _ _).block≠_; rw [BH]; exact hn130_3)|exact hn130_3) (.slice A128_3 ((AM l0_1 x21_1).f3).length c128_3)).trans hx130_0; (try have hy130_0:=fun (n_:Nat)=>(show ((((((w13.drewN n_).setCell ⟨gb129,0,none⟩ (.string ((AM l0_1 x21_1).f0))).setCell ⟨gb129,1,none⟩ (.int .i64 ((AM l0_1 x21_1).f1))).setCell ⟨gb129,2,none⟩ (.int .i64 ((AM l0_1 x21_1).f2))).setCell ⟨gb129,3,none⟩ (.slice A128_3 ((AM l0_1 x21_1).f3).length c128_3))).cell? _=some _ from hx130_0)); clear hn130_0; clear hn130_1; clear hn130_2; clear hn130_3; replace p130:=eq_true p130; replace q130:=eq_true q130)))
        go_roundg k1
        case measure=>have:=HK1.out; omega
        case rel=>exact ⟨(wrap64 (x6_1+((AM l0_1 x21_1).f1))),(ji12),(wrap64 (x21_1+1)),zH,(by first|rfl|(simp; done)|(simp only [←hji12]<;>(first|rfl|simp))|(simp [*]; done)),zH,H',⟨by have:=HK1.out; omega⟩,⟨by (with_reducible repeat (first|apply Kd.R_alloc|apply Kd.R_drewN|apply Kd.R_drew)); exact Kd.R_mono (Kd.R_far (p:=⟨gb129,3,none⟩) (Kd.R_far (p:=⟨gb129,2,none⟩) (Kd.R_far (p:=⟨gb129,1,none⟩) (Kd.R_far (p:=⟨gb129,0,none⟩) (Kd.R_types HO_4.out BK129.out zA0) (fun _ hk=>hk.2) (.string ((AM l0_1 x21_1).f0))) (fun _ hk=>hk.2) (.int .i64 ((AM l0_1 x21_1).f1))) (fun _ hk=>hk.2) (.int .i64 ((AM l0_1 x21_1).f2))) (fun _ hk=>hk.2) (.slice A128_3 ((AM l0_1 x21_1).f3).length c128_3)) (fun _ hk=>trivial)⟩,⟨by (with_reducible repeat (first|refine AF ?_ _|refine AH ?_|refine AG ?_ _)); refine AV ?_ NB123_129.out _; (with_reducible repeat (first|refine AF ?_ _|refine AH ?_|refine AG ?_ _)); refine AV ?_ NB123_129.out _; (with_reducible repeat (first|refine AF ?_ _|refine AH ?_|refine AG ?_ _)); refine AV ?_ NB123_129.out _; (with_reducible repeat (first|refine AF ?_ _|refine AH ?_|refine AG ?_ _)); refine AV ?_ NB123_129.out _; (with_reducible repeat (first|refine AF ?_ _|refine AH ?_|refine AG ?_ _)); exact BK123.out⟩,⟨by repeat (first|(with_reducible first|exact HB.out|apply AE|apply AC|apply AD|refine AI ?_ GE123.out|refine AI ?_ GE129.out)|exact HB.out)⟩⟩
       ·rw [if_neg c11] at H
        exact absurd H zA5
      ·rw [if_neg c10] at H
       exact absurd H zA5
     ·rw [if_neg c9] at H
      exact absurd H zA5
    ·rw [if_neg c8] at H
     have c8b0:decide (x21_1<(l0_1.length:Int))=false:=decide_eq_false c8
     clear c8
     by_cases c17:A8=0
     ·rw [if_pos c17] at H
      exact absurd H zA5
     ·rw [if_neg c17] at H
      have c17b0:(A8==0)=false:=beq_eq_false_iff_ne.mpr c17
      have c17b1:(A8 !=0)=true:=bne_iff_ne.mpr c17
      obtain ⟨ji18,hji18⟩:∃j_:Int,(mx x7_1 (wrap64 (Int.tdiv (wrap64 ((wrap64 (x6_1+A8))-1)) A8)))=j_:=⟨_,rfl⟩
      replace H:(some (ji18,0))=some (r1,r2):=by first|(rw [hji18] at H; exact H)|(simp only [hji18] at H ⊢; exact H)
      have hji18_:(if x7_1<(wrap64 (Int.tdiv (wrap64 ((wrap64 (x6_1+A8))-1)) A8)) then (wrap64 (Int.tdiv (wrap64 ((wrap64 (x6_1+A8))-1)) A8)) else x7_1)=ji18:=hji18
      simp only [Option.some.injEq,Prod.mk.injEq] at H
      obtain ⟨rfl,rfl⟩:=H
      have hcz19_0:wr.cell? ⟨gb123,0,none⟩=some (.int .i64 A8):=(AK BK123.out 0).trans rfl
      have hcz19_1:wr.cell? ⟨gb123,1,none⟩=some (.slice A0_1 l0_1.length c0_1):=(AK BK123.out 1).trans rfl
      have hfz19_0:=AJ BK123.out 0
      have hfz19_1:=AJ BK123.out 1
      go_wp2
      repeat (go_quiet (fail); try go_wp2)
      go_ret2
      exact ⟨by first|rfl|(simp [AY,AX]<;>rfl)|(simp only [←hji18]; first|rfl|(simp [AY,AX]<;>rfl))|(simp [*,AY,AX]<;>rfl),by repeat (first|(with_reducible first|exact HB.out|apply AE|apply AC|apply AD|refine AI ?_ GE123.out)|exact HB.out)⟩
 ·rw [if_neg c3] at H
  have c3b0:(t127==0)=false:=beq_eq_false_iff_ne.mpr c3
  have c3b1:(t127 !=0)=true:=bne_iff_ne.mpr c3
  simp only [Option.some.injEq,Prod.mk.injEq] at H
  obtain ⟨rfl,rfl⟩:=H
  go_enter Try.func11,Try.ntmps11
  go_wp2_with (first|((with_reducible refine Aq (N:=1) rfl ?_); refine Av ?hg (N:=1) ?hd (cs:= #[.int .i64 A8,.slice A0_1 l0_1.length c0_1]) (t:=34) ?hr ?_; (case hd=>rfl); (case hg=>rfl); (case hr=>first|(go_simp; done)|(go_simp; rfl)); intro gb123 hg w20 hbox hb; have n0_:=yA (AO zB hb); have n1_:=yA (hbox); have n2_:=yA ((by rw [hg]; exact (AQ zB):w.heap.size≤gb123)); have n3_:=yA ((by rw [hg]; exact (AQ zB):w.heap.size≤gb123)); clear HB; have HB:=n0_; have BK123:=n1_; have GW123:=n2_; have GE123:=n3_; clear n0_ n1_ n2_ n3_; clear hb hbox hg; have hcz21_0:w20.cell? ⟨gb123,0,none⟩=some (.int .i64 A8):=(AK BK123.out 0).trans rfl; have hcz21_1:w20.cell? ⟨gb123,1,none⟩=some (.slice A0_1 l0_1.length c0_1):=(AK BK123.out 1).trans rfl; have hfz21_0:=AJ BK123.out 0; have hfz21_1:=AJ BK123.out 1)|(go_at_call 16; (with_reducible refine (Ad.calls k A8 _ _ l0_1 t124 t127 _ ?side1 ?side2 A2.out).mono ?_); (case side1=>repeat (first|exact (Kd.C_below HR0_1.out HB.out)|(with_reducible refine Kd.C_alloc ?_ _)|(with_reducible refine Kd.C_drewN ?_ _)|(with_reducible refine Kd.C_drew ?_))); (case side2=>exact HC0_1.out); rintro e w22 ⟨v125,rfl,ho0,hb⟩; have n0_:=yA (Kd.R_lower ho0 (AQ zM)); have n1_:=yA (AP (g:=gb123) (o:= .cells #[.int .i64 A8,.slice A0_1 l0_1.length c0_1] 34 (0,0)) zA1 hb); have n2_:=yA (AO zM hb); clear BK123; clear HB; have HO126:=n0_; have BK123:=n1_; have HB:=n2_; clear n0_ n1_ n2_; (try clear hb); (try clear hb2); (try clear hk); (try clear hi); (try clear ho0)))
  repeat (go_quiet (first|((with_reducible refine Aq (N:=1) rfl ?_); refine Av ?hg (N:=1) ?hd (cs:= #[.int .i64 A8,.slice A0_1 l0_1.length c0_1]) (t:=34) ?hr ?_; (case hd=>rfl); (case hg=>rfl); (case hr=>first|(go_simp; done)|(go_simp; rfl)); intro gb123 hg w20 hbox hb; have n0_:=yA (AO zB hb); have n1_:=yA (hbox); have n2_:=yA ((by rw [hg]; exact (AQ zB):w.heap.size≤gb123)); have n3_:=yA ((by rw [hg]; exact (AQ zB):w.heap.size≤gb123)); clear HB; have HB:=n0_; have BK123:=n1_; have GW123:=n2_; have GE123:=n3_; clear n0_ n1_ n2_ n3_; clear hb hbox hg; have hcz21_0:w20.cell? ⟨gb123,0,none⟩=some (.int .i64 A8):=(AK BK123.out 0).trans rfl; have hcz21_1:w20.cell? ⟨gb123,1,none⟩=some (.slice A0_1 l0_1.length c0_1):=(AK BK123.out 1).trans rfl; have hfz21_0:=AJ BK123.out 0; have hfz21_1:=AJ BK123.out 1)|(go_at_call 16; (with_reducible refine (Ad.calls k A8 _ _ l0_1 t124 t127 _ ?side1 ?side2 A2.out).mono ?_); (case side1=>repeat (first|exact (Kd.C_below HR0_1.out HB.out)|(with_reducible refine Kd.C_alloc ?_ _)|(with_reducible refine Kd.C_drewN ?_ _)|(with_reducible refine Kd.C_drew ?_))); (case side2=>exact HC0_1.out); rintro e w22 ⟨v125,rfl,ho0,hb⟩; have n0_:=yA (Kd.R_lower ho0 (AQ zM)); have n1_:=yA (AP (g:=gb123) (o:= .cells #[.int .i64 A8,.slice A0_1 l0_1.length c0_1] 34 (0,0)) zA1 hb); have n2_:=yA (AO zM hb); clear BK123; clear HB; have HO126:=n0_; have BK123:=n1_; have HB:=n2_; clear n0_ n1_ n2_; (try clear hb); (try clear hb2); (try clear hk); (try clear hi); (try clear ho0); clear A2)); try go_wp2_with (first|((with_reducible refine Aq (N:=1) rfl ?_); refine Av ?hg (N:=1) ?hd (cs:= #[.int .i64 A8,.slice A0_1 l0_1.length c0_1]) (t:=34) ?hr ?_; (case hd=>rfl); (case hg=>rfl); (case hr=>first|(go_simp; done)|(go_simp; rfl)); intro gb123 hg w20 hbox hb; have n0_:=yA (AO zB hb); have n1_:=yA (hbox); have n2_:=yA ((by rw [hg]; exact (AQ zB):w.heap.size≤gb123)); have n3_:=yA ((by rw [hg]; exact (AQ zB):w.heap.size≤gb123)); clear HB; have HB:=n0_; have BK123:=n1_; have GW123:=n2_; have GE123:=n3_; clear n0_ n1_ n2_ n3_; clear hb hbox hg; have hcz21_0:w20.cell? ⟨gb123,0,none⟩=some (.int .i64 A8):=(AK BK123.out 0).trans rfl; have hcz21_1:w20.cell? ⟨gb123,1,none⟩=some (.slice A0_1 l0_1.length c0_1):=(AK BK123.out 1).trans rfl; have hfz21_0:=AJ BK123.out 0; have hfz21_1:=AJ BK123.out 1)|(go_at_call 16; (with_reducible refine (Ad.calls k A8 _ _ l0_1 t124 t127 _ ?side1 ?side2 A2.out).mono ?_); (case side1=>repeat (first|exact (Kd.C_below HR0_1.out HB.out)|(with_reducible refine Kd.C_alloc ?_ _)|(with_reducible refine Kd.C_drewN ?_ _)|(with_reducible refine Kd.C_drew ?_))); (case side2=>exact HC0_1.out); rintro e w22 ⟨v125,rfl,ho0,hb⟩; have n0_:=yA (Kd.R_lower ho0 (AQ zM)); have n1_:=yA (AP (g:=gb123) (o:= .cells #[.int .i64 A8,.slice A0_1 l0_1.length c0_1] 34 (0,0)) zA1 hb); have n2_:=yA (AO zM hb); clear BK123; clear HB; have HO126:=n0_; have BK123:=n1_; have HB:=n2_; clear n0_ n1_ n2_; (try clear hb); (try clear hb2); (try clear hk); (try clear hi); (try clear ho0); clear A2)))
  go_ret2
  exact ⟨by first|rfl|(simp [AY,AX]<;>rfl)|(simp [*,AY,AX]<;>rfl),by repeat (first|(with_reducible first|exact HB.out|apply AE|apply AC|apply AD|refine AI ?_ GE123.out)|exact HB.out)⟩
def BB.f (A8:Int) (l0_1:List (S64)) (l1:List (S47)) (a2:Int):Option (Int):=if 0≤a2 then (if a2<(l1.length:Int) then (if a2<(l0_1.length:Int) then (some (wrap64 (((Au l1 a2).f1)+((AM l0_1 a2).f1)))) else (none)) else (none)) else (none)
set_option maxHeartbeats 8000000 in
theorem BB.calls (A8:Int) (A0_1:Option Addr) (c0_1:Nat) (l0_1:List (S64)) (A1:Option Addr) (c1:Nat) (l1:List (S47)) (a2:Int) (r:Int) (w:World) (hr0_1:Kd.C k64 w A0_1 l0_1.length l0_1) (hc0_1:l0_1.length≤c0_1) (hr1:Kd.C k47 w A1 l1.length l1) (hc1:l1.length≤c1) (h:BB.f A8 l0_1 l1 a2=some r):
  Calls Try.prog 30 #[.agg #[.int .i64 A8,.slice A0_1 l0_1.length c0_1],.slice A1 l1.length c1,.int .i64 a2] w fun e w'=>e= .returned (.int .i64 r)∧Below w.heap.size w w':=by
 have hu34:=Try.underlying34
 have HR0_1:=yA hr0_1
 have HC0_1:=yA hc0_1
 clear hr0_1 hc0_1
 have HR1:=yA hr1
 have HC1:=yA hc1
 clear hr1 hc1
 have HB:=yA (Below.refl w.heap.size w)
 have H:(if 0≤a2 then (if a2<(l1.length:Int) then (if a2<(l0_1.length:Int) then (some (wrap64 (((Au l1 a2).f1)+((AM l0_1 a2).f1)))) else (none)) else (none)) else (none))=some r:=h
 clear h
 by_cases c4:0≤a2
 ·rw [if_pos c4] at H
  have c4b0:decide (0≤a2)=true:=decide_eq_true c4
  clear c4
  by_cases c5:a2<(l1.length:Int)
  ·rw [if_pos c5] at H
   have c5b0:decide (a2<(l1.length:Int))=true:=decide_eq_true c5
   clear c5
   by_cases c6:a2<(l0_1.length:Int)
   ·rw [if_pos c6] at H
    have c6b0:decide (a2<(l0_1.length:Int))=true:=decide_eq_true c6
    clear c6
    obtain rfl:=Option.some.inj H
    go_enter Try.func30,Try.ntmps30
    go_wp2_with (first|((with_reducible refine Aq (N:=3) rfl ?_); refine Av ?hg (N:=3) ?hd (cs:= #[.int .i64 A8,.slice A0_1 l0_1.length c0_1]) (t:=34) ?hr ?_; (case hd=>rfl); (case hg=>rfl); (case hr=>first|(go_simp; done)|(go_simp; rfl)); intro gb131 hg w7 hbox hb; have n0_:=yA (AO zB hb); have n1_:=yA (hbox); have n2_:=yA ((by rw [hg]; exact (AQ zB):w.heap.size≤gb131)); have n3_:=yA ((by rw [hg]; exact (AQ zB):w.heap.size≤gb131)); clear HB; have HB:=n0_; have BK131:=n1_; have GW131:=n2_; have GE131:=n3_; clear n0_ n1_ n2_ n3_; clear hb hbox hg; have p132:0≤(a2:Int):=yD; have q132:a2<(l1.length:Int):=yD; obtain ⟨ad132,e132,hx132_0,hx132_1⟩:=Bp HR1.out a2 p132 q132; cases e132; replace hx132_0:=yC HB.out hx132_0; replace hx132_1:=yC HB.out hx132_1; replace p132:=eq_true p132; replace q132:=eq_true q132; have hcz8_0:w7.cell? ⟨gb131,0,none⟩=some (.int .i64 A8):=(AK BK131.out 0).trans rfl; have hcz8_1:w7.cell? ⟨gb131,1,none⟩=some (.slice A0_1 l0_1.length c0_1):=(AK BK131.out 1).trans rfl; have hfz8_0:=AJ BK131.out 0; have hfz8_1:=AJ BK131.out 1; have p133:0≤(a2:Int):=yD; have q133:a2<(l0_1.length:Int):=yD; obtain ⟨ad133,A133_3,c133_3,e133,hx133_0,hx133_1,hx133_2,hx133_3,hl133_3,hi133_3⟩:=C6 HR0_1.out a2 p133 q133; cases e133; replace hx133_0:=yC HB.out hx133_0; replace hx133_1:=yC HB.out hx133_1; replace hx133_2:=yC HB.out hx133_2; replace hx133_3:=yC HB.out hx133_3; have HR133_3:=yA hi133_3; have HC133_3:=yA hl133_3; clear hi133_3 hl133_3; replace p133:=eq_true p133; replace q133:=eq_true q133))
    repeat (go_quiet (first|((with_reducible refine Aq (N:=3) rfl ?_); refine Av ?hg (N:=3) ?hd (cs:= #[.int .i64 A8,.slice A0_1 l0_1.length c0_1]) (t:=34) ?hr ?_; (case hd=>rfl); (case hg=>rfl); (case hr=>first|(go_simp; done)|(go_simp; rfl)); intro gb131 hg w7 hbox hb; have n0_:=yA (AO zB hb); have n1_:=yA (hbox); have n2_:=yA ((by rw [hg]; exact (AQ zB):w.heap.size≤gb131)); have n3_:=yA ((by rw [hg]; exact (AQ zB):w.heap.size≤gb131)); clear HB; have HB:=n0_; have BK131:=n1_; have GW131:=n2_; have GE131:=n3_; clear n0_ n1_ n2_ n3_; clear hb hbox hg; have p132:0≤(a2:Int):=yD; have q132:a2<(l1.length:Int):=yD; obtain ⟨ad132,e132,hx132_0,hx132_1⟩:=Bp HR1.out a2 p132 q132; cases e132; replace hx132_0:=yC HB.out hx132_0; replace hx132_1:=yC HB.out hx132_1; replace p132:=eq_true p132; replace q132:=eq_true q132; have hcz8_0:w7.cell? ⟨gb131,0,none⟩=some (.int .i64 A8):=(AK BK131.out 0).trans rfl; have hcz8_1:w7.cell? ⟨gb131,1,none⟩=some (.slice A0_1 l0_1.length c0_1):=(AK BK131.out 1).trans rfl; have hfz8_0:=AJ BK131.out 0; have hfz8_1:=AJ BK131.out 1; have p133:0≤(a2:Int):=yD; have q133:a2<(l0_1.length:Int):=yD; obtain ⟨ad133,A133_3,c133_3,e133,hx133_0,hx133_1,hx133_2,hx133_3,hl133_3,hi133_3⟩:=C6 HR0_1.out a2 p133 q133; cases e133; replace hx133_0:=yC HB.out hx133_0; replace hx133_1:=yC HB.out hx133_1; replace hx133_2:=yC HB.out hx133_2; replace hx133_3:=yC HB.out hx133_3; have HR133_3:=yA hi133_3; have HC133_3:=yA hl133_3; clear hi133_3 hl133_3; replace p133:=eq_true p133; replace q133:=eq_true q133)); try go_wp2_with (first|((with_reducible refine Aq (N:=3) rfl ?_); refine Av ?hg (N:=3) ?hd (cs:= #[.int .i64 A8,.slice A0_1 l0_1.length c0_1]) (t:=34) ?hr ?_; (case hd=>rfl); (case hg=>rfl); (case hr=>first|(go_simp; done)|(go_simp; rfl)); intro gb131 hg w7 hbox hb; have n0_:=yA (AO zB hb); have n1_:=yA (hbox); have n2_:=yA ((by rw [hg]; exact (AQ zB):w.heap.size≤gb131)); have n3_:=yA ((by rw [hg]; exact (AQ zB):w.heap.size≤gb131)); clear HB; have HB:=n0_; have BK131:=n1_; have GW131:=n2_; have GE131:=n3_; clear n0_ n1_ n2_ n3_; clear hb hbox hg; have p132:0≤(a2:Int):=yD; have q132:a2<(l1.length:Int):=yD; obtain ⟨ad132,e132,hx132_0,hx132_1⟩:=Bp HR1.out a2 p132 q132; cases e132; replace hx132_0:=yC HB.out hx132_0; replace hx132_1:=yC HB.out hx132_1; replace p132:=eq_true p132; replace q132:=eq_true q132; have hcz8_0:w7.cell? ⟨gb131,0,none⟩=some (.int .i64 A8):=(AK BK131.out 0).trans rfl; have hcz8_1:w7.cell? ⟨gb131,1,none⟩=some (.slice A0_1 l0_1.length c0_1):=(AK BK131.out 1).trans rfl; have hfz8_0:=AJ BK131.out 0; have hfz8_1:=AJ BK131.out 1; have p133:0≤(a2:Int):=yD; have q133:a2<(l0_1.length:Int):=yD; obtain ⟨ad133,A133_3,c133_3,e133,hx133_0,hx133_1,hx133_2,hx133_3,hl133_3,hi133_3⟩:=C6 HR0_1.out a2 p133 q133; cases e133; replace hx133_0:=yC HB.out hx133_0; replace hx133_1:=yC HB.out hx133_1; replace hx133_2:=yC HB.out hx133_2; replace hx133_3:=yC HB.out hx133_3; have HR133_3:=yA hi133_3; have HC133_3:=yA hl133_3; clear hi133_3 hl133_3; replace p133:=eq_true p133; replace q133:=eq_true q133)))
    go_ret
    exact ⟨by first|rfl|(simp [AY,AX]<;>rfl)|(simp [*,AY,AX]<;>rfl),by repeat (first|(with_reducible first|exact HB.out|apply AE|apply AC|apply AD|refine AI ?_ GE131.out)|exact HB.out)⟩
   ·rw [if_neg c6] at H
    exact absurd H zA5
  ·rw [if_neg c5] at H
   exact absurd H zA5
 ·rw [if_neg c4] at H
  exact absurd H zA5
end Go.Proofs.Ytdadecjefafflaa.PLst
end
