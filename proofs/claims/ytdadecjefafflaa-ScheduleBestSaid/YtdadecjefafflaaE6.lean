/- A part of what the law's proof leans on. PACKED BY pack.py of this repo. -/
import Derived.Test.YtdadecjefafflaaE5
set_option linter.unusedVariables false
set_option linter.unusedSimpArgs false
set_option linter.defProp false
set_option linter.unusedSectionVars false
section
namespace Go.Proofs.Ytdadecjefafflaa.PAll
set_option maxRecDepth 100000
open Go.RowKit Go.Proofs.YtdadecjefafflaaW.PrintWords Go.Proofs.YtdadecjefafflaaW.PrintLast Go.Proofs.YtdadecjefafflaaW.PrintMore
attribute [local go_sem] Bb BZ Bg Bf BU BT Ba BX
mutual
def AW.j0:Nat→List (S54)→Bool→Int→List (S42)→Option (Int)
 |0,_,_,_,_=>none
 |k+1,x1,x21,x431000,x431001=>if x21=true then (some 1) else (AW.l0 k x1 0 x431000 x431001)
def AW.l0:Nat→List (S54)→Int→Int→List (S42)→Option (Int)
 |0,_,_,_,_=>none
 |k+1,x1,x5,x431000,x431001=>if x5<(x1.length:Int) then (if 0≤x5 then (if ((BB x1 x5).f0)<0 then (some 2) else (if ((BB x1 x5).f0)≥x431000 then (some 2) else (if ((BB x1 x5).f1)<0 then (some 2) else (if ((BB x1 x5).f1)>1000000 then (some 2) else (AW.l0 k x1 (wrap64 (x5+1)) x431000 x431001))))) else (none)) else (AW.l1 k x1 0 x431000 x431001)
def AW.l1:Nat→List (S54)→Int→Int→List (S42)→Option (Int)
 |0,_,_,_,_=>none
 |k+1,x1,x6,x431000,x431001=>if x6<(x1.length:Int) then (AW.l2 k x1 x6 0 x431000 x431001) else (AW.l3 k x1 0 x431000 x431001)
def AW.l2:Nat→List (S54)→Int→Int→Int→List (S42)→Option (Int)
 |0,_,_,_,_,_=>none
 |k+1,x1,x6,x7,x431000,x431001=>if x7<x6 then (if 0≤x6 then (if x6<(x1.length:Int) then (if 0≤x7 then (if x7<(x1.length:Int) then (if ((BB x1 x6).f0)=((BB x1 x7).f0) then (if x7<(x431001.length:Int) then (if ((BB x1 x6).f1)<(wrap64 (((BB x1 x7).f1)+((AL x431001 x7).f1))) then (if x6<(x431001.length:Int) then (if ((BB x1 x7).f1)<(wrap64 (((BB x1 x6).f1)+((AL x431001 x6).f1))) then (some 16) else (AW.l2 k x1 x6 (wrap64 (x7+1)) x431000 x431001)) else (none)) else (AW.l2 k x1 x6 (wrap64 (x7+1)) x431000 x431001)) else (none)) else (AW.l2 k x1 x6 (wrap64 (x7+1)) x431000 x431001)) else (none)) else (none)) else (none)) else (none)) else (AW.l1 k x1 (wrap64 (x6+1)) x431000 x431001)
def AW.l3:Nat→List (S54)→Int→Int→List (S42)→Option (Int)
 |0,_,_,_,_=>none
 |k+1,x1,x8,x431000,x431001=>if x8<(x1.length:Int) then (AW.l4 k x1 x8 0 x431000 x431001) else (some 0)
def AW.l4:Nat→List (S54)→Int→Int→Int→List (S42)→Option (Int)
 |0,_,_,_,_,_=>none
 |k+1,x1,x8,x9,x431000,x431001=>if 0≤x8 then (if x8<(x431001.length:Int) then (if x9<(((AL x431001 x8).f3).length:Int) then (if 0≤x9 then (if x8<(x1.length:Int) then (if 0≤(rd ((AL x431001 x8).f3) x9) then (if (rd ((AL x431001 x8).f3) x9)<(x1.length:Int) then (if (rd ((AL x431001 x8).f3) x9)<(x431001.length:Int) then (if ((BB x1 x8).f1)<(wrap64 (((BB x1 (rd ((AL x431001 x8).f3) x9)).f1)+((AL x431001 (rd ((AL x431001 x8).f3) x9)).f1))) then (some 8) else (AW.l4 k x1 x8 (wrap64 (x9+1)) x431000 x431001)) else (none)) else (none)) else (none)) else (none)) else (none)) else (AW.l3 k x1 (wrap64 (x8+1)) x431000 x431001)) else (none)) else (none)
end
def AW.f (k:Nat) (A8:Int) (l0_1:List (S42)) (l1:List (S54)):Option (Int):=(AR.f k A8 l0_1).bind fun t431=>(if t431=true then (AW.j0 k l1 ((l1.length:Int) !=(l0_1.length:Int)) A8 l0_1) else (AW.j0 k l1 true A8 l0_1))
set_option maxHeartbeats 8000000 in
theorem AW.calls (k : Nat) (A8:Int) (A0_1:Option Addr) (c0_1:Nat) (l0_1:List (S42)) (A1:Option Addr) (c1:Nat) (l1:List (S54)) (r:Int) (w:World) (hr0_1:Kd.C k42 w A0_1 l0_1.length l0_1) (hc0_1:l0_1.length≤c0_1) (hr1:Kd.C k54 w A1 l1.length l1) (hc1:l1.length≤c1) (h:AW.f k A8 l0_1 l1=some r):
  Calls Try.prog 56 #[.agg #[.int .i64 A8,.slice A0_1 l0_1.length c0_1],.slice A1 l1.length c1] w fun e w'=>e= .returned (.int .i64 r)∧Below w.heap.size w w':=by
 have hu24:=Try.underlying24
 have HR0_1:=Aside0.mk hr0_1
 have HC0_1:=Aside0.mk hc0_1
 clear hr0_1 hc0_1
 have HR1:=Aside0.mk hr1
 have HC1:=Aside0.mk hc1
 clear hr1 hc1
 have HB:=Aside0.mk (Below.refl w.heap.size w)
 have H:((AR.f k A8 l0_1).bind fun t431=>(if t431=true then (AW.j0 k l1 ((l1.length:Int) !=(l0_1.length:Int)) A8 l0_1) else (AW.j0 k l1 true A8 l0_1)))=some r:=h
 clear h
 have HC3:=Aside0.mk H
 clear H
 go_enter Try.func56,Try.ntmps56
 go_upto_region 1 with (first|((with_reducible refine Ap (N:=2) rfl ?_); (try (refine BC (by rfl) ?_; dsimp only)); refine Ar ?hg (N:=2) ?hd (cs:= #[.int .i64 A8,.slice A0_1 l0_1.length c0_1]) (t:=24) ?hr ?_; (case hd=>rfl); (case hg=>rfl); (case hr=>first|(go_simp; done)|(go_simp; rfl)); intro gb430 hg w4 hbox hb; have n0_:=Aside0.mk (AN zB hb); have n1_:=Aside0.mk (hbox); have n2_:=Aside0.mk ((by rw [hg]; exact (AQ zB):w.heap.size≤gb430)); have n3_:=Aside0.mk ((by rw [hg]; exact (AQ zB):w.heap.size≤gb430)); clear HB; have HB:=n0_; have BK430:=n1_; have GW430:=n2_; have GE430:=n3_; clear n0_ n1_ n2_ n3_; clear hb hbox hg))
 repeat (go_quiet (first|((with_reducible refine Ap (N:=2) rfl ?_); (try (refine BC (by rfl) ?_; dsimp only)); refine Ar ?hg (N:=2) ?hd (cs:= #[.int .i64 A8,.slice A0_1 l0_1.length c0_1]) (t:=24) ?hr ?_; (case hd=>rfl); (case hg=>rfl); (case hr=>first|(go_simp; done)|(go_simp; rfl)); intro gb430 hg w4 hbox hb; have n0_:=Aside0.mk (AN zB hb); have n1_:=Aside0.mk (hbox); have n2_:=Aside0.mk ((by rw [hg]; exact (AQ zB):w.heap.size≤gb430)); have n3_:=Aside0.mk ((by rw [hg]; exact (AQ zB):w.heap.size≤gb430)); clear HB; have HB:=n0_; have BK430:=n1_; have GW430:=n2_; have GE430:=n3_; clear n0_ n1_ n2_ n3_; clear hb hbox hg)); go_upto_region 1 with (first|((with_reducible refine Ap (N:=2) rfl ?_); (try (refine BC (by rfl) ?_; dsimp only)); refine Ar ?hg (N:=2) ?hd (cs:= #[.int .i64 A8,.slice A0_1 l0_1.length c0_1]) (t:=24) ?hr ?_; (case hd=>rfl); (case hg=>rfl); (case hr=>first|(go_simp; done)|(go_simp; rfl)); intro gb430 hg w4 hbox hb; have n0_:=Aside0.mk (AN zB hb); have n1_:=Aside0.mk (hbox); have n2_:=Aside0.mk ((by rw [hg]; exact (AQ zB):w.heap.size≤gb430)); have n3_:=Aside0.mk ((by rw [hg]; exact (AQ zB):w.heap.size≤gb430)); clear HB; have HB:=n0_; have BK430:=n1_; have GW430:=n2_; have GE430:=n3_; clear n0_ n1_ n2_ n3_; clear hb hbox hg)))
 (try simp only [Act.put,List.setIfInBounds_toArray,List.set_cons_zero,List.set_cons_succ])
 go_cut [21] (fun v21 wc=>∃(kq:Nat) (x21_2:Bool),v21= .bool x21_2∧Aside0 (AW.j0 kq l1 x21_2 A8 l0_1=some r)∧Aside0 (kq≤k)∧Aside0 (wc.heap[gb430]? =some (.cells #[.int .i64 A8,(.slice A0_1 l0_1.length c0_1)] 24 (0,0)))∧Aside0 (Below w.heap.size w wc))
 case first=>
  have H:=HC3.out
  clear HC3
  replace H:=Option.bind_eq_some_iff.mp H
  obtain ⟨t431,A50,H⟩:=H
  replace H:(if t431=true then (AW.j0 k l1 ((l1.length:Int) !=(l0_1.length:Int)) A8 l0_1) else (AW.j0 k l1 true A8 l0_1))=some r:=H
  have A5:=Aside0.mk A50
  clear A50
  by_cases c6:t431=true
  ·subst c6
   have H1:(AW.j0 k l1 ((l1.length:Int) !=(l0_1.length:Int)) A8 l0_1)=some r:=by rw [if_pos rfl] at H; exact H
   clear H
   have H:=H1
   clear H1
   have H':=Aside0.mk H
   clear H
   have hcz7_0:w4.cell? ⟨gb430,0,none⟩=some (.int .i64 A8):=(AK BK430.out 0).trans rfl
   have hcz7_1:w4.cell? ⟨gb430,1,none⟩=some (.slice A0_1 l0_1.length c0_1):=(AK BK430.out 1).trans rfl
   have hfz7_0:=AJ BK430.out 0
   have hfz7_1:=AJ BK430.out 1
   go_wp2_with (first|(go_at_call 36; (with_reducible refine (AR.calls k A8 _ _ l0_1 true _ ?side1 ?side2 A5.out).mono ?_); (case side1=>repeat (first|exact (Kd.C_below HR0_1.out HB.out)|(with_reducible refine Kd.C_alloc ?_ _)|(with_reducible refine Kd.C_drewN ?_ _)|(with_reducible refine Kd.C_drew ?_))); (case side2=>exact HC0_1.out); rintro e w8 ⟨rfl,hb⟩; have n0_:=Aside0.mk (AP (g:=gb430) (o:= .cells #[.int .i64 A8,.slice A0_1 l0_1.length c0_1] 24 (0,0)) zD0 hb); have n1_:=Aside0.mk (AN zB6 hb); clear BK430; clear HB; have BK430:=n0_; have HB:=n1_; clear n0_ n1_; (try clear hb); (try clear hb2); (try clear hk); (try clear hi); have hcz9_0:w8.cell? ⟨gb430,0,none⟩=some (.int .i64 A8):=(AK BK430.out 0).trans rfl; have hcz9_1:w8.cell? ⟨gb430,1,none⟩=some (.slice A0_1 l0_1.length c0_1):=(AK BK430.out 1).trans rfl; have hfz9_0:=AJ BK430.out 0; have hfz9_1:=AJ BK430.out 1))
   repeat (go_quiet (first|(go_at_call 36; (with_reducible refine (AR.calls k A8 _ _ l0_1 true _ ?side1 ?side2 A5.out).mono ?_); (case side1=>repeat (first|exact (Kd.C_below HR0_1.out HB.out)|(with_reducible refine Kd.C_alloc ?_ _)|(with_reducible refine Kd.C_drewN ?_ _)|(with_reducible refine Kd.C_drew ?_))); (case side2=>exact HC0_1.out); rintro e w8 ⟨rfl,hb⟩; have n0_:=Aside0.mk (AP (g:=gb430) (o:= .cells #[.int .i64 A8,.slice A0_1 l0_1.length c0_1] 24 (0,0)) zD0 hb); have n1_:=Aside0.mk (AN zB6 hb); clear BK430; clear HB; have BK430:=n0_; have HB:=n1_; clear n0_ n1_; (try clear hb); (try clear hb2); (try clear hk); (try clear hi); have hcz9_0:w8.cell? ⟨gb430,0,none⟩=some (.int .i64 A8):=(AK BK430.out 0).trans rfl; have hcz9_1:w8.cell? ⟨gb430,1,none⟩=some (.slice A0_1 l0_1.length c0_1):=(AK BK430.out 1).trans rfl; have hfz9_0:=AJ BK430.out 0; have hfz9_1:=AJ BK430.out 1; clear A5)); try go_wp2_with (first|(go_at_call 36; (with_reducible refine (AR.calls k A8 _ _ l0_1 true _ ?side1 ?side2 A5.out).mono ?_); (case side1=>repeat (first|exact (Kd.C_below HR0_1.out HB.out)|(with_reducible refine Kd.C_alloc ?_ _)|(with_reducible refine Kd.C_drewN ?_ _)|(with_reducible refine Kd.C_drew ?_))); (case side2=>exact HC0_1.out); rintro e w8 ⟨rfl,hb⟩; have n0_:=Aside0.mk (AP (g:=gb430) (o:= .cells #[.int .i64 A8,.slice A0_1 l0_1.length c0_1] 24 (0,0)) zD0 hb); have n1_:=Aside0.mk (AN zB6 hb); clear BK430; clear HB; have BK430:=n0_; have HB:=n1_; clear n0_ n1_; (try clear hb); (try clear hb2); (try clear hk); (try clear hi); have hcz9_0:w8.cell? ⟨gb430,0,none⟩=some (.int .i64 A8):=(AK BK430.out 0).trans rfl; have hcz9_1:w8.cell? ⟨gb430,1,none⟩=some (.slice A0_1 l0_1.length c0_1):=(AK BK430.out 1).trans rfl; have hfz9_0:=AJ BK430.out 0; have hfz9_1:=AJ BK430.out 1; clear A5)))
   go_meet
   case rel=>exact ⟨_,(((l1.length:Int) !=(l0_1.length:Int))),zF,H',⟨by first|omega|exact Nat.le_refl _⟩,⟨by (with_reducible repeat (first|refine AF ?_ _|refine AH ?_|refine AG ?_ _)); exact BK430.out⟩,⟨by repeat (first|(with_reducible first|exact HB.out|apply AE|apply AC|apply AD|refine AI ?_ GE430.out)|exact HB.out)⟩⟩
  ·replace c6:=Bool.eq_false_iff.mpr c6
   subst c6
   have H1:(AW.j0 k l1 true A8 l0_1)=some r:=by rw [if_neg (show ¬(false=true) by decide)] at H; exact H
   clear H
   have H:=H1
   clear H1
   have H':=Aside0.mk H
   clear H
   have hcz10_0:w4.cell? ⟨gb430,0,none⟩=some (.int .i64 A8):=(AK BK430.out 0).trans rfl
   have hcz10_1:w4.cell? ⟨gb430,1,none⟩=some (.slice A0_1 l0_1.length c0_1):=(AK BK430.out 1).trans rfl
   have hfz10_0:=AJ BK430.out 0
   have hfz10_1:=AJ BK430.out 1
   go_wp2_with (first|(go_at_call 36; (with_reducible refine (AR.calls k A8 _ _ l0_1 false _ ?side1 ?side2 A5.out).mono ?_); (case side1=>repeat (first|exact (Kd.C_below HR0_1.out HB.out)|(with_reducible refine Kd.C_alloc ?_ _)|(with_reducible refine Kd.C_drewN ?_ _)|(with_reducible refine Kd.C_drew ?_))); (case side2=>exact HC0_1.out); rintro e w11 ⟨rfl,hb⟩; have n0_:=Aside0.mk (AP (g:=gb430) (o:= .cells #[.int .i64 A8,.slice A0_1 l0_1.length c0_1] 24 (0,0)) zD0 hb); have n1_:=Aside0.mk (AN zB6 hb); clear BK430; clear HB; have BK430:=n0_; have HB:=n1_; clear n0_ n1_; (try clear hb); (try clear hb2); (try clear hk); (try clear hi)))
   repeat (go_quiet (first|(go_at_call 36; (with_reducible refine (AR.calls k A8 _ _ l0_1 false _ ?side1 ?side2 A5.out).mono ?_); (case side1=>repeat (first|exact (Kd.C_below HR0_1.out HB.out)|(with_reducible refine Kd.C_alloc ?_ _)|(with_reducible refine Kd.C_drewN ?_ _)|(with_reducible refine Kd.C_drew ?_))); (case side2=>exact HC0_1.out); rintro e w11 ⟨rfl,hb⟩; have n0_:=Aside0.mk (AP (g:=gb430) (o:= .cells #[.int .i64 A8,.slice A0_1 l0_1.length c0_1] 24 (0,0)) zD0 hb); have n1_:=Aside0.mk (AN zB6 hb); clear BK430; clear HB; have BK430:=n0_; have HB:=n1_; clear n0_ n1_; (try clear hb); (try clear hb2); (try clear hk); (try clear hi); clear A5)); try go_wp2_with (first|(go_at_call 36; (with_reducible refine (AR.calls k A8 _ _ l0_1 false _ ?side1 ?side2 A5.out).mono ?_); (case side1=>repeat (first|exact (Kd.C_below HR0_1.out HB.out)|(with_reducible refine Kd.C_alloc ?_ _)|(with_reducible refine Kd.C_drewN ?_ _)|(with_reducible refine Kd.C_drew ?_))); (case side2=>exact HC0_1.out); rintro e w11 ⟨rfl,hb⟩; have n0_:=Aside0.mk (AP (g:=gb430) (o:= .cells #[.int .i64 A8,.slice A0_1 l0_1.length c0_1] 24 (0,0)) zD0 hb); have n1_:=Aside0.mk (AN zB6 hb); clear BK430; clear HB; have BK430:=n0_; have HB:=n1_; clear n0_ n1_; (try clear hb); (try clear hb2); (try clear hk); (try clear hi); clear A5)))
   go_meet
   case rel=>exact ⟨_,(true),zF,H',⟨by first|omega|exact Nat.le_refl _⟩,⟨by (with_reducible repeat (first|refine AF ?_ _|refine AH ?_|refine AG ?_ _)); exact BK430.out⟩,⟨by repeat (first|(with_reducible first|exact HB.out|apply AE|apply AC|apply AD|refine AI ?_ GE430.out)|exact HB.out)⟩⟩
 case rest =>
  clear HC3
  try clear c1
  try clear p2
  try clear c5
  try clear c6
  try clear hcz10_0
  try clear hcz10_1
  try clear hcz7_0
  try clear hcz7_1
  try clear hcz9_0
  try clear hcz9_1
  try clear hfz10_0
  try clear hfz10_1
  try clear hfz7_0
  try clear hfz7_1
  try clear hfz9_0
  try clear hfz9_1
  obtain ⟨kq,x21_2,rfl,HA,HJ2,BK430,HB⟩:=hcut
  cases kq with
  |zero=>exact absurd HA.out (by simp [AW.j0])
  | succ kj2=>
   have H:=HA.out
   clear HA
   simp only [AW.j0] at H
   by_cases c12:x21_2=true
   ·subst c12
    have H1:(some 1)=some r:=by rw [if_pos rfl] at H; exact H
    clear H
    have H:=H1
    clear H1
    obtain rfl:=Option.some.inj H
    go_wp2
    repeat (go_quiet (fail); try go_wp2)
    go_ret
    exact ⟨by first|rfl|(simp [AU,AT]<;>rfl)|(simp [*,AU,AT]<;>rfl),by repeat (first|(with_reducible first|exact HB.out|apply AE|apply AC|apply AD|refine AI ?_ GE430.out)|exact HB.out)⟩
   ·replace c12 :=Bool.eq_false_iff.mpr c12
    subst c12
    have H1:(AW.l0 kj2 l1 0 A8 l0_1)=some r:=by rw [if_neg (show ¬(false=true) by decide)] at H; exact H
    clear H
    have H:=H1
    clear H1
    have H':=Aside0.mk H
    clear H
    go_wp2
    repeat (go_quiet (fail); try go_wp2)
    go_loopg [5] kj2 (fun kq v5 w'=>∃(x5_2:Int),v5= .int .i64 x5_2∧Aside0 (AW.l0 kq l1 x5_2 A8 l0_1=some r)∧Aside0 (kq≤kj2)∧Aside0 (w'.heap[gb430]? =some (.cells #[.int .i64 A8,(.slice A0_1 l0_1.length c0_1)] 24 (0,0)))∧Aside0 (Below w.heap.size w w'))
    case atStart=>exact ⟨(0),zF,H',⟨Nat.le_refl _⟩,⟨by (with_reducible repeat (first|refine AF ?_ _|refine AH ?_|refine AG ?_ _)); exact BK430.out⟩,⟨by repeat (first|(with_reducible first|exact HB.out|apply AE|apply AC|apply AD|refine AI ?_ GE430.out)|exact HB.out)⟩⟩
    case round=>
     clear H'
     try clear c1
     try clear p2
     try clear c5
     try clear c6
     try clear c12
     try clear hcz10_0
     try clear hcz10_1
     try clear hcz7_0
     try clear hcz7_1
     try clear hcz9_0
     try clear hcz9_1
     try clear hfz10_0
     try clear hfz10_1
     try clear hfz7_0
     try clear hfz7_1
     try clear hfz9_0
     try clear hfz9_1
     try clear p2
     obtain ⟨x5_2,rfl,HA,HK2,BK430,HB⟩:=hrel
     cases gk with
     |zero=>exact absurd HA.out (by simp [AW.l0])
     | succ k2 =>
      have H:=HA.out
      clear HA
      simp only [AW.l0] at H
      by_cases c13:x5_2<(l1.length:Int)
      ·rw [if_pos c13] at H
       have c13b0:decide (x5_2<(l1.length:Int))=true:=decide_eq_true c13
       clear c13
       by_cases c14:0≤x5_2
       ·rw [if_pos c14] at H
        have c14b0:decide (0≤x5_2)=true:=decide_eq_true c14
        clear c14
        by_cases c15:((BB l1 x5_2).f0)<0
        ·rw [if_pos c15] at H
         have c15b0:decide (((BB l1 x5_2).f0)<0)=true:=decide_eq_true c15
         clear c15
         obtain rfl:=Option.some.inj H
         have p432:0≤(x5_2:Int):=of_decide_eq_true zA
         have q432:x5_2<(l1.length:Int):=of_decide_eq_true zA
         obtain ⟨ad432,e432,hx432_0,hx432_1⟩:=BN HR1.out x5_2 p432 q432
         cases e432
         replace hx432_0:=(HB.out.cell (World.block_lt_of_cell? w _ hx432_0)).trans hx432_0
         replace hx432_1:=(HB.out.cell (World.block_lt_of_cell? w _ hx432_1)).trans hx432_1
         replace p432:=eq_true p432
         replace q432:=eq_true q432
         go_wp2
         repeat (go_quiet (fail); try go_wp2)
         go_ret
         exact ⟨by first|rfl|(simp [AU,AT]<;>rfl)|(simp [*,AU,AT]<;>rfl),by repeat (first|(with_reducible first|exact HB.out|apply AE|apply AC|apply AD|refine AI ?_ GE430.out)|exact HB.out)⟩
        ·rw [if_neg c15] at H
         have c15b0:decide (((BB l1 x5_2).f0)<0)=false:=decide_eq_false c15
         clear c15
         by_cases c16:((BB l1 x5_2).f0)≥A8
         ·rw [if_pos c16] at H
          have c16b0:decide (A8≤((BB l1 x5_2).f0))=true:=decide_eq_true c16
          clear c16
          obtain rfl:=Option.some.inj H
          have p432:0≤(x5_2:Int):=of_decide_eq_true zA
          have q432:x5_2<(l1.length:Int):=of_decide_eq_true zA
          obtain ⟨ad432,e432,hx432_0,hx432_1⟩:=BN HR1.out x5_2 p432 q432
          cases e432
          replace hx432_0:=(HB.out.cell (World.block_lt_of_cell? w _ hx432_0)).trans hx432_0
          replace hx432_1:=(HB.out.cell (World.block_lt_of_cell? w _ hx432_1)).trans hx432_1
          replace p432:=eq_true p432
          replace q432:=eq_true q432
          have p433:0≤(x5_2:Int):=of_decide_eq_true zA
          have q433:x5_2<(l1.length:Int):=of_decide_eq_true zA
          obtain ⟨ad433,e433,hx433_0,hx433_1⟩:=BN HR1.out x5_2 p433 q433
          obtain rfl:ad432=ad433:=(by injection e433)
          replace hx433_0:=(HB.out.cell (World.block_lt_of_cell? w _ hx433_0)).trans hx433_0
          replace hx433_1:=(HB.out.cell (World.block_lt_of_cell? w _ hx433_1)).trans hx433_1
          replace p433:=eq_true p433
          replace q433:=eq_true q433
          have hcz17_0:wr.cell? ⟨gb430,0,none⟩=some (.int .i64 A8):=(AK BK430.out 0).trans rfl
          have hcz17_1:wr.cell? ⟨gb430,1,none⟩=some (.slice A0_1 l0_1.length c0_1):=(AK BK430.out 1).trans rfl
          have hfz17_0:=AJ BK430.out 0
          have hfz17_1:=AJ BK430.out 1
          go_wp2
          repeat (go_quiet (fail); try go_wp2)
          go_ret
          exact ⟨by first|rfl|(simp [AU,AT]<;>rfl)|(simp [*,AU,AT]<;>rfl),by repeat (first|(with_reducible first|exact HB.out|apply AE|apply AC|apply AD|refine AI ?_ GE430.out)|exact HB.out)⟩
         ·rw [if_neg c16] at H
          have c16b0:decide (A8≤((BB l1 x5_2).f0))=false:=decide_eq_false c16
          clear c16
          by_cases c18:((BB l1 x5_2).f1)<0
          ·rw [if_pos c18] at H
           have c18b0:decide (((BB l1 x5_2).f1)<0)=true:=decide_eq_true c18
           clear c18
           obtain rfl:=Option.some.inj H
           have p432:0≤(x5_2:Int):=of_decide_eq_true zA
           have q432:x5_2<(l1.length:Int):=of_decide_eq_true zA
           obtain ⟨ad432,e432,hx432_0,hx432_1⟩:=BN HR1.out x5_2 p432 q432
           cases e432
           replace hx432_0:=(HB.out.cell (World.block_lt_of_cell? w _ hx432_0)).trans hx432_0
           replace hx432_1:=(HB.out.cell (World.block_lt_of_cell? w _ hx432_1)).trans hx432_1
           replace p432:=eq_true p432
           replace q432:=eq_true q432
           have p433:0≤(x5_2:Int):=of_decide_eq_true zA
           have q433:x5_2<(l1.length:Int):=of_decide_eq_true zA
           obtain ⟨ad433,e433,hx433_0,hx433_1⟩:=BN HR1.out x5_2 p433 q433
           obtain rfl:ad432=ad433:=(by injection e433)
           replace hx433_0:=(HB.out.cell (World.block_lt_of_cell? w _ hx433_0)).trans hx433_0
           replace hx433_1:=(HB.out.cell (World.block_lt_of_cell? w _ hx433_1)).trans hx433_1
           replace p433:=eq_true p433
           replace q433:=eq_true q433
           have hcz19_0:wr.cell? ⟨gb430,0,none⟩=some (.int .i64 A8):=(AK BK430.out 0).trans rfl
           have hcz19_1:wr.cell? ⟨gb430,1,none⟩=some (.slice A0_1 l0_1.length c0_1):=(AK BK430.out 1).trans rfl
           have hfz19_0:=AJ BK430.out 0
           have hfz19_1:=AJ BK430.out 1
           have p434:0≤(x5_2:Int):=of_decide_eq_true zA
           have q434:x5_2<(l1.length:Int):=of_decide_eq_true zA
           obtain ⟨ad434,e434,hx434_0,hx434_1⟩:=BN HR1.out x5_2 p434 q434
           obtain rfl:ad432=ad434:=(by injection e434)
           replace hx434_0:=(HB.out.cell (World.block_lt_of_cell? w _ hx434_0)).trans hx434_0
           replace hx434_1:=(HB.out.cell (World.block_lt_of_cell? w _ hx434_1)).trans hx434_1
           replace p434:=eq_true p434
           replace q434:=eq_true q434
           go_wp2
           repeat (go_quiet (fail); try go_wp2)
           go_ret
           exact ⟨by first|rfl|(simp [AU,AT]<;>rfl)|(simp [*,AU,AT]<;>rfl),by repeat (first|(with_reducible first|exact HB.out|apply AE|apply AC|apply AD|refine AI ?_ GE430.out)|exact HB.out)⟩
          ·rw [if_neg c18] at H
           have c18b0:decide (((BB l1 x5_2).f1)<0)=false:=decide_eq_false c18
           clear c18
           by_cases c20:((BB l1 x5_2).f1)>1000000
           ·rw [if_pos c20] at H
            have c20b0:decide (1000000<((BB l1 x5_2).f1))=true:=decide_eq_true c20
            clear c20
            obtain rfl:=Option.some.inj H
            have p432:0≤(x5_2:Int):=of_decide_eq_true zA
            have q432:x5_2<(l1.length:Int):=of_decide_eq_true zA
            obtain ⟨ad432,e432,hx432_0,hx432_1⟩:=BN HR1.out x5_2 p432 q432
            cases e432
            replace hx432_0:=(HB.out.cell (World.block_lt_of_cell? w _ hx432_0)).trans hx432_0
            replace hx432_1:=(HB.out.cell (World.block_lt_of_cell? w _ hx432_1)).trans hx432_1
            replace p432:=eq_true p432
            replace q432:=eq_true q432
            have p433:0≤(x5_2:Int):=of_decide_eq_true zA
            have q433:x5_2<(l1.length:Int):=of_decide_eq_true zA
            obtain ⟨ad433,e433,hx433_0,hx433_1⟩:=BN HR1.out x5_2 p433 q433
            obtain rfl:ad432=ad433:=(by injection e433)
            replace hx433_0:=(HB.out.cell (World.block_lt_of_cell? w _ hx433_0)).trans hx433_0
            replace hx433_1:=(HB.out.cell (World.block_lt_of_cell? w _ hx433_1)).trans hx433_1
            replace p433:=eq_true p433
            replace q433:=eq_true q433
            have hcz21_0:wr.cell? ⟨gb430,0,none⟩=some (.int .i64 A8):=(AK BK430.out 0).trans rfl
            have hcz21_1:wr.cell? ⟨gb430,1,none⟩=some (.slice A0_1 l0_1.length c0_1):=(AK BK430.out 1).trans rfl
            have hfz21_0:=AJ BK430.out 0
            have hfz21_1:=AJ BK430.out 1
            have p434:0≤(x5_2:Int):=of_decide_eq_true zA
            have q434:x5_2<(l1.length:Int):=of_decide_eq_true zA
            obtain ⟨ad434,e434,hx434_0,hx434_1⟩:=BN HR1.out x5_2 p434 q434
            obtain rfl:ad432=ad434:=(by injection e434)
            replace hx434_0:=(HB.out.cell (World.block_lt_of_cell? w _ hx434_0)).trans hx434_0
            replace hx434_1:=(HB.out.cell (World.block_lt_of_cell? w _ hx434_1)).trans hx434_1
            replace p434:=eq_true p434
            replace q434:=eq_true q434
            have p435:0≤(x5_2:Int):=of_decide_eq_true zA
            have q435:x5_2<(l1.length:Int):=of_decide_eq_true zA
            obtain ⟨ad435,e435,hx435_0,hx435_1⟩:=BN HR1.out x5_2 p435 q435
            obtain rfl:ad432=ad435:=(by injection e435)
            replace hx435_0:=(HB.out.cell (World.block_lt_of_cell? w _ hx435_0)).trans hx435_0
            replace hx435_1:=(HB.out.cell (World.block_lt_of_cell? w _ hx435_1)).trans hx435_1
            replace p435:=eq_true p435
            replace q435:=eq_true q435
            go_wp2
            repeat (go_quiet (fail); try go_wp2)
            go_ret
            exact ⟨by first|rfl|(simp [AU,AT]<;>rfl)|(simp [*,AU,AT]<;>rfl),by repeat (first|(with_reducible first|exact HB.out|apply AE|apply AC|apply AD|refine AI ?_ GE430.out)|exact HB.out)⟩
           ·rw [if_neg c20] at H
            have c20b0:decide (1000000<((BB l1 x5_2).f1))=false:=decide_eq_false c20
            clear c20
            have H':=Aside0.mk H
            clear H
            have p432:0≤(x5_2:Int):=of_decide_eq_true zA
            have q432:x5_2<(l1.length:Int):=of_decide_eq_true zA
            obtain ⟨ad432,e432,hx432_0,hx432_1⟩:=BN HR1.out x5_2 p432 q432
            cases e432
            replace hx432_0:=(HB.out.cell (World.block_lt_of_cell? w _ hx432_0)).trans hx432_0
            replace hx432_1:=(HB.out.cell (World.block_lt_of_cell? w _ hx432_1)).trans hx432_1
            replace p432:=eq_true p432
            replace q432:=eq_true q432
            have p433:0≤(x5_2:Int):=of_decide_eq_true zA
            have q433:x5_2<(l1.length:Int):=of_decide_eq_true zA
            obtain ⟨ad433,e433,hx433_0,hx433_1⟩:=BN HR1.out x5_2 p433 q433
            obtain rfl:ad432=ad433:=(by injection e433)
            replace hx433_0:=(HB.out.cell (World.block_lt_of_cell? w _ hx433_0)).trans hx433_0
            replace hx433_1:=(HB.out.cell (World.block_lt_of_cell? w _ hx433_1)).trans hx433_1
            replace p433:=eq_true p433
            replace q433:=eq_true q433
            have hcz22_0:wr.cell? ⟨gb430,0,none⟩=some (.int .i64 A8):=(AK BK430.out 0).trans rfl
            have hcz22_1:wr.cell? ⟨gb430,1,none⟩=some (.slice A0_1 l0_1.length c0_1):=(AK BK430.out 1).trans rfl
            have hfz22_0:=AJ BK430.out 0
            have hfz22_1:=AJ BK430.out 1
            have p434:0≤(x5_2:Int):=of_decide_eq_true zA
            have q434:x5_2<(l1.length:Int):=of_decide_eq_true zA
            obtain ⟨ad434,e434,hx434_0,hx434_1⟩:=BN HR1.out x5_2 p434 q434
            obtain rfl:ad432=ad434:=(by injection e434)
            replace hx434_0:=(HB.out.cell (World.block_lt_of_cell? w _ hx434_0)).trans hx434_0
            replace hx434_1:=(HB.out.cell (World.block_lt_of_cell? w _ hx434_1)).trans hx434_1
            replace p434:=eq_true p434
            replace q434:=eq_true q434
            have p435:0≤(x5_2:Int):=of_decide_eq_true zA
            have q435:x5_2<(l1.length:Int):=of_decide_eq_true zA
            obtain ⟨ad435,e435,hx435_0,hx435_1⟩:=BN HR1.out x5_2 p435 q435
            obtain rfl:ad432=ad435:=(by injection e435)
            replace hx435_0:=(HB.out.cell (World.block_lt_of_cell? w _ hx435_0)).trans hx435_0
            replace hx435_1:=(HB.out.cell (World.block_lt_of_cell? w _ hx435_1)).trans hx435_1
            replace p435:=eq_true p435
            replace q435:=eq_true q435
            go_wp2
            repeat (go_quiet (fail); try go_wp2)
            go_roundg k2
            case measure=>have:=HJ2.out; have:=HK2.out; omega
            case rel=>exact ⟨(wrap64 (x5_2+1)),zF,H',⟨by have:=HJ2.out; have:=HK2.out; omega⟩,⟨by (with_reducible repeat (first|refine AF ?_ _|refine AH ?_|refine AG ?_ _)); exact BK430.out⟩,⟨by repeat (first|(with_reducible first|exact HB.out|apply AE|apply AC|apply AD|refine AI ?_ GE430.out)|exact HB.out)⟩⟩
       ·rw [if_neg c14] at H
        exact absurd H zY
      ·rw [if_neg c13] at H
       have c13b0:decide (x5_2<(l1.length:Int))=false:=decide_eq_false c13
       clear c13
       have H':=Aside0.mk H
       clear H
       go_wp2
       repeat (go_quiet (fail); try go_wp2)
       go_loopg [6] k2 (fun kq v6 w'=>∃(x6_3:Int),v6= .int .i64 x6_3∧Aside0 (AW.l1 kq l1 x6_3 A8 l0_1=some r)∧Aside0 (kq≤k2)∧Aside0 (w'.heap[gb430]? =some (.cells #[.int .i64 A8,(.slice A0_1 l0_1.length c0_1)] 24 (0,0)))∧Aside0 (Below w.heap.size w w'))
       case atStart=>exact ⟨(0),zF,H',⟨Nat.le_refl _⟩,⟨by (with_reducible repeat (first|refine AF ?_ _|refine AH ?_|refine AG ?_ _)); exact BK430.out⟩,⟨by repeat (first|(with_reducible first|exact HB.out|apply AE|apply AC|apply AD|refine AI ?_ GE430.out)|exact HB.out)⟩⟩
       case round=>
        clear H'
        try clear c1
        try clear c2
        try clear p2
        try clear p4
        try clear q4
        try clear hx4
        try clear c5
        try clear c6
        try clear p6
        try clear c12
        try clear c13
        try clear c13b0
        try clear c14
        try clear c14b0
        try clear c15
        try clear c15b0
        try clear c16
        try clear c16b0
        try clear c18
        try clear c18b0
        try clear c20
        try clear c20b0
        try clear hcz10_0
        try clear hcz10_1
        try clear hcz17_0
        try clear hcz17_1
        try clear hcz19_0
        try clear hcz19_1
        try clear hcz21_0
        try clear hcz21_1
        try clear hcz22_0
        try clear hcz22_1
        try clear hcz7_0
        try clear hcz7_1
        try clear hcz9_0
        try clear hcz9_1
        try clear hfz10_0
        try clear hfz10_1
        try clear hfz17_0
        try clear hfz17_1
        try clear hfz19_0
        try clear hfz19_1
        try clear hfz21_0
        try clear hfz21_1
        try clear hfz22_0
        try clear hfz22_1
        try clear hfz7_0
        try clear hfz7_1
        try clear hfz9_0
        try clear hfz9_1
        try clear hx432_0
        try clear hx432_1
        try clear hx433_0
        try clear hx433_1
        try clear hx434_0
        try clear hx434_1
        try clear hx435_0
        try clear hx435_1
        try clear p2
        try clear p432
        try clear p433
        try clear p434
        try clear p435
        try clear q432
        try clear q433
        try clear q434
        try clear q435
        obtain ⟨x6_3,rfl,HA,HK3,BK430,HB⟩:=hrel
        cases gk with
        |zero=>exact absurd HA.out (by simp [AW.l1])
        | succ k3 =>
         have H:=HA.out
         clear HA
         simp only [AW.l1] at H
         by_cases c23:x6_3<(l1.length:Int)
         ·rw [if_pos c23] at H
          have c23b0:decide (x6_3<(l1.length:Int))=true:=decide_eq_true c23
          clear c23
          have H':=Aside0.mk H
          clear H
          go_wp2
          repeat (go_quiet (fail); try go_wp2)
          go_loopg [7] k3 (fun kq v7 w'=>∃(x7_4:Int),v7= .int .i64 x7_4∧Aside0 (AW.l2 kq l1 x6_3 x7_4 A8 l0_1=some r)∧Aside0 (kq≤k3)∧Aside0 (w'.heap[gb430]? =some (.cells #[.int .i64 A8,(.slice A0_1 l0_1.length c0_1)] 24 (0,0)))∧Aside0 (Below w.heap.size w w'))
          case atStart=>exact ⟨(0),zF,H',⟨Nat.le_refl _⟩,⟨by (with_reducible repeat (first|refine AF ?_ _|refine AH ?_|refine AG ?_ _)); exact BK430.out⟩,⟨by repeat (first|(with_reducible first|exact HB.out|apply AE|apply AC|apply AD|refine AI ?_ GE430.out)|exact HB.out)⟩⟩
          case round=>
           clear H'
           try clear c1
           try clear c2
           try clear p2
           try clear p4
           try clear q4
           try clear hx4
           try clear c5
           try clear c6
           try clear p6
           try clear c12
           try clear c13
           try clear c13b0
           try clear c14
           try clear c14b0
           try clear c15
           try clear c15b0
           try clear c16
           try clear c16b0
           try clear c18
           try clear c18b0
           try clear c20
           try clear c20b0
           try clear c23
           try clear c23b0
           try clear hcz10_0
           try clear hcz10_1
           try clear hcz17_0
           try clear hcz17_1
           try clear hcz19_0
           try clear hcz19_1
           try clear hcz21_0
           try clear hcz21_1
           try clear hcz22_0
           try clear hcz22_1
           try clear hcz7_0
           try clear hcz7_1
           try clear hcz9_0
           try clear hcz9_1
           try clear hfz10_0
           try clear hfz10_1
           try clear hfz17_0
           try clear hfz17_1
           try clear hfz19_0
           try clear hfz19_1
           try clear hfz21_0
           try clear hfz21_1
           try clear hfz22_0
           try clear hfz22_1
           try clear hfz7_0
           try clear hfz7_1
           try clear hfz9_0
           try clear hfz9_1
           try clear hx432_0
           try clear hx432_1
           try clear hx433_0
           try clear hx433_1
           try clear hx434_0
           try clear hx434_1
           try clear hx435_0
           try clear hx435_1
           try clear p2
           try clear p4
           try clear p432
           try clear p433
           try clear p434
           try clear p435
           try clear p6
           try clear q4
           try clear q432
           try clear q433
           try clear q434
           try clear q435
           obtain ⟨x7_4,rfl,HA,HK4,BK430,HB⟩:=hrel
           cases gk with
           |zero=>exact absurd HA.out (by simp [AW.l2])
           | succ k4 =>
            have H:=HA.out
            clear HA
            simp only [AW.l2] at H
            by_cases c24:x7_4<x6_3
            ·rw [if_pos c24] at H
             have c24b0:decide (x7_4<x6_3)=true:=decide_eq_true c24
             clear c24
             by_cases c25:0≤x6_3
             ·rw [if_pos c25] at H
              have c25b0:decide (0≤x6_3)=true:=decide_eq_true c25
              clear c25
              by_cases c26:x6_3<(l1.length:Int)
              ·rw [if_pos c26] at H
               have c26b0:decide (x6_3<(l1.length:Int))=true:=decide_eq_true c26
               clear c26
               by_cases c27:0≤x7_4
               ·rw [if_pos c27] at H
                have c27b0:decide (0≤x7_4)=true:=decide_eq_true c27
                clear c27
                by_cases c28:x7_4<(l1.length:Int)
                ·rw [if_pos c28] at H
                 have c28b0:decide (x7_4<(l1.length:Int))=true:=decide_eq_true c28
                 clear c28
                 by_cases c29:((BB l1 x6_3).f0)=((BB l1 x7_4).f0)
                 ·rw [if_pos c29] at H
                  have c29b0:(((BB l1 x6_3).f0)==((BB l1 x7_4).f0))=true:=beq_iff_eq.mpr c29
                  have c29b1:(((BB l1 x6_3).f0) !=((BB l1 x7_4).f0))=false:=bne_eq_false_iff_eq.mpr c29
                  clear c29
                  by_cases c30:x7_4<(l0_1.length:Int)
                  ·rw [if_pos c30] at H
                   have c30b0:decide (x7_4<(l0_1.length:Int))=true:=decide_eq_true c30
                   clear c30
                   by_cases c31:((BB l1 x6_3).f1)<(wrap64 (((BB l1 x7_4).f1)+((AL l0_1 x7_4).f1)))
                   ·rw [if_pos c31] at H
                    have c31b0:decide (((BB l1 x6_3).f1)<(wrap64 (((BB l1 x7_4).f1)+((AL l0_1 x7_4).f1))))=true:=decide_eq_true c31
                    clear c31
                    by_cases c32:x6_3<(l0_1.length:Int)
                    ·rw [if_pos c32] at H
                     have c32b0:decide (x6_3<(l0_1.length:Int))=true:=decide_eq_true c32
                     clear c32
                     by_cases c33:((BB l1 x7_4).f1)<(wrap64 (((BB l1 x6_3).f1)+((AL l0_1 x6_3).f1)))
                     ·rw [if_pos c33] at H
                      have c33b0:decide (((BB l1 x7_4).f1)<(wrap64 (((BB l1 x6_3).f1)+((AL l0_1 x6_3).f1))))=true:=decide_eq_true c33
                      clear c33
                      obtain rfl:=Option.some.inj H
                      have p436:0≤(x6_3:Int):=of_decide_eq_true zA
                      have q436:x6_3<(l1.length:Int):=of_decide_eq_true zA
                      obtain ⟨ad436,e436,hx436_0,hx436_1⟩:=BN HR1.out x6_3 p436 q436
                      cases e436
                      replace hx436_0:=(HB.out.cell (World.block_lt_of_cell? w _ hx436_0)).trans hx436_0
                      replace hx436_1:=(HB.out.cell (World.block_lt_of_cell? w _ hx436_1)).trans hx436_1
                      replace p436:=eq_true p436
                      replace q436:=eq_true q436
                      have p437:0≤(x7_4:Int):=of_decide_eq_true zA
                      have q437:x7_4<(l1.length:Int):=of_decide_eq_true zA
                      obtain ⟨ad437,e437,hx437_0,hx437_1⟩:=BN HR1.out x7_4 p437 q437
                      obtain rfl:ad436=ad437:=(by injection e437)
                      replace hx437_0:=(HB.out.cell (World.block_lt_of_cell? w _ hx437_0)).trans hx437_0
                      replace hx437_1:=(HB.out.cell (World.block_lt_of_cell? w _ hx437_1)).trans hx437_1
                      replace p437:=eq_true p437
                      replace q437:=eq_true q437
                      have p438:0≤(x6_3:Int):=of_decide_eq_true zA
                      have q438:x6_3<(l1.length:Int):=of_decide_eq_true zA
                      obtain ⟨ad438,e438,hx438_0,hx438_1⟩:=BN HR1.out x6_3 p438 q438
                      obtain rfl:ad436=ad438:=(by injection e438)
                      replace hx438_0:=(HB.out.cell (World.block_lt_of_cell? w _ hx438_0)).trans hx438_0
                      replace hx438_1:=(HB.out.cell (World.block_lt_of_cell? w _ hx438_1)).trans hx438_1
                      replace p438:=eq_true p438
                      replace q438:=eq_true q438
                      have p439:0≤(x7_4:Int):=of_decide_eq_true zA
                      have q439:x7_4<(l1.length:Int):=of_decide_eq_true zA
                      obtain ⟨ad439,e439,hx439_0,hx439_1⟩:=BN HR1.out x7_4 p439 q439
                      obtain rfl:ad436=ad439:=(by injection e439)
                      replace hx439_0:=(HB.out.cell (World.block_lt_of_cell? w _ hx439_0)).trans hx439_0
                      replace hx439_1:=(HB.out.cell (World.block_lt_of_cell? w _ hx439_1)).trans hx439_1
                      replace p439:=eq_true p439
                      replace q439:=eq_true q439
                      have hcz34_0:wr.cell? ⟨gb430,0,none⟩=some (.int .i64 A8):=(AK BK430.out 0).trans rfl
                      have hcz34_1:wr.cell? ⟨gb430,1,none⟩=some (.slice A0_1 l0_1.length c0_1):=(AK BK430.out 1).trans rfl
                      have hfz34_0:=AJ BK430.out 0
                      have hfz34_1:=AJ BK430.out 1
                      have p440:0≤(x7_4:Int):=of_decide_eq_true zA
                      have q440:x7_4<(l0_1.length:Int):=of_decide_eq_true zA
                      obtain ⟨ad440,A440_3,c440_3,e440,hx440_0,hx440_1,hx440_2,hx440_3,hl440_3,hi440_3⟩:=BR HR0_1.out x7_4 p440 q440
                      cases e440
                      replace hx440_0:=(HB.out.cell (World.block_lt_of_cell? w _ hx440_0)).trans hx440_0
                      replace hx440_1:=(HB.out.cell (World.block_lt_of_cell? w _ hx440_1)).trans hx440_1
                      replace hx440_2:=(HB.out.cell (World.block_lt_of_cell? w _ hx440_2)).trans hx440_2
                      replace hx440_3:=(HB.out.cell (World.block_lt_of_cell? w _ hx440_3)).trans hx440_3
                      have HR440_3:=Aside0.mk hi440_3
                      have HC440_3:=Aside0.mk hl440_3
                      clear hi440_3 hl440_3
                      replace p440:=eq_true p440
                      replace q440:=eq_true q440
                      have p441:0≤(x7_4:Int):=of_decide_eq_true zA
                      have q441:x7_4<(l1.length:Int):=of_decide_eq_true zA
                      obtain ⟨ad441,e441,hx441_0,hx441_1⟩:=BN HR1.out x7_4 p441 q441
                      obtain rfl:ad436=ad441:=(by injection e441)
                      replace hx441_0:=(HB.out.cell (World.block_lt_of_cell? w _ hx441_0)).trans hx441_0
                      replace hx441_1:=(HB.out.cell (World.block_lt_of_cell? w _ hx441_1)).trans hx441_1
                      replace p441:=eq_true p441
                      replace q441:=eq_true q441
                      have p442:0≤(x6_3:Int):=of_decide_eq_true zA
                      have q442:x6_3<(l1.length:Int):=of_decide_eq_true zA
                      obtain ⟨ad442,e442,hx442_0,hx442_1⟩:=BN HR1.out x6_3 p442 q442
                      obtain rfl:ad436=ad442:=(by injection e442)
                      replace hx442_0:=(HB.out.cell (World.block_lt_of_cell? w _ hx442_0)).trans hx442_0
                      replace hx442_1:=(HB.out.cell (World.block_lt_of_cell? w _ hx442_1)).trans hx442_1
                      replace p442:=eq_true p442
                      replace q442:=eq_true q442
                      have p443:0≤(x6_3:Int):=of_decide_eq_true zA
                      have q443:x6_3<(l0_1.length:Int):=of_decide_eq_true zA
                      obtain ⟨ad443,A443_3,c443_3,e443,hx443_0,hx443_1,hx443_2,hx443_3,hl443_3,hi443_3⟩:=BR HR0_1.out x6_3 p443 q443
                      obtain rfl:ad440=ad443:=(by injection e443)
                      replace hx443_0:=(HB.out.cell (World.block_lt_of_cell? w _ hx443_0)).trans hx443_0
                      replace hx443_1:=(HB.out.cell (World.block_lt_of_cell? w _ hx443_1)).trans hx443_1
                      replace hx443_2:=(HB.out.cell (World.block_lt_of_cell? w _ hx443_2)).trans hx443_2
                      replace hx443_3:=(HB.out.cell (World.block_lt_of_cell? w _ hx443_3)).trans hx443_3
                      have HR443_3:=Aside0.mk hi443_3
                      have HC443_3:=Aside0.mk hl443_3
                      clear hi443_3 hl443_3
                      replace p443:=eq_true p443
                      replace q443:=eq_true q443
                      go_wp2
                      repeat (go_quiet (fail); try go_wp2)
                      go_ret
                      exact ⟨by first|rfl|(simp [AU,AT]<;>rfl)|(simp [*,AU,AT]<;>rfl),by repeat (first|(with_reducible first|exact HB.out|apply AE|apply AC|apply AD|refine AI ?_ GE430.out)|exact HB.out)⟩
                     ·rw [if_neg c33] at H
                      have c33b0:decide (((BB l1 x7_4).f1)<(wrap64 (((BB l1 x6_3).f1)+((AL l0_1 x6_3).f1))))=false:=decide_eq_false c33
                      clear c33
                      have H':=Aside0.mk H
                      clear H
                      have p436:0≤(x6_3:Int):=of_decide_eq_true zA
                      have q436:x6_3<(l1.length:Int):=of_decide_eq_true zA
                      obtain ⟨ad436,e436,hx436_0,hx436_1⟩:=BN HR1.out x6_3 p436 q436
                      cases e436
                      replace hx436_0:=(HB.out.cell (World.block_lt_of_cell? w _ hx436_0)).trans hx436_0
                      replace hx436_1:=(HB.out.cell (World.block_lt_of_cell? w _ hx436_1)).trans hx436_1
                      replace p436:=eq_true p436
                      replace q436:=eq_true q436
                      have p437:0≤(x7_4:Int):=of_decide_eq_true zA
                      have q437:x7_4<(l1.length:Int):=of_decide_eq_true zA
                      obtain ⟨ad437,e437,hx437_0,hx437_1⟩:=BN HR1.out x7_4 p437 q437
                      obtain rfl:ad436=ad437:=(by injection e437)
                      replace hx437_0:=(HB.out.cell (World.block_lt_of_cell? w _ hx437_0)).trans hx437_0
                      replace hx437_1:=(HB.out.cell (World.block_lt_of_cell? w _ hx437_1)).trans hx437_1
                      replace p437:=eq_true p437
                      replace q437:=eq_true q437
                      have p438:0≤(x6_3:Int):=of_decide_eq_true zA
                      have q438:x6_3<(l1.length:Int):=of_decide_eq_true zA
                      obtain ⟨ad438,e438,hx438_0,hx438_1⟩:=BN HR1.out x6_3 p438 q438
                      obtain rfl:ad436=ad438:=(by injection e438)
                      replace hx438_0:=(HB.out.cell (World.block_lt_of_cell? w _ hx438_0)).trans hx438_0
                      replace hx438_1:=(HB.out.cell (World.block_lt_of_cell? w _ hx438_1)).trans hx438_1
                      replace p438:=eq_true p438
                      replace q438:=eq_true q438
                      have p439:0≤(x7_4:Int):=of_decide_eq_true zA
                      have q439:x7_4<(l1.length:Int):=of_decide_eq_true zA
                      obtain ⟨ad439,e439,hx439_0,hx439_1⟩:=BN HR1.out x7_4 p439 q439
                      obtain rfl:ad436=ad439:=(by injection e439)
                      replace hx439_0:=(HB.out.cell (World.block_lt_of_cell? w _ hx439_0)).trans hx439_0
                      replace hx439_1:=(HB.out.cell (World.block_lt_of_cell? w _ hx439_1)).trans hx439_1
                      replace p439:=eq_true p439
                      replace q439:=eq_true q439
                      have hcz35_0:wr.cell? ⟨gb430,0,none⟩=some (.int .i64 A8):=(AK BK430.out 0).trans rfl
                      have hcz35_1:wr.cell? ⟨gb430,1,none⟩=some (.slice A0_1 l0_1.length c0_1):=(AK BK430.out 1).trans rfl
                      have hfz35_0:=AJ BK430.out 0
                      have hfz35_1:=AJ BK430.out 1
                      have p440:0≤(x7_4:Int):=of_decide_eq_true zA
                      have q440:x7_4<(l0_1.length:Int):=of_decide_eq_true zA
                      obtain ⟨ad440,A440_3,c440_3,e440,hx440_0,hx440_1,hx440_2,hx440_3,hl440_3,hi440_3⟩:=BR HR0_1.out x7_4 p440 q440
                      cases e440
                      replace hx440_0:=(HB.out.cell (World.block_lt_of_cell? w _ hx440_0)).trans hx440_0
                      replace hx440_1:=(HB.out.cell (World.block_lt_of_cell? w _ hx440_1)).trans hx440_1
                      replace hx440_2:=(HB.out.cell (World.block_lt_of_cell? w _ hx440_2)).trans hx440_2
                      replace hx440_3:=(HB.out.cell (World.block_lt_of_cell? w _ hx440_3)).trans hx440_3
                      have HR440_3:=Aside0.mk hi440_3
                      have HC440_3:=Aside0.mk hl440_3
                      clear hi440_3 hl440_3
                      replace p440:=eq_true p440
                      replace q440:=eq_true q440
                      have p441:0≤(x7_4:Int):=of_decide_eq_true zA
                      have q441:x7_4<(l1.length:Int):=of_decide_eq_true zA
                      obtain ⟨ad441,e441,hx441_0,hx441_1⟩:=BN HR1.out x7_4 p441 q441
                      obtain rfl:ad436=ad441:=(by injection e441)
                      replace hx441_0:=(HB.out.cell (World.block_lt_of_cell? w _ hx441_0)).trans hx441_0
                      replace hx441_1:=(HB.out.cell (World.block_lt_of_cell? w _ hx441_1)).trans hx441_1
                      replace p441:=eq_true p441
                      replace q441:=eq_true q441
                      have p442:0≤(x6_3:Int):=of_decide_eq_true zA
                      have q442:x6_3<(l1.length:Int):=of_decide_eq_true zA
                      obtain ⟨ad442,e442,hx442_0,hx442_1⟩:=BN HR1.out x6_3 p442 q442
                      obtain rfl:ad436=ad442:=(by injection e442)
                      replace hx442_0:=(HB.out.cell (World.block_lt_of_cell? w _ hx442_0)).trans hx442_0
                      replace hx442_1:=(HB.out.cell (World.block_lt_of_cell? w _ hx442_1)).trans hx442_1
                      replace p442:=eq_true p442
                      replace q442:=eq_true q442
                      have p443:0≤(x6_3:Int):=of_decide_eq_true zA
                      have q443:x6_3<(l0_1.length:Int):=of_decide_eq_true zA
                      obtain ⟨ad443,A443_3,c443_3,e443,hx443_0,hx443_1,hx443_2,hx443_3,hl443_3,hi443_3⟩:=BR HR0_1.out x6_3 p443 q443
                      obtain rfl:ad440=ad443:=(by injection e443)
                      replace hx443_0:=(HB.out.cell (World.block_lt_of_cell? w _ hx443_0)).trans hx443_0
                      replace hx443_1:=(HB.out.cell (World.block_lt_of_cell? w _ hx443_1)).trans hx443_1
                      replace hx443_2:=(HB.out.cell (World.block_lt_of_cell? w _ hx443_2)).trans hx443_2
                      replace hx443_3:=(HB.out.cell (World.block_lt_of_cell? w _ hx443_3)).trans hx443_3
                      have HR443_3:=Aside0.mk hi443_3
                      have HC443_3:=Aside0.mk hl443_3
                      clear hi443_3 hl443_3
                      replace p443:=eq_true p443
                      replace q443:=eq_true q443
                      go_wp2
                      repeat (go_quiet (fail); try go_wp2)
                      go_roundg k4
                      case measure=>have:=HJ2.out; have:=HK2.out; have:=HK3.out; have:=HK4.out; omega
                      case rel=>exact ⟨(wrap64 (x7_4+1)),zF,H',⟨by have:=HJ2.out; have:=HK2.out; have:=HK3.out; have:=HK4.out; omega⟩,⟨by (with_reducible repeat (first|refine AF ?_ _|refine AH ?_|refine AG ?_ _)); exact BK430.out⟩,⟨by repeat (first|(with_reducible first|exact HB.out|apply AE|apply AC|apply AD|refine AI ?_ GE430.out)|exact HB.out)⟩⟩
                    ·rw [if_neg c32] at H
                     exact absurd H zY
                   ·rw [if_neg c31] at H
                    have c31b0:decide (((BB l1 x6_3).f1)<(wrap64 (((BB l1 x7_4).f1)+((AL l0_1 x7_4).f1))))=false:=decide_eq_false c31
                    clear c31
                    have H':=Aside0.mk H
                    clear H
                    have p436:0≤(x6_3:Int):=of_decide_eq_true zA
                    have q436:x6_3<(l1.length:Int):=of_decide_eq_true zA
                    obtain ⟨ad436,e436,hx436_0,hx436_1⟩:=BN HR1.out x6_3 p436 q436
                    cases e436
                    replace hx436_0:=(HB.out.cell (World.block_lt_of_cell? w _ hx436_0)).trans hx436_0
                    replace hx436_1:=(HB.out.cell (World.block_lt_of_cell? w _ hx436_1)).trans hx436_1
                    replace p436:=eq_true p436
                    replace q436:=eq_true q436
                    have p437:0≤(x7_4:Int):=of_decide_eq_true zA
                    have q437:x7_4<(l1.length:Int):=of_decide_eq_true zA
                    obtain ⟨ad437,e437,hx437_0,hx437_1⟩:=BN HR1.out x7_4 p437 q437
                    obtain rfl:ad436=ad437:=(by injection e437)
                    replace hx437_0:=(HB.out.cell (World.block_lt_of_cell? w _ hx437_0)).trans hx437_0
                    replace hx437_1:=(HB.out.cell (World.block_lt_of_cell? w _ hx437_1)).trans hx437_1
                    replace p437:=eq_true p437
                    replace q437:=eq_true q437
                    have p438:0≤(x6_3:Int):=of_decide_eq_true zA
                    have q438:x6_3<(l1.length:Int):=of_decide_eq_true zA
                    obtain ⟨ad438,e438,hx438_0,hx438_1⟩:=BN HR1.out x6_3 p438 q438
                    obtain rfl:ad436=ad438:=(by injection e438)
                    replace hx438_0:=(HB.out.cell (World.block_lt_of_cell? w _ hx438_0)).trans hx438_0
                    replace hx438_1:=(HB.out.cell (World.block_lt_of_cell? w _ hx438_1)).trans hx438_1
                    replace p438:=eq_true p438
                    replace q438:=eq_true q438
                    have p439:0≤(x7_4:Int):=of_decide_eq_true zA
                    have q439:x7_4<(l1.length:Int):=of_decide_eq_true zA
                    obtain ⟨ad439,e439,hx439_0,hx439_1⟩:=BN HR1.out x7_4 p439 q439
                    obtain rfl:ad436=ad439:=(by injection e439)
                    replace hx439_0:=(HB.out.cell (World.block_lt_of_cell? w _ hx439_0)).trans hx439_0
                    replace hx439_1:=(HB.out.cell (World.block_lt_of_cell? w _ hx439_1)).trans hx439_1
                    replace p439:=eq_true p439
                    replace q439:=eq_true q439
                    have hcz36_0:wr.cell? ⟨gb430,0,none⟩=some (.int .i64 A8):=(AK BK430.out 0).trans rfl
                    have hcz36_1:wr.cell? ⟨gb430,1,none⟩=some (.slice A0_1 l0_1.length c0_1):=(AK BK430.out 1).trans rfl
                    have hfz36_0:=AJ BK430.out 0
                    have hfz36_1:=AJ BK430.out 1
                    have p440:0≤(x7_4:Int):=of_decide_eq_true zA
                    have q440:x7_4<(l0_1.length:Int):=of_decide_eq_true zA
                    obtain ⟨ad440,A440_3,c440_3,e440,hx440_0,hx440_1,hx440_2,hx440_3,hl440_3,hi440_3⟩:=BR HR0_1.out x7_4 p440 q440
                    cases e440
                    replace hx440_0:=(HB.out.cell (World.block_lt_of_cell? w _ hx440_0)).trans hx440_0
                    replace hx440_1:=(HB.out.cell (World.block_lt_of_cell? w _ hx440_1)).trans hx440_1
                    replace hx440_2:=(HB.out.cell (World.block_lt_of_cell? w _ hx440_2)).trans hx440_2
                    replace hx440_3:=(HB.out.cell (World.block_lt_of_cell? w _ hx440_3)).trans hx440_3
                    have HR440_3:=Aside0.mk hi440_3
                    have HC440_3:=Aside0.mk hl440_3
                    clear hi440_3 hl440_3
                    replace p440:=eq_true p440
                    replace q440:=eq_true q440
                    go_wp2
                    repeat (go_quiet (fail); try go_wp2)
                    go_roundg k4
                    case measure=>have:=HJ2.out; have:=HK2.out; have:=HK3.out; have:=HK4.out; omega
                    case rel=>exact ⟨(wrap64 (x7_4+1)),zF,H',⟨by have:=HJ2.out; have:=HK2.out; have:=HK3.out; have:=HK4.out; omega⟩,⟨by (with_reducible repeat (first|refine AF ?_ _|refine AH ?_|refine AG ?_ _)); exact BK430.out⟩,⟨by repeat (first|(with_reducible first|exact HB.out|apply AE|apply AC|apply AD|refine AI ?_ GE430.out)|exact HB.out)⟩⟩
                  ·rw [if_neg c30] at H
                   exact absurd H zY
                 ·rw [if_neg c29] at H
                  have c29b0:(((BB l1 x6_3).f0)==((BB l1 x7_4).f0))=false:=beq_eq_false_iff_ne.mpr c29
                  have c29b1:(((BB l1 x6_3).f0) !=((BB l1 x7_4).f0))=true:=bne_iff_ne.mpr c29
                  have H':=Aside0.mk H
                  clear H
                  have p436:0≤(x6_3:Int):=of_decide_eq_true zA
                  have q436:x6_3<(l1.length:Int):=of_decide_eq_true zA
                  obtain ⟨ad436,e436,hx436_0,hx436_1⟩:=BN HR1.out x6_3 p436 q436
                  cases e436
                  replace hx436_0:=(HB.out.cell (World.block_lt_of_cell? w _ hx436_0)).trans hx436_0
                  replace hx436_1:=(HB.out.cell (World.block_lt_of_cell? w _ hx436_1)).trans hx436_1
                  replace p436:=eq_true p436
                  replace q436:=eq_true q436
                  have p437:0≤(x7_4:Int):=of_decide_eq_true zA
                  have q437:x7_4<(l1.length:Int):=of_decide_eq_true zA
                  obtain ⟨ad437,e437,hx437_0,hx437_1⟩:=BN HR1.out x7_4 p437 q437
                  obtain rfl:ad436=ad437:=(by injection e437)
                  replace hx437_0:=(HB.out.cell (World.block_lt_of_cell? w _ hx437_0)).trans hx437_0
                  replace hx437_1:=(HB.out.cell (World.block_lt_of_cell? w _ hx437_1)).trans hx437_1
                  replace p437:=eq_true p437
                  replace q437:=eq_true q437
                  go_wp2
                  repeat (go_quiet (fail); try go_wp2)
                  go_roundg k4
                  case measure=>have:=HJ2.out; have:=HK2.out; have:=HK3.out; have:=HK4.out; omega
                  case rel=>exact ⟨(wrap64 (x7_4+1)),zF,H',⟨by have:=HJ2.out; have:=HK2.out; have:=HK3.out; have:=HK4.out; omega⟩,⟨by (with_reducible repeat (first|refine AF ?_ _|refine AH ?_|refine AG ?_ _)); exact BK430.out⟩,⟨by repeat (first|(with_reducible first|exact HB.out|apply AE|apply AC|apply AD|refine AI ?_ GE430.out)|exact HB.out)⟩⟩
                ·rw [if_neg c28] at H
                 exact absurd H zY
               ·rw [if_neg c27] at H
                exact absurd H zY
              ·rw [if_neg c26] at H
               exact absurd H zY
             ·rw [if_neg c25] at H
              exact absurd H zY
            ·rw [if_neg c24] at H
             have c24b0:decide (x7_4<x6_3)=false:=decide_eq_false c24
             clear c24
             have H':=Aside0.mk H
             clear H
             go_wp2
             repeat (go_quiet (fail); try go_wp2)
             go_roundg k4
             case measure=>have:=HJ2.out; have:=HK2.out; have:=HK3.out; have:=HK4.out; omega
             case rel=>exact ⟨(wrap64 (x6_3+1)),zF,H',⟨by have:=HJ2.out; have:=HK2.out; have:=HK3.out; have:=HK4.out; omega⟩,⟨by (with_reducible repeat (first|refine AF ?_ _|refine AH ?_|refine AG ?_ _)); exact BK430.out⟩,⟨by repeat (first|(with_reducible first|exact HB.out|apply AE|apply AC|apply AD|refine AI ?_ GE430.out)|exact HB.out)⟩⟩
         ·rw [if_neg c23] at H
          have c23b0:decide (x6_3<(l1.length:Int))=false:=decide_eq_false c23
          clear c23
          have H':=Aside0.mk H
          clear H
          go_wp2
          repeat (go_quiet (fail); try go_wp2)
          go_loopg [8] k3 (fun kq v8 w'=>∃(x8_4:Int),v8= .int .i64 x8_4∧Aside0 (AW.l3 kq l1 x8_4 A8 l0_1=some r)∧Aside0 (kq≤k3)∧Aside0 (w'.heap[gb430]? =some (.cells #[.int .i64 A8,(.slice A0_1 l0_1.length c0_1)] 24 (0,0)))∧Aside0 (Below w.heap.size w w'))
          case atStart=>exact ⟨(0),zF,H',⟨Nat.le_refl _⟩,⟨by (with_reducible repeat (first|refine AF ?_ _|refine AH ?_|refine AG ?_ _)); exact BK430.out⟩,⟨by repeat (first|(with_reducible first|exact HB.out|apply AE|apply AC|apply AD|refine AI ?_ GE430.out)|exact HB.out)⟩⟩
          case round=>
           clear H'
           try clear c1
           try clear c2
           try clear p2
           try clear c3
           try clear c4
           try clear p4
           try clear q4
           try clear hx4
           try clear c5
           try clear c6
           try clear p6
           try clear c12
           try clear c13
           try clear c13b0
           try clear c14
           try clear c14b0
           try clear c15
           try clear c15b0
           try clear c16
           try clear c16b0
           try clear c18
           try clear c18b0
           try clear c20
           try clear c20b0
           try clear c23
           try clear c23b0
           try clear c24
           try clear c24b0
           try clear c25
           try clear c25b0
           try clear c26
           try clear c26b0
           try clear c27
           try clear c27b0
           try clear c28
           try clear c28b0
           try clear c29
           try clear c29b0
           try clear c29b1
           try clear c30
           try clear c30b0
           try clear c31
           try clear c31b0
           try clear c32
           try clear c32b0
           try clear c33
           try clear c33b0
           try clear hcz10_0
           try clear hcz10_1
           try clear hcz17_0
           try clear hcz17_1
           try clear hcz19_0
           try clear hcz19_1
           try clear hcz21_0
           try clear hcz21_1
           try clear hcz22_0
           try clear hcz22_1
           try clear hcz34_0
           try clear hcz34_1
           try clear hcz35_0
           try clear hcz35_1
           try clear hcz36_0
           try clear hcz36_1
           try clear hcz7_0
           try clear hcz7_1
           try clear hcz9_0
           try clear hcz9_1
           try clear hfz10_0
           try clear hfz10_1
           try clear hfz17_0
           try clear hfz17_1
           try clear hfz19_0
           try clear hfz19_1
           try clear hfz21_0
           try clear hfz21_1
           try clear hfz22_0
           try clear hfz22_1
           try clear hfz34_0
           try clear hfz34_1
           try clear hfz35_0
           try clear hfz35_1
           try clear hfz36_0
           try clear hfz36_1
           try clear hfz7_0
           try clear hfz7_1
           try clear hfz9_0
           try clear hfz9_1
           try clear hx432_0
           try clear hx432_1
           try clear hx433_0
           try clear hx433_1
           try clear hx434_0
           try clear hx434_1
           try clear hx435_0
           try clear hx435_1
           try clear hx436_0
           try clear hx436_1
           try clear hx437_0
           try clear hx437_1
           try clear hx438_0
           try clear hx438_1
           try clear hx439_0
           try clear hx439_1
           try clear hx440_0
           try clear hx440_1
           try clear hx440_2
           try clear hx440_3
           try clear hx441_0
           try clear hx441_1
           try clear hx442_0
           try clear hx442_1
           try clear hx443_0
           try clear hx443_1
           try clear hx443_2
           try clear hx443_3
           try clear p2
           try clear p4
           try clear p432
           try clear p433
           try clear p434
           try clear p435
           try clear p436
           try clear p437
           try clear p438
           try clear p439
           try clear p440
           try clear p441
           try clear p442
           try clear p443
           try clear p6
           try clear q4
           try clear q432
           try clear q433
           try clear q434
           try clear q435
           try clear q436
           try clear q437
           try clear q438
           try clear q439
           try clear q440
           try clear q441
           try clear q442
           try clear q443
           obtain ⟨x8_4,rfl,HA,HK4,BK430,HB⟩:=hrel
           cases gk with
           |zero=>exact absurd HA.out (by simp [AW.l3])
           | succ k4 =>
            have H:=HA.out
            clear HA
            simp only [AW.l3] at H
            by_cases c37:x8_4<(l1.length:Int)
            ·rw [if_pos c37] at H
             have c37b0:decide (x8_4<(l1.length:Int))=true:=decide_eq_true c37
             clear c37
             have H':=Aside0.mk H
             clear H
             go_wp2
             repeat (go_quiet (fail); try go_wp2)
             go_loopg [9] k4 (fun kq v9 w'=>∃(x9_5:Int),v9= .int .i64 x9_5∧Aside0 (AW.l4 kq l1 x8_4 x9_5 A8 l0_1=some r)∧Aside0 (kq≤k4)∧Aside0 (w'.heap[gb430]? =some (.cells #[.int .i64 A8,(.slice A0_1 l0_1.length c0_1)] 24 (0,0)))∧Aside0 (Below w.heap.size w w'))
             case atStart=>exact ⟨(0),zF,H',⟨Nat.le_refl _⟩,⟨by (with_reducible repeat (first|refine AF ?_ _|refine AH ?_|refine AG ?_ _)); exact BK430.out⟩,⟨by repeat (first|(with_reducible first|exact HB.out|apply AE|apply AC|apply AD|refine AI ?_ GE430.out)|exact HB.out)⟩⟩
             case round=>
              clear H'
              try clear c1
              try clear c2
              try clear p2
              try clear c3
              try clear c4
              try clear p4
              try clear q4
              try clear hx4
              try clear c5
              try clear c6
              try clear p6
              try clear c12
              try clear c13
              try clear c13b0
              try clear c14
              try clear c14b0
              try clear c15
              try clear c15b0
              try clear c16
              try clear c16b0
              try clear c18
              try clear c18b0
              try clear c20
              try clear c20b0
              try clear c23
              try clear c23b0
              try clear c24
              try clear c24b0
              try clear c25
              try clear c25b0
              try clear c26
              try clear c26b0
              try clear c27
              try clear c27b0
              try clear c28
              try clear c28b0
              try clear c29
              try clear c29b0
              try clear c29b1
              try clear c30
              try clear c30b0
              try clear c31
              try clear c31b0
              try clear c32
              try clear c32b0
              try clear c33
              try clear c33b0
              try clear c37
              try clear c37b0
              try clear hcz10_0
              try clear hcz10_1
              try clear hcz17_0
              try clear hcz17_1
              try clear hcz19_0
              try clear hcz19_1
              try clear hcz21_0
              try clear hcz21_1
              try clear hcz22_0
              try clear hcz22_1
              try clear hcz34_0
              try clear hcz34_1
              try clear hcz35_0
              try clear hcz35_1
              try clear hcz36_0
              try clear hcz36_1
              try clear hcz7_0
              try clear hcz7_1
              try clear hcz9_0
              try clear hcz9_1
              try clear hfz10_0
              try clear hfz10_1
              try clear hfz17_0
              try clear hfz17_1
              try clear hfz19_0
              try clear hfz19_1
              try clear hfz21_0
              try clear hfz21_1
              try clear hfz22_0
              try clear hfz22_1
              try clear hfz34_0
              try clear hfz34_1
              try clear hfz35_0
              try clear hfz35_1
              try clear hfz36_0
              try clear hfz36_1
              try clear hfz7_0
              try clear hfz7_1
              try clear hfz9_0
              try clear hfz9_1
              try clear hx432_0
              try clear hx432_1
              try clear hx433_0
              try clear hx433_1
              try clear hx434_0
              try clear hx434_1
              try clear hx435_0
              try clear hx435_1
              try clear hx436_0
              try clear hx436_1
              try clear hx437_0
              try clear hx437_1
              try clear hx438_0
              try clear hx438_1
              try clear hx439_0
              try clear hx439_1
              try clear hx440_0
              try clear hx440_1
              try clear hx440_2
              try clear hx440_3
              try clear hx441_0
              try clear hx441_1
              try clear hx442_0
              try clear hx442_1
              try clear hx443_0
              try clear hx443_1
              try clear hx443_2
              try clear hx443_3
              try clear p2
              try clear p4
              try clear p432
              try clear p433
              try clear p434
              try clear p435
              try clear p436
              try clear p437
              try clear p438
              try clear p439
              try clear p440
              try clear p441
              try clear p442
              try clear p443
              try clear p6
              try clear q4
              try clear q432
              try clear q433
              try clear q434
              try clear q435
              try clear q436
              try clear q437
              try clear q438
              try clear q439
              try clear q440
              try clear q441
              try clear q442
              try clear q443
              obtain ⟨x9_5,rfl,HA,HK5,BK430,HB⟩:=hrel
              cases gk with
              |zero=>exact absurd HA.out (by simp [AW.l4])
              | succ k5 =>
               have H:=HA.out
               clear HA
               simp only [AW.l4] at H
               by_cases c38:0≤x8_4
               ·rw [if_pos c38] at H
                have c38b0:decide (0≤x8_4)=true:=decide_eq_true c38
                clear c38
                by_cases c39:x8_4<(l0_1.length:Int)
                ·rw [if_pos c39] at H
                 have c39b0:decide (x8_4<(l0_1.length:Int))=true:=decide_eq_true c39
                 clear c39
                 by_cases c40:x9_5<(((AL l0_1 x8_4).f3).length:Int)
                 ·rw [if_pos c40] at H
                  have c40b0:decide (x9_5<(((AL l0_1 x8_4).f3).length:Int))=true:=decide_eq_true c40
                  clear c40
                  by_cases c41:0≤x9_5
                  ·rw [if_pos c41] at H
                   have c41b0:decide (0≤x9_5)=true:=decide_eq_true c41
                   clear c41
                   by_cases c42:x8_4<(l1.length:Int)
                   ·rw [if_pos c42] at H
                    have c42b0:decide (x8_4<(l1.length:Int))=true:=decide_eq_true c42
                    clear c42
                    by_cases c43:0≤(rd ((AL l0_1 x8_4).f3) x9_5)
                    ·rw [if_pos c43] at H
                     have c43b0:decide (0≤(rd ((AL l0_1 x8_4).f3) x9_5))=true:=decide_eq_true c43
                     clear c43
                     by_cases c44:(rd ((AL l0_1 x8_4).f3) x9_5)<(l1.length:Int)
                     ·rw [if_pos c44] at H
                      have c44b0:decide ((rd ((AL l0_1 x8_4).f3) x9_5)<(l1.length:Int))=true:=decide_eq_true c44
                      clear c44
                      by_cases c45:(rd ((AL l0_1 x8_4).f3) x9_5)<(l0_1.length:Int)
                      ·rw [if_pos c45] at H
                       have c45b0:decide ((rd ((AL l0_1 x8_4).f3) x9_5)<(l0_1.length:Int))=true:=decide_eq_true c45
                       clear c45
                       by_cases c46:((BB l1 x8_4).f1)<(wrap64 (((BB l1 (rd ((AL l0_1 x8_4).f3) x9_5)).f1)+((AL l0_1 (rd ((AL l0_1 x8_4).f3) x9_5)).f1)))
                       ·rw [if_pos c46] at H
                        have c46b0:decide (((BB l1 x8_4).f1)<(wrap64 (((BB l1 (rd ((AL l0_1 x8_4).f3) x9_5)).f1)+((AL l0_1 (rd ((AL l0_1 x8_4).f3) x9_5)).f1))))=true:=decide_eq_true c46
                        clear c46
                        obtain rfl:=Option.some.inj H
                        have hcz47_0:wr.cell? ⟨gb430,0,none⟩=some (.int .i64 A8):=(AK BK430.out 0).trans rfl
                        have hcz47_1:wr.cell? ⟨gb430,1,none⟩=some (.slice A0_1 l0_1.length c0_1):=(AK BK430.out 1).trans rfl
                        have hfz47_0:=AJ BK430.out 0
                        have hfz47_1:=AJ BK430.out 1
                        have p444:0≤(x8_4:Int):=of_decide_eq_true zA
                        have q444:x8_4<(l0_1.length:Int):=of_decide_eq_true zA
                        obtain ⟨ad444,A444_3,c444_3,e444,hx444_0,hx444_1,hx444_2,hx444_3,hl444_3,hi444_3⟩:=BR HR0_1.out x8_4 p444 q444
                        cases e444
                        replace hx444_0:=(HB.out.cell (World.block_lt_of_cell? w _ hx444_0)).trans hx444_0
                        replace hx444_1:=(HB.out.cell (World.block_lt_of_cell? w _ hx444_1)).trans hx444_1
                        replace hx444_2:=(HB.out.cell (World.block_lt_of_cell? w _ hx444_2)).trans hx444_2
                        replace hx444_3:=(HB.out.cell (World.block_lt_of_cell? w _ hx444_3)).trans hx444_3
                        have HR444_3:=Aside0.mk hi444_3
                        have HC444_3:=Aside0.mk hl444_3
                        clear hi444_3 hl444_3
                        replace p444:=eq_true p444
                        replace q444:=eq_true q444
                        have p445:0≤(x8_4:Int):=of_decide_eq_true zA
                        have q445:x8_4<(l0_1.length:Int):=of_decide_eq_true zA
                        obtain ⟨ad445,A445_3,c445_3,e445,hx445_0,hx445_1,hx445_2,hx445_3,hl445_3,hi445_3⟩:=BR HR0_1.out x8_4 p445 q445
                        obtain rfl:ad444=ad445:=(by injection e445)
                        replace hx445_0:=(HB.out.cell (World.block_lt_of_cell? w _ hx445_0)).trans hx445_0
                        replace hx445_1:=(HB.out.cell (World.block_lt_of_cell? w _ hx445_1)).trans hx445_1
                        replace hx445_2:=(HB.out.cell (World.block_lt_of_cell? w _ hx445_2)).trans hx445_2
                        replace hx445_3:=(HB.out.cell (World.block_lt_of_cell? w _ hx445_3)).trans hx445_3
                        have HR445_3:=Aside0.mk hi445_3
                        have HC445_3:=Aside0.mk hl445_3
                        clear hi445_3 hl445_3
                        replace p445:=eq_true p445
                        replace q445:=eq_true q445
                        have ea_:=Option.some.inj (hx444_3.symm.trans hx445_3)
                        injection ea_ with ea_ en_ ec_
                        subst ea_
                        subst ec_
                        clear en_
                        have p446:0≤(x9_5:Int):=of_decide_eq_true zA
                        have q446:x9_5<(((AL l0_1 x8_4).f3).length:Int):=of_decide_eq_true zA
                        obtain ⟨ad446,e446,hx446_0⟩:=Kd.at_int HR445_3.out x9_5 p446 q446
                        cases e446
                        replace hx446_0:=(HB.out.cell (World.block_lt_of_cell? w _ hx446_0)).trans hx446_0
                        replace p446:=eq_true p446
                        replace q446:=eq_true q446
                        have p447:0≤(x8_4:Int):=of_decide_eq_true zA
                        have q447:x8_4<(l1.length:Int):=of_decide_eq_true zA
                        obtain ⟨ad447,e447,hx447_0,hx447_1⟩:=BN HR1.out x8_4 p447 q447
                        cases e447
                        replace hx447_0:=(HB.out.cell (World.block_lt_of_cell? w _ hx447_0)).trans hx447_0
                        replace hx447_1:=(HB.out.cell (World.block_lt_of_cell? w _ hx447_1)).trans hx447_1
                        replace p447:=eq_true p447
                        replace q447:=eq_true q447
                        have p448:0≤((rd ((AL l0_1 x8_4).f3) x9_5):Int):=of_decide_eq_true zA
                        have q448:(rd ((AL l0_1 x8_4).f3) x9_5)<(l1.length:Int):=of_decide_eq_true zA
                        obtain ⟨ad448,e448,hx448_0,hx448_1⟩:=BN HR1.out (rd ((AL l0_1 x8_4).f3) x9_5) p448 q448
                        obtain rfl:ad447=ad448:=(by injection e448)
                        replace hx448_0:=(HB.out.cell (World.block_lt_of_cell? w _ hx448_0)).trans hx448_0
                        replace hx448_1:=(HB.out.cell (World.block_lt_of_cell? w _ hx448_1)).trans hx448_1
                        replace p448:=eq_true p448
                        replace q448:=eq_true q448
                        have p449:0≤((rd ((AL l0_1 x8_4).f3) x9_5):Int):=of_decide_eq_true zA
                        have q449:(rd ((AL l0_1 x8_4).f3) x9_5)<(l0_1.length:Int):=of_decide_eq_true zA
                        obtain ⟨ad449,A449_3,c449_3,e449,hx449_0,hx449_1,hx449_2,hx449_3,hl449_3,hi449_3⟩:=BR HR0_1.out (rd ((AL l0_1 x8_4).f3) x9_5) p449 q449
                        obtain rfl:ad444=ad449:=(by injection e449)
                        replace hx449_0:=(HB.out.cell (World.block_lt_of_cell? w _ hx449_0)).trans hx449_0
                        replace hx449_1:=(HB.out.cell (World.block_lt_of_cell? w _ hx449_1)).trans hx449_1
                        replace hx449_2:=(HB.out.cell (World.block_lt_of_cell? w _ hx449_2)).trans hx449_2
                        replace hx449_3:=(HB.out.cell (World.block_lt_of_cell? w _ hx449_3)).trans hx449_3
                        have HR449_3:=Aside0.mk hi449_3
                        have HC449_3:=Aside0.mk hl449_3
                        clear hi449_3 hl449_3
                        replace p449:=eq_true p449
                        replace q449:=eq_true q449
                        go_wp2
                        repeat (go_quiet (fail); try go_wp2)
                        go_ret
                        exact ⟨by first|rfl|(simp [AU,AT]<;>rfl)|(simp [*,AU,AT]<;>rfl),by repeat (first|(with_reducible first|exact HB.out|apply AE|apply AC|apply AD|refine AI ?_ GE430.out)|exact HB.out)⟩
                       ·rw [if_neg c46] at H
                        have c46b0:decide (((BB l1 x8_4).f1)<(wrap64 (((BB l1 (rd ((AL l0_1 x8_4).f3) x9_5)).f1)+((AL l0_1 (rd ((AL l0_1 x8_4).f3) x9_5)).f1))))=false:=decide_eq_false c46
                        clear c46
                        have H':=Aside0.mk H
                        clear H
                        have hcz48_0:wr.cell? ⟨gb430,0,none⟩=some (.int .i64 A8):=(AK BK430.out 0).trans rfl
                        have hcz48_1:wr.cell? ⟨gb430,1,none⟩=some (.slice A0_1 l0_1.length c0_1):=(AK BK430.out 1).trans rfl
                        have hfz48_0:=AJ BK430.out 0
                        have hfz48_1:=AJ BK430.out 1
                        have p444:0≤(x8_4:Int):=of_decide_eq_true zA
                        have q444:x8_4<(l0_1.length:Int):=of_decide_eq_true zA
                        obtain ⟨ad444,A444_3,c444_3,e444,hx444_0,hx444_1,hx444_2,hx444_3,hl444_3,hi444_3⟩:=BR HR0_1.out x8_4 p444 q444
                        cases e444
                        replace hx444_0:=(HB.out.cell (World.block_lt_of_cell? w _ hx444_0)).trans hx444_0
                        replace hx444_1:=(HB.out.cell (World.block_lt_of_cell? w _ hx444_1)).trans hx444_1
                        replace hx444_2:=(HB.out.cell (World.block_lt_of_cell? w _ hx444_2)).trans hx444_2
                        replace hx444_3:=(HB.out.cell (World.block_lt_of_cell? w _ hx444_3)).trans hx444_3
                        have HR444_3:=Aside0.mk hi444_3
                        have HC444_3:=Aside0.mk hl444_3
                        clear hi444_3 hl444_3
                        replace p444:=eq_true p444
                        replace q444:=eq_true q444
                        have p445:0≤(x8_4:Int):=of_decide_eq_true zA
                        have q445:x8_4<(l0_1.length:Int):=of_decide_eq_true zA
                        obtain ⟨ad445,A445_3,c445_3,e445,hx445_0,hx445_1,hx445_2,hx445_3,hl445_3,hi445_3⟩:=BR HR0_1.out x8_4 p445 q445
                        obtain rfl:ad444=ad445:=(by injection e445)
                        replace hx445_0:=(HB.out.cell (World.block_lt_of_cell? w _ hx445_0)).trans hx445_0
                        replace hx445_1:=(HB.out.cell (World.block_lt_of_cell? w _ hx445_1)).trans hx445_1
                        replace hx445_2:=(HB.out.cell (World.block_lt_of_cell? w _ hx445_2)).trans hx445_2
                        replace hx445_3:=(HB.out.cell (World.block_lt_of_cell? w _ hx445_3)).trans hx445_3
                        have HR445_3:=Aside0.mk hi445_3
                        have HC445_3:=Aside0.mk hl445_3
                        clear hi445_3 hl445_3
                        replace p445:=eq_true p445
                        replace q445:=eq_true q445
                        have ea_:=Option.some.inj (hx444_3.symm.trans hx445_3)
                        injection ea_ with ea_ en_ ec_
                        subst ea_
                        subst ec_
                        clear en_
                        have p446:0≤(x9_5:Int):=of_decide_eq_true zA
                        have q446:x9_5<(((AL l0_1 x8_4).f3).length:Int):=of_decide_eq_true zA
                        obtain ⟨ad446,e446,hx446_0⟩:=Kd.at_int HR445_3.out x9_5 p446 q446
                        cases e446
                        replace hx446_0:=(HB.out.cell (World.block_lt_of_cell? w _ hx446_0)).trans hx446_0
                        replace p446:=eq_true p446
                        replace q446:=eq_true q446
                        have p447:0≤(x8_4:Int):=of_decide_eq_true zA
                        have q447:x8_4<(l1.length:Int):=of_decide_eq_true zA
                        obtain ⟨ad447,e447,hx447_0,hx447_1⟩:=BN HR1.out x8_4 p447 q447
                        cases e447
                        replace hx447_0:=(HB.out.cell (World.block_lt_of_cell? w _ hx447_0)).trans hx447_0
                        replace hx447_1:=(HB.out.cell (World.block_lt_of_cell? w _ hx447_1)).trans hx447_1
                        replace p447:=eq_true p447
                        replace q447:=eq_true q447
                        have p448:0≤((rd ((AL l0_1 x8_4).f3) x9_5):Int):=of_decide_eq_true zA
                        have q448:(rd ((AL l0_1 x8_4).f3) x9_5)<(l1.length:Int):=of_decide_eq_true zA
                        obtain ⟨ad448,e448,hx448_0,hx448_1⟩:=BN HR1.out (rd ((AL l0_1 x8_4).f3) x9_5) p448 q448
                        obtain rfl:ad447=ad448:=(by injection e448)
                        replace hx448_0:=(HB.out.cell (World.block_lt_of_cell? w _ hx448_0)).trans hx448_0
                        replace hx448_1:=(HB.out.cell (World.block_lt_of_cell? w _ hx448_1)).trans hx448_1
                        replace p448:=eq_true p448
                        replace q448:=eq_true q448
                        have p449:0≤((rd ((AL l0_1 x8_4).f3) x9_5):Int):=of_decide_eq_true zA
                        have q449:(rd ((AL l0_1 x8_4).f3) x9_5)<(l0_1.length:Int):=of_decide_eq_true zA
                        obtain ⟨ad449,A449_3,c449_3,e449,hx449_0,hx449_1,hx449_2,hx449_3,hl449_3,hi449_3⟩:=BR HR0_1.out (rd ((AL l0_1 x8_4).f3) x9_5) p449 q449
                        obtain rfl:ad444=ad449:=(by injection e449)
                        replace hx449_0:=(HB.out.cell (World.block_lt_of_cell? w _ hx449_0)).trans hx449_0
                        replace hx449_1:=(HB.out.cell (World.block_lt_of_cell? w _ hx449_1)).trans hx449_1
                        replace hx449_2:=(HB.out.cell (World.block_lt_of_cell? w _ hx449_2)).trans hx449_2
                        replace hx449_3:=(HB.out.cell (World.block_lt_of_cell? w _ hx449_3)).trans hx449_3
                        have HR449_3:=Aside0.mk hi449_3
                        have HC449_3:=Aside0.mk hl449_3
                        clear hi449_3 hl449_3
                        replace p449:=eq_true p449
                        replace q449:=eq_true q449
                        go_wp2
                        repeat (go_quiet (fail); try go_wp2)
                        go_roundg k5
                        case measure=>have:=HJ2.out; have:=HK2.out; have:=HK3.out; have:=HK4.out; have:=HK5.out; omega
                        case rel=>exact ⟨(wrap64 (x9_5+1)),zF,H',⟨by have:=HJ2.out; have:=HK2.out; have:=HK3.out; have:=HK4.out; have:=HK5.out; omega⟩,⟨by (with_reducible repeat (first|refine AF ?_ _|refine AH ?_|refine AG ?_ _)); exact BK430.out⟩,⟨by repeat (first|(with_reducible first|exact HB.out|apply AE|apply AC|apply AD|refine AI ?_ GE430.out)|exact HB.out)⟩⟩
                      ·rw [if_neg c45] at H
                       exact absurd H zY
                     ·rw [if_neg c44] at H
                      exact absurd H zY
                    ·rw [if_neg c43] at H
                     exact absurd H zY
                   ·rw [if_neg c42] at H
                    exact absurd H zY
                  ·rw [if_neg c41] at H
                   exact absurd H zY
                 ·rw [if_neg c40] at H
                  have c40b0:decide (x9_5<(((AL l0_1 x8_4).f3).length:Int))=false:=decide_eq_false c40
                  clear c40
                  have H':=Aside0.mk H
                  clear H
                  have hcz49_0:wr.cell? ⟨gb430,0,none⟩=some (.int .i64 A8):=(AK BK430.out 0).trans rfl
                  have hcz49_1:wr.cell? ⟨gb430,1,none⟩=some (.slice A0_1 l0_1.length c0_1):=(AK BK430.out 1).trans rfl
                  have hfz49_0:=AJ BK430.out 0
                  have hfz49_1:=AJ BK430.out 1
                  have p444:0≤(x8_4:Int):=of_decide_eq_true zA
                  have q444:x8_4<(l0_1.length:Int):=of_decide_eq_true zA
                  obtain ⟨ad444,A444_3,c444_3,e444,hx444_0,hx444_1,hx444_2,hx444_3,hl444_3,hi444_3⟩:=BR HR0_1.out x8_4 p444 q444
                  cases e444
                  replace hx444_0:=(HB.out.cell (World.block_lt_of_cell? w _ hx444_0)).trans hx444_0
                  replace hx444_1:=(HB.out.cell (World.block_lt_of_cell? w _ hx444_1)).trans hx444_1
                  replace hx444_2:=(HB.out.cell (World.block_lt_of_cell? w _ hx444_2)).trans hx444_2
                  replace hx444_3:=(HB.out.cell (World.block_lt_of_cell? w _ hx444_3)).trans hx444_3
                  have HR444_3:=Aside0.mk hi444_3
                  have HC444_3:=Aside0.mk hl444_3
                  clear hi444_3 hl444_3
                  replace p444:=eq_true p444
                  replace q444:=eq_true q444
                  go_wp2
                  repeat (go_quiet (fail); try go_wp2)
                  go_roundg k5
                  case measure=>have:=HJ2.out; have:=HK2.out; have:=HK3.out; have:=HK4.out; have:=HK5.out; omega
                  case rel=>exact ⟨(wrap64 (x8_4+1)),zF,H',⟨by have:=HJ2.out; have:=HK2.out; have:=HK3.out; have:=HK4.out; have:=HK5.out; omega⟩,⟨by (with_reducible repeat (first|refine AF ?_ _|refine AH ?_|refine AG ?_ _)); exact BK430.out⟩,⟨by repeat (first|(with_reducible first|exact HB.out|apply AE|apply AC|apply AD|refine AI ?_ GE430.out)|exact HB.out)⟩⟩
                ·rw [if_neg c39] at H
                 exact absurd H zY
               ·rw [if_neg c38] at H
                exact absurd H zY
            ·rw [if_neg c37] at H
             have c37b0:decide (x8_4<(l1.length:Int))=false:=decide_eq_false c37
             clear c37
             obtain rfl:=Option.some.inj H
             go_wp2
             repeat (go_quiet (fail); try go_wp2)
             go_ret
             exact ⟨by first|rfl|(simp [AU,AT]<;>rfl)|(simp [*,AU,AT]<;>rfl),by repeat (first|(with_reducible first|exact HB.out|apply AE|apply AC|apply AD|refine AI ?_ GE430.out)|exact HB.out)⟩
end Go.Proofs.Ytdadecjefafflaa.PAll
end
section
namespace Go.Proofs.Ytdadecjefafflaa.PAll
set_option maxRecDepth 100000
open Go.RowKit Go.Proofs.YtdadecjefafflaaW.PrintWords Go.Proofs.YtdadecjefafflaaW.PrintLast Go.Proofs.YtdadecjefafflaaW.PrintMore
attribute [local go_sem] Bb BZ Bg Bf BU BT Ba BX
def B0.l0:Nat→List (S54)→Int→Int→Int→List (S42)→Option (Int×Int)
 |0,_,_,_,_,_=>none
 |k+1,x1,x7,x8,x451000,x451001=>if x8<(x1.length:Int) then (if 0≤x8 then (if x8<(x451001.length:Int) then (if x8=0 then (B0.l0 k x1 (wrap64 ((wrap64 (((BB x1 x8).f1)+((AL x451001 x8).f1)))-((AL x451001 x8).f2))) (wrap64 (x8+1)) x451000 x451001) else (if (wrap64 ((wrap64 (((BB x1 x8).f1)+((AL x451001 x8).f1)))-((AL x451001 x8).f2)))>x7 then (B0.l0 k x1 (wrap64 ((wrap64 (((BB x1 x8).f1)+((AL x451001 x8).f1)))-((AL x451001 x8).f2))) (wrap64 (x8+1)) x451000 x451001) else (B0.l0 k x1 x7 (wrap64 (x8+1)) x451000 x451001))) else (none)) else (none)) else (some (x7,0))
def B0.f (k:Nat) (A8:Int) (l0_1:List (S42)) (l1:List (S54)):Option (Int×Int):=(AW.f k A8 l0_1 l1).bind fun t451=>(if t451=0 then (B0.l0 k l1 0 0 A8 l0_1) else (some (0,t451)))
set_option maxHeartbeats 8000000 in
theorem B0.calls (k:Nat) (A8:Int) (A0_1:Option Addr) (c0_1:Nat) (l0_1:List (S42)) (A1:Option Addr) (c1:Nat) (l1:List (S54)) (r1:Int) (r2:Int) (w:World) (hr0_1:Kd.C k42 w A0_1 l0_1.length l0_1) (hc0_1:l0_1.length≤c0_1) (hr1:Kd.C k54 w A1 l1.length l1) (hc1:l1.length≤c1) (h:B0.f k A8 l0_1 l1=some (r1,r2)):
  Calls Try.prog 38 #[.agg #[.int .i64 A8,.slice A0_1 l0_1.length c0_1],.slice A1 l1.length c1] w fun e w'=>e= .returned (.tuple #[.int .i64 r1,.int .i64 r2])∧Below w.heap.size w w':=by
 have hu24:=Try.underlying24
 have HR0_1:=Aside0.mk hr0_1
 have HC0_1:=Aside0.mk hc0_1
 clear hr0_1 hc0_1
 have HR1:=Aside0.mk hr1
 have HC1:=Aside0.mk hc1
 clear hr1 hc1
 have HB:=Aside0.mk (Below.refl w.heap.size w)
 have H:((AW.f k A8 l0_1 l1).bind fun t451=>(if t451=0 then (B0.l0 k l1 0 0 A8 l0_1) else (some (0,t451))))=some (r1,r2):=h
 clear h
 replace H:=Option.bind_eq_some_iff.mp H
 obtain ⟨t451,A30,H⟩:=H
 replace H:(if t451=0 then (B0.l0 k l1 0 0 A8 l0_1) else (some (0,t451)))=some (r1,r2):=H
 have A3:=Aside0.mk A30
 clear A30
 by_cases c4:t451=0
 ·rw [if_pos c4] at H
  have c4b0:(t451==0)=true:=beq_iff_eq.mpr c4
  have c4b1:(t451 !=0)=false:=bne_eq_false_iff_eq.mpr c4
  clear c4
  have H':=Aside0.mk H
  clear H
  go_enter Try.func38,Try.ntmps38
  go_wp2_with (first|((with_reducible refine Ap (N:=2) rfl ?_); refine Ar ?hg (N:=2) ?hd (cs:= #[.int .i64 A8,.slice A0_1 l0_1.length c0_1]) (t:=24) ?hr ?_; (case hd=>rfl); (case hg=>rfl); (case hr=>first|(go_simp; done)|(go_simp; rfl)); intro gb450 hg w5 hbox hb; have n0_:=Aside0.mk (AN zB hb); have n1_:=Aside0.mk (hbox); have n2_:=Aside0.mk ((by rw [hg]; exact (AQ zB):w.heap.size≤gb450)); have n3_:=Aside0.mk ((by rw [hg]; exact (AQ zB):w.heap.size≤gb450)); clear HB; have HB:=n0_; have BK450:=n1_; have GW450:=n2_; have GE450:=n3_; clear n0_ n1_ n2_ n3_; clear hb hbox hg; have hcz6_0:w5.cell? ⟨gb450,0,none⟩=some (.int .i64 A8):=(AK BK450.out 0).trans rfl; have hcz6_1:w5.cell? ⟨gb450,1,none⟩=some (.slice A0_1 l0_1.length c0_1):=(AK BK450.out 1).trans rfl; have hfz6_0:=AJ BK450.out 0; have hfz6_1:=AJ BK450.out 1)|(go_at_call 56; (with_reducible refine (AW.calls k A8 _ _ l0_1 _ _ l1 t451 _ ?side1 ?side2 ?side3 ?side4 A3.out).mono ?_); (case side1=>repeat (first|exact (Kd.C_below HR0_1.out HB.out)|(with_reducible refine Kd.C_alloc ?_ _)|(with_reducible refine Kd.C_drewN ?_ _)|(with_reducible refine Kd.C_drew ?_))); (case side2=>exact HC0_1.out); (case side3=>repeat (first|exact (Kd.C_below HR1.out HB.out)|(with_reducible refine Kd.C_alloc ?_ _)|(with_reducible refine Kd.C_drewN ?_ _)|(with_reducible refine Kd.C_drew ?_))); (case side4=>exact HC1.out); rintro e w7 ⟨rfl,hb⟩; have n0_:=Aside0.mk (AP (g:=gb450) (o:= .cells #[.int .i64 A8,.slice A0_1 l0_1.length c0_1] 24 (0,0)) zD1 hb); have n1_:=Aside0.mk (AN zB7 hb); clear BK450; clear HB; have BK450:=n0_; have HB:=n1_; clear n0_ n1_; (try clear hb); (try clear hb2); (try clear hk); (try clear hi)))
  repeat (go_quiet (first|((with_reducible refine Ap (N:=2) rfl ?_); refine Ar ?hg (N:=2) ?hd (cs:= #[.int .i64 A8,.slice A0_1 l0_1.length c0_1]) (t:=24) ?hr ?_; (case hd=>rfl); (case hg=>rfl); (case hr=>first|(go_simp; done)|(go_simp; rfl)); intro gb450 hg w5 hbox hb; have n0_:=Aside0.mk (AN zB hb); have n1_:=Aside0.mk (hbox); have n2_:=Aside0.mk ((by rw [hg]; exact (AQ zB):w.heap.size≤gb450)); have n3_:=Aside0.mk ((by rw [hg]; exact (AQ zB):w.heap.size≤gb450)); clear HB; have HB:=n0_; have BK450:=n1_; have GW450:=n2_; have GE450:=n3_; clear n0_ n1_ n2_ n3_; clear hb hbox hg; have hcz6_0:w5.cell? ⟨gb450,0,none⟩=some (.int .i64 A8):=(AK BK450.out 0).trans rfl; have hcz6_1:w5.cell? ⟨gb450,1,none⟩=some (.slice A0_1 l0_1.length c0_1):=(AK BK450.out 1).trans rfl; have hfz6_0:=AJ BK450.out 0; have hfz6_1:=AJ BK450.out 1)|(go_at_call 56; (with_reducible refine (AW.calls k A8 _ _ l0_1 _ _ l1 t451 _ ?side1 ?side2 ?side3 ?side4 A3.out).mono ?_); (case side1=>repeat (first|exact (Kd.C_below HR0_1.out HB.out)|(with_reducible refine Kd.C_alloc ?_ _)|(with_reducible refine Kd.C_drewN ?_ _)|(with_reducible refine Kd.C_drew ?_))); (case side2=>exact HC0_1.out); (case side3=>repeat (first|exact (Kd.C_below HR1.out HB.out)|(with_reducible refine Kd.C_alloc ?_ _)|(with_reducible refine Kd.C_drewN ?_ _)|(with_reducible refine Kd.C_drew ?_))); (case side4=>exact HC1.out); rintro e w7 ⟨rfl,hb⟩; have n0_:=Aside0.mk (AP (g:=gb450) (o:= .cells #[.int .i64 A8,.slice A0_1 l0_1.length c0_1] 24 (0,0)) zD1 hb); have n1_:=Aside0.mk (AN zB7 hb); clear BK450; clear HB; have BK450:=n0_; have HB:=n1_; clear n0_ n1_; (try clear hb); (try clear hb2); (try clear hk); (try clear hi); clear A3)); try go_wp2_with (first|((with_reducible refine Ap (N:=2) rfl ?_); refine Ar ?hg (N:=2) ?hd (cs:= #[.int .i64 A8,.slice A0_1 l0_1.length c0_1]) (t:=24) ?hr ?_; (case hd=>rfl); (case hg=>rfl); (case hr=>first|(go_simp; done)|(go_simp; rfl)); intro gb450 hg w5 hbox hb; have n0_:=Aside0.mk (AN zB hb); have n1_:=Aside0.mk (hbox); have n2_:=Aside0.mk ((by rw [hg]; exact (AQ zB):w.heap.size≤gb450)); have n3_:=Aside0.mk ((by rw [hg]; exact (AQ zB):w.heap.size≤gb450)); clear HB; have HB:=n0_; have BK450:=n1_; have GW450:=n2_; have GE450:=n3_; clear n0_ n1_ n2_ n3_; clear hb hbox hg; have hcz6_0:w5.cell? ⟨gb450,0,none⟩=some (.int .i64 A8):=(AK BK450.out 0).trans rfl; have hcz6_1:w5.cell? ⟨gb450,1,none⟩=some (.slice A0_1 l0_1.length c0_1):=(AK BK450.out 1).trans rfl; have hfz6_0:=AJ BK450.out 0; have hfz6_1:=AJ BK450.out 1)|(go_at_call 56; (with_reducible refine (AW.calls k A8 _ _ l0_1 _ _ l1 t451 _ ?side1 ?side2 ?side3 ?side4 A3.out).mono ?_); (case side1=>repeat (first|exact (Kd.C_below HR0_1.out HB.out)|(with_reducible refine Kd.C_alloc ?_ _)|(with_reducible refine Kd.C_drewN ?_ _)|(with_reducible refine Kd.C_drew ?_))); (case side2=>exact HC0_1.out); (case side3=>repeat (first|exact (Kd.C_below HR1.out HB.out)|(with_reducible refine Kd.C_alloc ?_ _)|(with_reducible refine Kd.C_drewN ?_ _)|(with_reducible refine Kd.C_drew ?_))); (case side4=>exact HC1.out); rintro e w7 ⟨rfl,hb⟩; have n0_:=Aside0.mk (AP (g:=gb450) (o:= .cells #[.int .i64 A8,.slice A0_1 l0_1.length c0_1] 24 (0,0)) zD1 hb); have n1_:=Aside0.mk (AN zB7 hb); clear BK450; clear HB; have BK450:=n0_; have HB:=n1_; clear n0_ n1_; (try clear hb); (try clear hb2); (try clear hk); (try clear hi); clear A3)))
  go_loopg [7,8] k (fun kq v7 v8 w'=>∃(x7_1:Int) (x8_1:Int),v7= .int .i64 x7_1∧v8= .int .i64 x8_1∧Aside0 (B0.l0 kq l1 x7_1 x8_1 A8 l0_1=some (r1,r2))∧Aside0 (kq≤k)∧Aside0 (w'.heap[gb450]? =some (.cells #[.int .i64 A8,(.slice A0_1 l0_1.length c0_1)] 24 (0,0)))∧Aside0 (Below w.heap.size w w'))
  case atStart=>exact ⟨(0),(0),zF,zF,H',⟨Nat.le_refl _⟩,⟨by (with_reducible repeat (first|refine AF ?_ _|refine AH ?_|refine AG ?_ _)); exact BK450.out⟩,⟨by repeat (first|(with_reducible first|exact HB.out|apply AE|apply AC|apply AD|refine AI ?_ GE450.out)|exact HB.out)⟩⟩
  case round=>
   clear H'
   try clear c1
   try clear p2
   try clear c3
   try clear c4
   try clear c4b0
   try clear c4b1
   try clear hcz6_0
   try clear hcz6_1
   try clear hfz6_0
   try clear hfz6_1
   obtain ⟨x7_1,x8_1,rfl,rfl,HA,HK1,BK450,HB⟩:=hrel
   cases gk with
   |zero=>exact absurd HA.out (by simp [B0.l0])
   | succ k1 =>
    have H:=HA.out
    clear HA
    simp only [B0.l0] at H
    by_cases c8:x8_1<(l1.length:Int)
    ·rw [if_pos c8] at H
     have c8b0:decide (x8_1<(l1.length:Int))=true:=decide_eq_true c8
     clear c8
     by_cases c9:0≤x8_1
     ·rw [if_pos c9] at H
      have c9b0:decide (0≤x8_1)=true:=decide_eq_true c9
      clear c9
      by_cases c10:x8_1<(l0_1.length:Int)
      ·rw [if_pos c10] at H
       have c10b0:decide (x8_1<(l0_1.length:Int))=true:=decide_eq_true c10
       clear c10
       by_cases c11:x8_1=0
       ·rw [if_pos c11] at H
        have c11b0:(x8_1==0)=true:=beq_iff_eq.mpr c11
        have c11b1:(x8_1 !=0)=false:=bne_eq_false_iff_eq.mpr c11
        clear c11
        have H':=Aside0.mk H
        clear H
        have p452:0≤(x8_1:Int):=of_decide_eq_true zA
        have q452:x8_1<(l1.length:Int):=of_decide_eq_true zA
        obtain ⟨ad452,e452,hx452_0,hx452_1⟩:=BN HR1.out x8_1 p452 q452
        cases e452
        replace hx452_0:=(HB.out.cell (World.block_lt_of_cell? w _ hx452_0)).trans hx452_0
        replace hx452_1:=(HB.out.cell (World.block_lt_of_cell? w _ hx452_1)).trans hx452_1
        replace p452:=eq_true p452
        replace q452:=eq_true q452
        have hcz12_0:wr.cell? ⟨gb450,0,none⟩=some (.int .i64 A8):=(AK BK450.out 0).trans rfl
        have hcz12_1:wr.cell? ⟨gb450,1,none⟩=some (.slice A0_1 l0_1.length c0_1):=(AK BK450.out 1).trans rfl
        have hfz12_0:=AJ BK450.out 0
        have hfz12_1:=AJ BK450.out 1
        have p453:0≤(x8_1:Int):=of_decide_eq_true zA
        have q453:x8_1<(l0_1.length:Int):=of_decide_eq_true zA
        obtain ⟨ad453,A453_3,c453_3,e453,hx453_0,hx453_1,hx453_2,hx453_3,hl453_3,hi453_3⟩:=BR HR0_1.out x8_1 p453 q453
        cases e453
        replace hx453_0:=(HB.out.cell (World.block_lt_of_cell? w _ hx453_0)).trans hx453_0
        replace hx453_1:=(HB.out.cell (World.block_lt_of_cell? w _ hx453_1)).trans hx453_1
        replace hx453_2:=(HB.out.cell (World.block_lt_of_cell? w _ hx453_2)).trans hx453_2
        replace hx453_3:=(HB.out.cell (World.block_lt_of_cell? w _ hx453_3)).trans hx453_3
        have HR453_3:=Aside0.mk hi453_3
        have HC453_3:=Aside0.mk hl453_3
        clear hi453_3 hl453_3
        replace p453:=eq_true p453
        replace q453:=eq_true q453
        have p454:0≤(x8_1:Int):=of_decide_eq_true zA
        have q454:x8_1<(l0_1.length:Int):=of_decide_eq_true zA
        obtain ⟨ad454,A454_3,c454_3,e454,hx454_0,hx454_1,hx454_2,hx454_3,hl454_3,hi454_3⟩:=BR HR0_1.out x8_1 p454 q454
        obtain rfl:ad453=ad454:=(by injection e454)
        replace hx454_0:=(HB.out.cell (World.block_lt_of_cell? w _ hx454_0)).trans hx454_0
        replace hx454_1:=(HB.out.cell (World.block_lt_of_cell? w _ hx454_1)).trans hx454_1
        replace hx454_2:=(HB.out.cell (World.block_lt_of_cell? w _ hx454_2)).trans hx454_2
        replace hx454_3:=(HB.out.cell (World.block_lt_of_cell? w _ hx454_3)).trans hx454_3
        have HR454_3:=Aside0.mk hi454_3
        have HC454_3:=Aside0.mk hl454_3
        clear hi454_3 hl454_3
        replace p454:=eq_true p454
        replace q454:=eq_true q454
        have ea_:=Option.some.inj (hx453_3.symm.trans hx454_3)
        injection ea_ with ea_ en_ ec_
        subst ea_
        subst ec_
        clear en_
        go_wp2
        repeat (go_quiet (fail); try go_wp2)
        go_roundg k1
        case measure=>have:=HK1.out; omega
        case rel=>exact ⟨(wrap64 ((wrap64 (((BB l1 x8_1).f1)+((AL l0_1 x8_1).f1)))-((AL l0_1 x8_1).f2))),(wrap64 (x8_1+1)),zF,zF,H',⟨by have:=HK1.out; omega⟩,⟨by (with_reducible repeat (first|refine AF ?_ _|refine AH ?_|refine AG ?_ _)); exact BK450.out⟩,⟨by repeat (first|(with_reducible first|exact HB.out|apply AE|apply AC|apply AD|refine AI ?_ GE450.out)|exact HB.out)⟩⟩
       ·rw [if_neg c11] at H
        have c11b0:(x8_1==0)=false:=beq_eq_false_iff_ne.mpr c11
        have c11b1:(x8_1 !=0)=true:=bne_iff_ne.mpr c11
        by_cases c13:(wrap64 ((wrap64 (((BB l1 x8_1).f1)+((AL l0_1 x8_1).f1)))-((AL l0_1 x8_1).f2)))>x7_1
        ·rw [if_pos c13] at H
         have c13b0:decide (x7_1<(wrap64 ((wrap64 (((BB l1 x8_1).f1)+((AL l0_1 x8_1).f1)))-((AL l0_1 x8_1).f2))))=true:=decide_eq_true c13
         clear c13
         have H':=Aside0.mk H
         clear H
         have p452:0≤(x8_1:Int):=of_decide_eq_true zA
         have q452:x8_1<(l1.length:Int):=of_decide_eq_true zA
         obtain ⟨ad452,e452,hx452_0,hx452_1⟩:=BN HR1.out x8_1 p452 q452
         cases e452
         replace hx452_0:=(HB.out.cell (World.block_lt_of_cell? w _ hx452_0)).trans hx452_0
         replace hx452_1:=(HB.out.cell (World.block_lt_of_cell? w _ hx452_1)).trans hx452_1
         replace p452:=eq_true p452
         replace q452:=eq_true q452
         have hcz14_0:wr.cell? ⟨gb450,0,none⟩=some (.int .i64 A8):=(AK BK450.out 0).trans rfl
         have hcz14_1:wr.cell? ⟨gb450,1,none⟩=some (.slice A0_1 l0_1.length c0_1):=(AK BK450.out 1).trans rfl
         have hfz14_0:=AJ BK450.out 0
         have hfz14_1:=AJ BK450.out 1
         have p453:0≤(x8_1:Int):=of_decide_eq_true zA
         have q453:x8_1<(l0_1.length:Int):=of_decide_eq_true zA
         obtain ⟨ad453,A453_3,c453_3,e453,hx453_0,hx453_1,hx453_2,hx453_3,hl453_3,hi453_3⟩:=BR HR0_1.out x8_1 p453 q453
         cases e453
         replace hx453_0:=(HB.out.cell (World.block_lt_of_cell? w _ hx453_0)).trans hx453_0
         replace hx453_1:=(HB.out.cell (World.block_lt_of_cell? w _ hx453_1)).trans hx453_1
         replace hx453_2:=(HB.out.cell (World.block_lt_of_cell? w _ hx453_2)).trans hx453_2
         replace hx453_3:=(HB.out.cell (World.block_lt_of_cell? w _ hx453_3)).trans hx453_3
         have HR453_3:=Aside0.mk hi453_3
         have HC453_3:=Aside0.mk hl453_3
         clear hi453_3 hl453_3
         replace p453:=eq_true p453
         replace q453:=eq_true q453
         have p454:0≤(x8_1:Int):=of_decide_eq_true zA
         have q454:x8_1<(l0_1.length:Int):=of_decide_eq_true zA
         obtain ⟨ad454,A454_3,c454_3,e454,hx454_0,hx454_1,hx454_2,hx454_3,hl454_3,hi454_3⟩:=BR HR0_1.out x8_1 p454 q454
         obtain rfl:ad453=ad454:=(by injection e454)
         replace hx454_0:=(HB.out.cell (World.block_lt_of_cell? w _ hx454_0)).trans hx454_0
         replace hx454_1:=(HB.out.cell (World.block_lt_of_cell? w _ hx454_1)).trans hx454_1
         replace hx454_2:=(HB.out.cell (World.block_lt_of_cell? w _ hx454_2)).trans hx454_2
         replace hx454_3:=(HB.out.cell (World.block_lt_of_cell? w _ hx454_3)).trans hx454_3
         have HR454_3:=Aside0.mk hi454_3
         have HC454_3:=Aside0.mk hl454_3
         clear hi454_3 hl454_3
         replace p454:=eq_true p454
         replace q454:=eq_true q454
         have ea_:=Option.some.inj (hx453_3.symm.trans hx454_3)
         injection ea_ with ea_ en_ ec_
         subst ea_
         subst ec_
         clear en_
         go_wp2
         repeat (go_quiet (fail); try go_wp2)
         go_roundg k1
         case measure=>have:=HK1.out; omega
         case rel=>exact ⟨(wrap64 ((wrap64 (((BB l1 x8_1).f1)+((AL l0_1 x8_1).f1)))-((AL l0_1 x8_1).f2))),(wrap64 (x8_1+1)),zF,zF,H',⟨by have:=HK1.out; omega⟩,⟨by (with_reducible repeat (first|refine AF ?_ _|refine AH ?_|refine AG ?_ _)); exact BK450.out⟩,⟨by repeat (first|(with_reducible first|exact HB.out|apply AE|apply AC|apply AD|refine AI ?_ GE450.out)|exact HB.out)⟩⟩
        ·rw [if_neg c13] at H
         have c13b0:decide (x7_1<(wrap64 ((wrap64 (((BB l1 x8_1).f1)+((AL l0_1 x8_1).f1)))-((AL l0_1 x8_1).f2))))=false:=decide_eq_false c13
         clear c13
         have H':=Aside0.mk H
         clear H
         have p452:0≤(x8_1:Int):=of_decide_eq_true zA
         have q452:x8_1<(l1.length:Int):=of_decide_eq_true zA
         obtain ⟨ad452,e452,hx452_0,hx452_1⟩:=BN HR1.out x8_1 p452 q452
         cases e452
         replace hx452_0:=(HB.out.cell (World.block_lt_of_cell? w _ hx452_0)).trans hx452_0
         replace hx452_1:=(HB.out.cell (World.block_lt_of_cell? w _ hx452_1)).trans hx452_1
         replace p452:=eq_true p452
         replace q452:=eq_true q452
         have hcz15_0:wr.cell? ⟨gb450,0,none⟩=some (.int .i64 A8):=(AK BK450.out 0).trans rfl
         have hcz15_1:wr.cell? ⟨gb450,1,none⟩=some (.slice A0_1 l0_1.length c0_1):=(AK BK450.out 1).trans rfl
         have hfz15_0:=AJ BK450.out 0
         have hfz15_1:=AJ BK450.out 1
         have p453:0≤(x8_1:Int):=of_decide_eq_true zA
         have q453:x8_1<(l0_1.length:Int):=of_decide_eq_true zA
         obtain ⟨ad453,A453_3,c453_3,e453,hx453_0,hx453_1,hx453_2,hx453_3,hl453_3,hi453_3⟩:=BR HR0_1.out x8_1 p453 q453
         cases e453
         replace hx453_0:=(HB.out.cell (World.block_lt_of_cell? w _ hx453_0)).trans hx453_0
         replace hx453_1:=(HB.out.cell (World.block_lt_of_cell? w _ hx453_1)).trans hx453_1
         replace hx453_2:=(HB.out.cell (World.block_lt_of_cell? w _ hx453_2)).trans hx453_2
         replace hx453_3:=(HB.out.cell (World.block_lt_of_cell? w _ hx453_3)).trans hx453_3
         have HR453_3:=Aside0.mk hi453_3
         have HC453_3:=Aside0.mk hl453_3
         clear hi453_3 hl453_3
         replace p453:=eq_true p453
         replace q453:=eq_true q453
         have p454:0≤(x8_1:Int):=of_decide_eq_true zA
         have q454:x8_1<(l0_1.length:Int):=of_decide_eq_true zA
         obtain ⟨ad454,A454_3,c454_3,e454,hx454_0,hx454_1,hx454_2,hx454_3,hl454_3,hi454_3⟩:=BR HR0_1.out x8_1 p454 q454
         obtain rfl:ad453=ad454:=(by injection e454)
         replace hx454_0:=(HB.out.cell (World.block_lt_of_cell? w _ hx454_0)).trans hx454_0
         replace hx454_1:=(HB.out.cell (World.block_lt_of_cell? w _ hx454_1)).trans hx454_1
         replace hx454_2:=(HB.out.cell (World.block_lt_of_cell? w _ hx454_2)).trans hx454_2
         replace hx454_3:=(HB.out.cell (World.block_lt_of_cell? w _ hx454_3)).trans hx454_3
         have HR454_3:=Aside0.mk hi454_3
         have HC454_3:=Aside0.mk hl454_3
         clear hi454_3 hl454_3
         replace p454:=eq_true p454
         replace q454:=eq_true q454
         have ea_:=Option.some.inj (hx453_3.symm.trans hx454_3)
         injection ea_ with ea_ en_ ec_
         subst ea_
         subst ec_
         clear en_
         go_wp2
         repeat (go_quiet (fail); try go_wp2)
         go_roundg k1
         case measure=>have:=HK1.out; omega
         case rel=>exact ⟨(x7_1),(wrap64 (x8_1+1)),zF,zF,H',⟨by have:=HK1.out; omega⟩,⟨by (with_reducible repeat (first|refine AF ?_ _|refine AH ?_|refine AG ?_ _)); exact BK450.out⟩,⟨by repeat (first|(with_reducible first|exact HB.out|apply AE|apply AC|apply AD|refine AI ?_ GE450.out)|exact HB.out)⟩⟩
      ·rw [if_neg c10] at H
       exact absurd H zY
     ·rw [if_neg c9] at H
      exact absurd H zY
    ·rw [if_neg c8] at H
     have c8b0:decide (x8_1<(l1.length:Int))=false:=decide_eq_false c8
     clear c8
     simp only [Option.some.injEq,Prod.mk.injEq] at H
     obtain ⟨rfl,rfl⟩:=H
     go_wp2
     repeat (go_quiet (fail); try go_wp2)
     go_ret2
     exact ⟨by first|rfl|(simp [AU,AT]<;>rfl)|(simp [*,AU,AT]<;>rfl),by repeat (first|(with_reducible first|exact HB.out|apply AE|apply AC|apply AD|refine AI ?_ GE450.out)|exact HB.out)⟩
 ·rw [if_neg c4] at H
  have c4b0:(t451==0)=false:=beq_eq_false_iff_ne.mpr c4
  have c4b1:(t451 !=0)=true:=bne_iff_ne.mpr c4
  simp only [Option.some.injEq,Prod.mk.injEq] at H
  obtain ⟨rfl,rfl⟩:=H
  go_enter Try.func38,Try.ntmps38
  go_wp2_with (first|((with_reducible refine Ap (N:=2) rfl ?_); refine Ar ?hg (N:=2) ?hd (cs:= #[.int .i64 A8,.slice A0_1 l0_1.length c0_1]) (t:=24) ?hr ?_; (case hd=>rfl); (case hg=>rfl); (case hr=>first|(go_simp; done)|(go_simp; rfl)); intro gb450 hg w16 hbox hb; have n0_:=Aside0.mk (AN zB hb); have n1_:=Aside0.mk (hbox); have n2_:=Aside0.mk ((by rw [hg]; exact (AQ zB):w.heap.size≤gb450)); have n3_:=Aside0.mk ((by rw [hg]; exact (AQ zB):w.heap.size≤gb450)); clear HB; have HB:=n0_; have BK450:=n1_; have GW450:=n2_; have GE450:=n3_; clear n0_ n1_ n2_ n3_; clear hb hbox hg; have hcz17_0:w16.cell? ⟨gb450,0,none⟩=some (.int .i64 A8):=(AK BK450.out 0).trans rfl; have hcz17_1:w16.cell? ⟨gb450,1,none⟩=some (.slice A0_1 l0_1.length c0_1):=(AK BK450.out 1).trans rfl; have hfz17_0:=AJ BK450.out 0; have hfz17_1:=AJ BK450.out 1)|(go_at_call 56; (with_reducible refine (AW.calls k A8 _ _ l0_1 _ _ l1 t451 _ ?side1 ?side2 ?side3 ?side4 A3.out).mono ?_); (case side1=>repeat (first|exact (Kd.C_below HR0_1.out HB.out)|(with_reducible refine Kd.C_alloc ?_ _)|(with_reducible refine Kd.C_drewN ?_ _)|(with_reducible refine Kd.C_drew ?_))); (case side2=>exact HC0_1.out); (case side3=>repeat (first|exact (Kd.C_below HR1.out HB.out)|(with_reducible refine Kd.C_alloc ?_ _)|(with_reducible refine Kd.C_drewN ?_ _)|(with_reducible refine Kd.C_drew ?_))); (case side4=>exact HC1.out); rintro e w18 ⟨rfl,hb⟩; have n0_:=Aside0.mk (AP (g:=gb450) (o:= .cells #[.int .i64 A8,.slice A0_1 l0_1.length c0_1] 24 (0,0)) zD1 hb); have n1_:=Aside0.mk (AN zB7 hb); clear BK450; clear HB; have BK450:=n0_; have HB:=n1_; clear n0_ n1_; (try clear hb); (try clear hb2); (try clear hk); (try clear hi)))
  repeat (go_quiet (first|((with_reducible refine Ap (N:=2) rfl ?_); refine Ar ?hg (N:=2) ?hd (cs:= #[.int .i64 A8,.slice A0_1 l0_1.length c0_1]) (t:=24) ?hr ?_; (case hd=>rfl); (case hg=>rfl); (case hr=>first|(go_simp; done)|(go_simp; rfl)); intro gb450 hg w16 hbox hb; have n0_:=Aside0.mk (AN zB hb); have n1_:=Aside0.mk (hbox); have n2_:=Aside0.mk ((by rw [hg]; exact (AQ zB):w.heap.size≤gb450)); have n3_:=Aside0.mk ((by rw [hg]; exact (AQ zB):w.heap.size≤gb450)); clear HB; have HB:=n0_; have BK450:=n1_; have GW450:=n2_; have GE450:=n3_; clear n0_ n1_ n2_ n3_; clear hb hbox hg; have hcz17_0:w16.cell? ⟨gb450,0,none⟩=some (.int .i64 A8):=(AK BK450.out 0).trans rfl; have hcz17_1:w16.cell? ⟨gb450,1,none⟩=some (.slice A0_1 l0_1.length c0_1):=(AK BK450.out 1).trans rfl; have hfz17_0:=AJ BK450.out 0; have hfz17_1:=AJ BK450.out 1)|(go_at_call 56; (with_reducible refine (AW.calls k A8 _ _ l0_1 _ _ l1 t451 _ ?side1 ?side2 ?side3 ?side4 A3.out).mono ?_); (case side1=>repeat (first|exact (Kd.C_below HR0_1.out HB.out)|(with_reducible refine Kd.C_alloc ?_ _)|(with_reducible refine Kd.C_drewN ?_ _)|(with_reducible refine Kd.C_drew ?_))); (case side2=>exact HC0_1.out); (case side3=>repeat (first|exact (Kd.C_below HR1.out HB.out)|(with_reducible refine Kd.C_alloc ?_ _)|(with_reducible refine Kd.C_drewN ?_ _)|(with_reducible refine Kd.C_drew ?_))); (case side4=>exact HC1.out); rintro e w18 ⟨rfl,hb⟩; have n0_:=Aside0.mk (AP (g:=gb450) (o:= .cells #[.int .i64 A8,.slice A0_1 l0_1.length c0_1] 24 (0,0)) zD1 hb); have n1_:=Aside0.mk (AN zB7 hb); clear BK450; clear HB; have BK450:=n0_; have HB:=n1_; clear n0_ n1_; (try clear hb); (try clear hb2); (try clear hk); (try clear hi); clear A3)); try go_wp2_with (first|((with_reducible refine Ap (N:=2) rfl ?_); refine Ar ?hg (N:=2) ?hd (cs:= #[.int .i64 A8,.slice A0_1 l0_1.length c0_1]) (t:=24) ?hr ?_; (case hd=>rfl); (case hg=>rfl); (case hr=>first|(go_simp; done)|(go_simp; rfl)); intro gb450 hg w16 hbox hb; have n0_:=Aside0.mk (AN zB hb); have n1_:=Aside0.mk (hbox); have n2_:=Aside0.mk ((by rw [hg]; exact (AQ zB):w.heap.size≤gb450)); have n3_:=Aside0.mk ((by rw [hg]; exact (AQ zB):w.heap.size≤gb450)); clear HB; have HB:=n0_; have BK450:=n1_; have GW450:=n2_; have GE450:=n3_; clear n0_ n1_ n2_ n3_; clear hb hbox hg; have hcz17_0:w16.cell? ⟨gb450,0,none⟩=some (.int .i64 A8):=(AK BK450.out 0).trans rfl; have hcz17_1:w16.cell? ⟨gb450,1,none⟩=some (.slice A0_1 l0_1.length c0_1):=(AK BK450.out 1).trans rfl; have hfz17_0:=AJ BK450.out 0; have hfz17_1:=AJ BK450.out 1)|(go_at_call 56; (with_reducible refine (AW.calls k A8 _ _ l0_1 _ _ l1 t451 _ ?side1 ?side2 ?side3 ?side4 A3.out).mono ?_); (case side1=>repeat (first|exact (Kd.C_below HR0_1.out HB.out)|(with_reducible refine Kd.C_alloc ?_ _)|(with_reducible refine Kd.C_drewN ?_ _)|(with_reducible refine Kd.C_drew ?_))); (case side2=>exact HC0_1.out); (case side3=>repeat (first|exact (Kd.C_below HR1.out HB.out)|(with_reducible refine Kd.C_alloc ?_ _)|(with_reducible refine Kd.C_drewN ?_ _)|(with_reducible refine Kd.C_drew ?_))); (case side4=>exact HC1.out); rintro e w18 ⟨rfl,hb⟩; have n0_:=Aside0.mk (AP (g:=gb450) (o:= .cells #[.int .i64 A8,.slice A0_1 l0_1.length c0_1] 24 (0,0)) zD1 hb); have n1_:=Aside0.mk (AN zB7 hb); clear BK450; clear HB; have BK450:=n0_; have HB:=n1_; clear n0_ n1_; (try clear hb); (try clear hb2); (try clear hk); (try clear hi); clear A3)))
  go_ret2
  exact ⟨by first|rfl|(simp [AU,AT]<;>rfl)|(simp [*,AU,AT]<;>rfl),by repeat (first|(with_reducible first|exact HB.out|apply AE|apply AC|apply AD|refine AI ?_ GE450.out)|exact HB.out)⟩
end Go.Proofs.Ytdadecjefafflaa.PAll
end
section
namespace Go.Proofs.Ytdadecjefafflaa.PAll
set_option maxRecDepth 100000
open Go.RowKit Go.Proofs.YtdadecjefafflaaW.PrintWords Go.Proofs.YtdadecjefafflaaW.PrintLast Go.Proofs.YtdadecjefafflaaW.PrintMore
attribute [local go_sem] Bb BZ Bg Bf BU BT Ba BX
def Ak.l0:Nat→List (List Int)→Int→Int→Int→Int→List (S42)→Option (List Int×Int×Int)
 |0,_,_,_,_,_,_=>none
 |k+1,x5,x6,x7,x8,x456000,x456001=>if x8<(x5.length:Int) then (if 0≤x8 then ((AS.f k x456000 x456001 (Bx x5 x8)).bind fun bt462=>((B0.f k x456000 x456001 bt462.1).bind fun bt466=>(if x6<0 then (Ak.l0 k x5 x8 bt466.1 (wrap64 (x8+1)) x456000 x456001) else (if bt466.1<x7 then (Ak.l0 k x5 x8 bt466.1 (wrap64 (x8+1)) x456000 x456001) else (Ak.l0 k x5 x6 x7 (wrap64 (x8+1)) x456000 x456001))))) else (none)) else (if 0≤x6 then (if x6<(x5.length:Int) then (some (Bx x5 x6,x7,0)) else (none)) else (none))
def Ak.f (k:Nat) (A8:Int) (l0_1:List (S42)):Option (List Int×Int×Int):=(AR.f k A8 l0_1).bind fun t456=>(if t456=true then (if (l0_1.length:Int)>6 then (some (([]:List Int),0,3)) else ((Aj.f k ([]:List Int) (l0_1.length:Int)).bind fun t457=>(Ak.l0 k t457 (-1) 0 0 A8 l0_1))) else (some (([]:List Int),0,1)))
def Ak.T10:Bool×List (List Nat×List Nat):=(true,[([],[]),([],[]),([],[]),([1,2],[1,2]),([3],[3]),([0,4],[0,4]),([5],[5]),([6],[6]),([6],[6]),([7,5,0,1,2,3,4,5,6,7],[7]),([8,9,0,1,2,3,4,5,6,7,8,9],[8])])
def Ak.B10:List Nat:=[0,0,0,6,14,31,63,127,127,255,1023]
theorem Ak.tab10:rtab .any (E5 Try.f18 10)=Ak.T10:=by kernel_rfl
theorem Ak.bits10:CD Ak.T10.2 Ak.B10=true:=by kernel_rfl
set_option maxHeartbeats 8000000 in
theorem Ak.calls (k:Nat) (A8:Int) (A0_1:Option Addr) (c0_1:Nat) (l0_1:List (S42)) (r1:List Int) (r2:Int) (r3:Int) (w:World) (hr0_1:Kd.C k42 w A0_1 l0_1.length l0_1) (hc0_1:l0_1.length≤c0_1) (h:Ak.f k A8 l0_1=some (r1,r2,r3)):
  Calls Try.prog 18 #[.agg #[.int .i64 A8,.slice A0_1 l0_1.length c0_1]] w fun e w'=>∃v0_:Value,e= .returned (.tuple #[v0_,.int .i64 r2,.int .i64 r3])∧Kd.V (Kd.int .i64) 3 w' w.heap.size (fun k_=>(w.heap.size≤k_)) v0_ r1∧Below w.heap.size w w':=by
 have hu24:=Try.underlying24
 have HR0_1:=Aside0.mk hr0_1
 have HC0_1:=Aside0.mk hc0_1
 clear hr0_1 hc0_1
 have HB:=Aside0.mk (Below.refl w.heap.size w)
 have H:((AR.f k A8 l0_1).bind fun t456=>(if t456=true then (if (l0_1.length:Int)>6 then (some (([]:List Int),0,3)) else ((Aj.f k ([]:List Int) (l0_1.length:Int)).bind fun t457=>(Ak.l0 k t457 (-1) 0 0 A8 l0_1))) else (some (([]:List Int),0,1))))=some (r1,r2,r3):=h
 clear h
 replace H:=Option.bind_eq_some_iff.mp H
 obtain ⟨t456,A20,H⟩:=H
 replace H:(if t456=true then (if (l0_1.length:Int)>6 then (some (([]:List Int),0,3)) else ((Aj.f k ([]:List Int) (l0_1.length:Int)).bind fun t457=>(Ak.l0 k t457 (-1) 0 0 A8 l0_1))) else (some (([]:List Int),0,1)))=some (r1,r2,r3):=H
 have A2:=Aside0.mk A20
 clear A20
 by_cases c3:t456=true
 ·subst c3
  have H1:(if (l0_1.length:Int)>6 then (some (([]:List Int),0,3)) else ((Aj.f k ([]:List Int) (l0_1.length:Int)).bind fun t457=>(Ak.l0 k t457 (-1) 0 0 A8 l0_1)))=some (r1,r2,r3):=by rw [if_pos rfl] at H; exact H
  clear H
  have H:=H1
  clear H1
  by_cases c4:(l0_1.length:Int)>6
  ·rw [if_pos c4] at H
   have c4b0:decide (6<(l0_1.length:Int))=true:=decide_eq_true c4
   have c4b1:decide (6<l0_1.length)=true:=decide_eq_true zG
   clear c4
   simp only [Option.some.injEq,Prod.mk.injEq] at H
   obtain ⟨rfl,rfl,rfl⟩:=H
   go_enter Try.func18,Try.ntmps18
   go_wp2_with (first|((with_reducible refine Ap (N:=1) rfl ?_); refine Ar ?hg (N:=1) ?hd (cs:= #[.int .i64 A8,.slice A0_1 l0_1.length c0_1]) (t:=24) ?hr ?_; (case hd=>rfl); (case hg=>rfl); (case hr=>first|(go_simp; done)|(go_simp; rfl)); intro gb455 hg w5 hbox hb; have n0_:=Aside0.mk (AN zB hb); have n1_:=Aside0.mk (hbox); have n2_:=Aside0.mk ((by rw [hg]; exact (AQ zB):w.heap.size≤gb455)); have n3_:=Aside0.mk ((by rw [hg]; exact (AQ zB):w.heap.size≤gb455)); clear HB; have HB:=n0_; have BK455:=n1_; have GW455:=n2_; have GE455:=n3_; clear n0_ n1_ n2_ n3_; clear hb hbox hg; have hcz6_0:w5.cell? ⟨gb455,0,none⟩=some (.int .i64 A8):=(AK BK455.out 0).trans rfl; have hcz6_1:w5.cell? ⟨gb455,1,none⟩=some (.slice A0_1 l0_1.length c0_1):=(AK BK455.out 1).trans rfl; have hfz6_0:=AJ BK455.out 0; have hfz6_1:=AJ BK455.out 1)|((with_reducible refine Ae (f:=36) rfl ?_); refine B6 (some 14) rfl rfl Try.func36 zI rfl #[.agg #[.int .i64 A8,.slice A0_1 l0_1.length c0_1]] rfl zD ?_; (with_reducible refine (AR.calls k A8 _ _ l0_1 true _ ?side1 ?side2 A2.out).mono ?_); (case side1=>repeat (first|exact (Kd.C_below HR0_1.out HB.out)|(with_reducible refine Kd.C_alloc ?_ _)|(with_reducible refine Kd.C_drewN ?_ _)|(with_reducible refine Kd.C_drew ?_))); (case side2=>exact HC0_1.out); rintro e w7 ⟨rfl,hb⟩; refine ⟨_,rfl,?_⟩; have n0_:=Aside0.mk (AP (g:=gb455) (o:= .cells #[.int .i64 A8,.slice A0_1 l0_1.length c0_1] 24 (0,0)) zA7 hb); have n1_:=Aside0.mk (AN zO hb); clear BK455; clear HB; have BK455:=n0_; have HB:=n1_; clear n0_ n1_; (try clear hb); (try clear hb2); (try clear hk); (try clear hi); have hcz8_0:w7.cell? ⟨gb455,0,none⟩=some (.int .i64 A8):=(AK BK455.out 0).trans rfl; have hcz8_1:w7.cell? ⟨gb455,1,none⟩=some (.slice A0_1 l0_1.length c0_1):=(AK BK455.out 1).trans rfl; have hfz8_0:=AJ BK455.out 0; have hfz8_1:=AJ BK455.out 1))
   go_ret3
   exact ⟨_,by first|rfl|(simp [AU,AT]<;>rfl)|(simp [*,AU,AT]<;>rfl),Kd.V_nil _ _ _ _ _,by repeat (first|(with_reducible first|exact HB.out|apply AE|apply AC|apply AD|refine AI ?_ GE455.out)|exact HB.out)⟩
  ·rw [if_neg c4] at H
   have c4b0:decide (6<(l0_1.length:Int))=false:=decide_eq_false c4
   have c4b1:decide (6<l0_1.length)=false:=decide_eq_false zG
   clear c4
   replace H:=Option.bind_eq_some_iff.mp H
   obtain ⟨t457,A90,H⟩:=H
   replace H:(Ak.l0 k t457 (-1) 0 0 A8 l0_1)=some (r1,r2,r3):=H
   have A9:=Aside0.mk A90
   clear A90
   have H':=Aside0.mk H
   clear H
   go_enter Try.func18,Try.ntmps18
   go_wp2_with (first|((with_reducible refine Ap (N:=1) rfl ?_); refine Ar ?hg (N:=1) ?hd (cs:= #[.int .i64 A8,.slice A0_1 l0_1.length c0_1]) (t:=24) ?hr ?_; (case hd=>rfl); (case hg=>rfl); (case hr=>first|(go_simp; done)|(go_simp; rfl)); intro gb455 hg w10 hbox hb; have n0_:=Aside0.mk (AN zB hb); have n1_:=Aside0.mk (hbox); have n2_:=Aside0.mk ((by rw [hg]; exact (AQ zB):w.heap.size≤gb455)); have n3_:=Aside0.mk ((by rw [hg]; exact (AQ zB):w.heap.size≤gb455)); clear HB; have HB:=n0_; have BK455:=n1_; have GW455:=n2_; have GE455:=n3_; clear n0_ n1_ n2_ n3_; clear hb hbox hg; have hcz11_0:w10.cell? ⟨gb455,0,none⟩=some (.int .i64 A8):=(AK BK455.out 0).trans rfl; have hcz11_1:w10.cell? ⟨gb455,1,none⟩=some (.slice A0_1 l0_1.length c0_1):=(AK BK455.out 1).trans rfl; have hfz11_0:=AJ BK455.out 0; have hfz11_1:=AJ BK455.out 1)|((with_reducible refine Ae (f:=36) rfl ?_); refine B6 (some 14) rfl rfl Try.func36 zI rfl #[.agg #[.int .i64 A8,.slice A0_1 l0_1.length c0_1]] rfl zD ?_; (with_reducible refine (AR.calls k A8 _ _ l0_1 true _ ?side1 ?side2 A2.out).mono ?_); (case side1=>repeat (first|exact (Kd.C_below HR0_1.out HB.out)|(with_reducible refine Kd.C_alloc ?_ _)|(with_reducible refine Kd.C_drewN ?_ _)|(with_reducible refine Kd.C_drew ?_))); (case side2=>exact HC0_1.out); rintro e w12 ⟨rfl,hb⟩; refine ⟨_,rfl,?_⟩; have n0_:=Aside0.mk (AP (g:=gb455) (o:= .cells #[.int .i64 A8,.slice A0_1 l0_1.length c0_1] 24 (0,0)) zA7 hb); have n1_:=Aside0.mk (AN zO hb); clear BK455; clear HB; have BK455:=n0_; have HB:=n1_; clear n0_ n1_; (try clear hb); (try clear hb2); (try clear hk); (try clear hi); have hcz13_0:w12.cell? ⟨gb455,0,none⟩=some (.int .i64 A8):=(AK BK455.out 0).trans rfl; have hcz13_1:w12.cell? ⟨gb455,1,none⟩=some (.slice A0_1 l0_1.length c0_1):=(AK BK455.out 1).trans rfl; have hfz13_0:=AJ BK455.out 0; have hfz13_1:=AJ BK455.out 1)|((with_reducible refine Ae (f:=37) rfl ?_); refine B6 (some 23) rfl rfl Try.func37 zI rfl #[.slice none 0 0,.int .i64 (l0_1.length:Int)] rfl zD ?_; (refine (Aj.calls k _ _ ([]:List Int) (l0_1.length:Int) t457 _ ?side1 ?side2 A9.out).mono ?_); (case side1=>exact Kd.C_nil _ _); (case side2=>exact Nat.le_refl _); rintro e w14 ⟨v458,rfl,ho0,hb⟩; refine ⟨_,rfl,?_⟩; have n0_:=Aside0.mk (Kd.N_lower (Kd.N_mono (ok':=fun k_=>(w.heap.size≤k_)∧k_≠gb455) ho0 (fun k_ hk_=>⟨(Nat.le_trans (AQ zO) hk_),(Kd.freshB (g:=gb455) (o:= .cells #[.int .i64 A8,.slice A0_1 l0_1.length c0_1] 24 (0,0)) zA7 k_ hk_)⟩)) (AQ zO)); have n1_:=Aside0.mk (AP (g:=gb455) (o:= .cells #[.int .i64 A8,.slice A0_1 l0_1.length c0_1] 24 (0,0)) zA7 hb); have n2_:=Aside0.mk (AN zO hb); clear BK455; clear HB; have HO459:=n0_; have BK455:=n1_; have HB:=n2_; clear n0_ n1_ n2_; (try clear hb); (try clear hb2); (try clear hk); (try clear hi); (try clear ho0)))
   go_loopg [6,7,8] k (fun kq v6 v7 v8 w'=>∃(x6_1:Int) (x7_1:Int) (x8_1:Int),v6= .int .i64 x6_1∧v7= .int .i64 x7_1∧v8= .int .i64 x8_1∧Aside0 (Ak.l0 kq t457 x6_1 x7_1 x8_1 A8 l0_1=some (r1,r2,r3))∧Aside0 (kq≤k)∧Aside0 (Kd.N (Kd.slice 3 (Kd.int .i64)) 26 w' w.heap.size (fun k_=>(w.heap.size≤k_)∧k_≠gb455) v458 t457)∧Aside0 (w'.heap[gb455]? =some (.cells #[.int .i64 A8,(.slice A0_1 l0_1.length c0_1)] 24 (0,0)))∧Aside0 (Below w.heap.size w w'))
   case atStart=>exact ⟨((-1)),(0),(0),zF,zF,zF,H',⟨Nat.le_refl _⟩,⟨by (with_reducible repeat (first|apply Kd.N_alloc|apply Kd.N_drewN|apply Kd.N_drew)); exact HO459.out⟩,⟨by (with_reducible repeat (first|refine AF ?_ _|refine AH ?_|refine AG ?_ _)); exact BK455.out⟩,⟨by repeat (first|(with_reducible first|exact HB.out|apply AE|apply AC|apply AD|refine AI ?_ GE455.out)|exact HB.out)⟩⟩
   case round=>
    clear H'
    try clear c1
    try clear p2
    try clear c3
    try clear c4
    try clear c4b0
    try clear c4b1
    try clear hcz11_0
    try clear hcz11_1
    try clear hcz13_0
    try clear hcz13_1
    try clear hcz6_0
    try clear hcz6_1
    try clear hcz8_0
    try clear hcz8_1
    try clear hfz11_0
    try clear hfz11_1
    try clear hfz13_0
    try clear hfz13_1
    try clear hfz6_0
    try clear hfz6_1
    try clear hfz8_0
    try clear hfz8_1
    obtain ⟨x6_1,x7_1,x8_1,rfl,rfl,rfl,HA,HK1,HO_5,BK455,HB⟩:=hrel
    cases gk with
    |zero=>exact absurd HA.out (by simp [Ak.l0])
    | succ k1 =>
     have H:=HA.out
     clear HA
     simp only [Ak.l0] at H
     by_cases c15:x8_1<(t457.length:Int)
     ·rw [if_pos c15] at H
      have c15b0:decide (x8_1<(t457.length:Int))=true:=decide_eq_true c15
      clear c15
      by_cases c16:0≤x8_1
      ·rw [if_pos c16] at H
       have c16b0:decide (0≤x8_1)=true:=decide_eq_true c16
       clear c16
       replace H:=Option.bind_eq_some_iff.mp H
       obtain ⟨⟨t462,t465⟩,A170,H⟩:=H
       replace H:((B0.f k1 A8 l0_1 t462).bind fun bt466=>(if x6_1<0 then (Ak.l0 k1 t457 x8_1 bt466.1 (wrap64 (x8_1+1)) A8 l0_1) else (if bt466.1<x7_1 then (Ak.l0 k1 t457 x8_1 bt466.1 (wrap64 (x8_1+1)) A8 l0_1) else (Ak.l0 k1 t457 x6_1 x7_1 (wrap64 (x8_1+1)) A8 l0_1))))=some (r1,r2,r3):=H
       have A17:=Aside0.mk A170
       clear A170
       replace H:=Option.bind_eq_some_iff.mp H
       obtain ⟨⟨t466,t467⟩,A180,H⟩:=H
       replace H:(if x6_1<0 then (Ak.l0 k1 t457 x8_1 t466 (wrap64 (x8_1+1)) A8 l0_1) else (if t466<x7_1 then (Ak.l0 k1 t457 x8_1 t466 (wrap64 (x8_1+1)) A8 l0_1) else (Ak.l0 k1 t457 x6_1 x7_1 (wrap64 (x8_1+1)) A8 l0_1)))=some (r1,r2,r3):=H
       have A18:=Aside0.mk A180
       clear A180
       by_cases c19:x6_1<0
       ·rw [if_pos c19] at H
        have c19b0:decide (x6_1<0)=true:=decide_eq_true c19
        clear c19
        have H':=Aside0.mk H
        clear H
        obtain ⟨Ao20,co20,eo20⟩:=Kd.N_slice HO_5.out
        subst eo20
        try go_wp2
        have n0_:=Aside0.mk (Kd.N_drew HO_5.out)
        have n1_:=Aside0.mk (AH BK455.out)
        have n2_:=Aside0.mk (AD HB.out)
        clear HO_5
        clear BK455
        clear HB
        have HO_5:=n0_
        have BK455:=n1_
        have HB:=n2_
        clear n0_ n1_ n2_
        have p461:0≤(x8_1:Int):=of_decide_eq_true zA
        have q461:x8_1<(t457.length:Int):=of_decide_eq_true zA
        obtain ⟨ad461,A461_0,c461_0,e461,hx461_0,hl461_0,hi461_0⟩:=Fm (Kd.N_reads' HO_5.out).2.2 x8_1 p461 q461
        cases e461
        obtain ⟨ce461,hce461,hMe461,hcc461⟩:=Kd.N_get HO_5.out [] x8_1 p461 (by first|exact q461|exact of_decide_eq_true zA|(have e_:=(Kd.N_reads' HO_5.out).1; omega))
        obtain ⟨ua461_0,uc461_0,rfl,ul461_0,ge461_0⟩:=Kd.FK_slice_open hMe461
        have hv461_0:=hcc461 0 _ rfl
        rw [Nat.add_zero,show ((Kd.slice 3 (Kd.int .i64))).sz=1 from rfl,Nat.mul_one] at hv461_0
        replace hv461_0:=Option.some.inj (hv461_0.symm.trans hx461_0)
        injection hv461_0 with hva_ hvn_ hvc_
        rw [hva_] at ge461_0
        rw [hvc_] at ul461_0
        have HL461_0:=Aside0.mk (show Kd.V (Kd.int .i64) 3 _ w.heap.size _ _ (Bx t457 x8_1) from Kd.V_mk ul461_0 ge461_0)
        clear hva_ hvn_ hvc_ ge461_0 ul461_0
        clear hcc461 hce461
        have HR461_0:=Aside0.mk hi461_0
        have HC461_0:=Aside0.mk hl461_0
        clear hi461_0 hl461_0
        replace p461:=eq_true p461
        replace q461:=eq_true q461
        refine C4 (n:=11) (S:=fun w'=>w'.cell? ⟨gb455,0,none⟩=some (.int .i64 A8)∧w'.cell? ⟨gb455,1,none⟩=some (.slice A0_1 l0_1.length c0_1)∧w'.cell? (ad461.add (x8_1).toNat)=some (.slice A461_0 (Bx t457 x8_1).length c461_0)) (ds:=[]) #[false,false,false,false,false,false,false,false,false,false,false] zI rfl rfl ⟨(AK BK455.out 0).trans rfl,(AK BK455.out 1).trans rfl,hx461_0⟩ (fun hHeld=> ?_); refine Bp Ak.tab10 Ak.bits10 (fun HT_ HW_=> ?_)
        generalize wr.drew=w21 at HO_5 BK455 HB HL461_0 HR461_0 hx461_0 hHeld ⊢
        refine Aq (i:=1) (N:=some 32) (v:= ?_) (a':= ?_) #[false,true,false,false,false,false,false,false,false,false,false] rfl rfl (Ai HT_.out zI) (fun _ _ _ h=>h) (Or.inl ⟨by rfl,?_⟩) ?_ ?_
        rotate_left
        ·intro w'
         go_simp
         with_reducible rfl
        rotate_left
        ·simp only [Act.put,List.setIfInBounds_toArray,List.set_cons_zero,List.set_cons_succ,AZ,Ab]
         rfl
        refine Aq (i:=2) (N:=some 33) (v:= ?_) (a':= ?_) #[false,true,true,false,false,false,false,false,false,false,false] rfl rfl (Ai HT_.out zI) (fun _ _ _ h=>h) (Or.inl ⟨by rfl,?_⟩) ?_ ?_
        rotate_left
        ·intro w'
         go_simp
         with_reducible rfl
        rotate_left
        ·simp only [Act.put,List.setIfInBounds_toArray,List.set_cons_zero,List.set_cons_succ,AZ,Ab]
         rfl
        refine Aq (i:=3) (N:=some 34) (v:= ?_) (a':= ?_) #[false,true,true,true,false,false,false,false,false,false,false] rfl rfl (Ai HT_.out zI) (fun _ _ _ h=>h) (Or.inl ⟨by rfl,?_⟩) ?_ ?_
        rotate_left
        ·intro w'
         go_simp
         with_reducible rfl
        rotate_left
        ·simp only [Act.put,List.setIfInBounds_toArray,List.set_cons_zero,List.set_cons_succ,AZ,Ab]
         rfl
        refine Bd (i:=0) (N:=some 31) (v:= ?_) (a':= ?_) #[true,true,true,true,false,false,false,false,false,false,false] rfl rfl (BE HT_.out HW_.out zI) (fun _ _ _ h=>h) (Or.inl ⟨by rfl,?_⟩) hHeld ?_ ?_
        rotate_left
        ·rintro w' ⟨s0,s1,s2⟩
         go_simp
         with_reducible rfl
        rotate_left
        ·simp only [Act.put,List.setIfInBounds_toArray,List.set_cons_zero,List.set_cons_succ,AZ,Ab]
         rfl
        refine Bd (i:=4) (N:=some 35) (v:= ?_) (a':= ?_) #[true,true,true,true,true,false,false,false,false,false,false] rfl rfl (BE HT_.out HW_.out zI) (fun _ _ _ h=>h) (Or.inl ⟨by rfl,?_⟩) hHeld ?_ ?_
        rotate_left
        ·rintro w' ⟨s0,s1,s2⟩
         go_simp
         with_reducible rfl
        rotate_left
        ·simp only [Act.put,List.setIfInBounds_toArray,List.set_cons_zero,List.set_cons_succ,AZ,Ab]
         rfl
        refine one_ (i:=5) (N:=some 36) #[true,true,true,true,true,true,false,false,false,false,false] rfl rfl (CA HT_.out zI) zZ (fun K hK=> ?_)
        refine CY Try.func21 zI rfl #[.agg #[.int .i64 A8,.slice A0_1 l0_1.length c0_1],.slice A461_0 (Bx t457 x8_1).length c461_0] (by rfl) rfl rfl zD ?_
        with_reducible refine (AS.calls k1 A8 _ _ l0_1 _ _ (Bx t457 x8_1) t462 t465 _ ?side1 ?side2 ?side3 ?side4 A17.out).mono ?_
        (case side1=>repeat (first|exact (Kd.C_below HR0_1.out HB.out)|(with_reducible refine Kd.C_alloc ?_ _)|(with_reducible refine Kd.C_drewN ?_ _)|(with_reducible refine Kd.C_drew ?_)))
        (case side2=>exact HC0_1.out)
        (case side3=>repeat (first|exact zV|(with_reducible refine Kd.C_alloc ?_ _)|(with_reducible refine Kd.C_drewN ?_ _)|(with_reducible refine Kd.C_drew ?_)))
        (case side4=>exact HC461_0.out)
        rintro e w22 ⟨v463,rfl,ho0,hb⟩
        have HS2_:=(hb.cell (World.block_lt_of_cell? _ _ (hHeld.2.2))).trans (hHeld.2.2)
        refine ⟨_,rfl,?_⟩
        have n0_:=Aside0.mk (Kd.N_elder' zA1 (Kd.R_base ho0) hb)
        have n1_:=Aside0.mk (Kd.V_elder' zC1 (Kd.R_base ho0) hb)
        have n2_:=Aside0.mk (Kd.R_lower (Kd.R_newM (M:=fun k_=>(w.heap.size≤k_)) ho0 (AQ zO) (fun k_ h_=>h_)) (AQ zO))
        have n3_:=Aside0.mk (AP (g:=gb455) (o:= .cells #[.int .i64 A8,.slice A0_1 l0_1.length c0_1] 24 (0,0)) zA7 hb)
        have n4_:=Aside0.mk (Kd.C_below zV hb)
        have n5_:=Aside0.mk (AN zO hb)
        clear HO_5
        clear HL461_0
        clear BK455
        clear HR461_0
        clear HB
        have HO_5:=n0_
        have HL461_0:=n1_
        have HO464:=n2_
        have BK455:=n3_
        have HR461_0:=n4_
        have HB:=n5_
        clear n0_ n1_ n2_ n3_ n4_ n5_
        (try clear hb)
        (try clear hb2)
        (try clear hk)
        (try clear hi)
        (try clear ho0)
        refine hK.out _ _ ⟨(AK BK455.out 0).trans rfl,(AK BK455.out 1).trans rfl,HS2_⟩ (fun hHeld=> ?_)
        clear hK K
        refine CE (a':= ?_) ?_ ?_
        rotate_left
        ·show Act.put _ (some 36) _=_
         simp only [Act.put,List.setIfInBounds_toArray,List.set_cons_zero,List.set_cons_succ,AZ,Ab]
         rfl
        refine Aq (i:=6) (N:=some 30) (v:= ?_) (a':= ?_) #[true,true,true,true,true,true,true,false,false,false,false] rfl rfl (Ai HT_.out zI) (fun _ _ _ h=>h) (Or.inl ⟨by rfl,?_⟩) ?_ ?_
        rotate_left
        ·intro w'
         go_simp
         with_reducible rfl
        rotate_left
        ·simp only [Act.put,List.setIfInBounds_toArray,List.set_cons_zero,List.set_cons_succ,AZ,Ab]
         rfl
        refine Aq (i:=7) (N:=some 37) (v:= ?_) (a':= ?_) #[true,true,true,true,true,true,true,true,false,false,false] rfl rfl (Ai HT_.out zI) (fun _ _ _ h=>h) (Or.inl ⟨by rfl,?_⟩) ?_ ?_
        rotate_left
        ·intro w'
         go_simp
         with_reducible rfl
        rotate_left
        ·simp only [Act.put,List.setIfInBounds_toArray,List.set_cons_zero,List.set_cons_succ,AZ,Ab]
         rfl
        refine Aq (i:=8) (N:=some 38) (v:= ?_) (a':= ?_) #[true,true,true,true,true,true,true,true,true,false,false] rfl rfl (Ai HT_.out zI) (fun _ _ _ h=>h) (Or.inl ⟨by rfl,?_⟩) ?_ ?_
        rotate_left
        ·intro w'
         go_simp
         with_reducible rfl
        rotate_left
        ·simp only [Act.put,List.setIfInBounds_toArray,List.set_cons_zero,List.set_cons_succ,AZ,Ab]
         rfl
        refine Aq (i:=9) (N:=some 9) (v:= ?_) (a':= ?_) #[true,true,true,true,true,true,true,true,true,true,false] rfl rfl (Ai HT_.out zI) (fun _ _ _ h=>h) (Or.inl ⟨by rfl,?_⟩) ?_ ?_
        rotate_left
        ·intro w'
         go_simp
         with_reducible rfl
        rotate_left
        ·simp only [Act.put,List.setIfInBounds_toArray,List.set_cons_zero,List.set_cons_succ,AZ,Ab]
         rfl
        refine Aq (i:=10) (N:=some 10) (v:= ?_) (a':= ?_) #[true,true,true,true,true,true,true,true,true,true,true] rfl rfl (Ai HT_.out zI) (fun _ _ _ h=>h) (Or.inl ⟨by rfl,?_⟩) ?_ ?_
        rotate_left
        ·intro w'
         go_simp
         with_reducible rfl
        rotate_left
        ·simp only [Act.put,List.setIfInBounds_toArray,List.set_cons_zero,List.set_cons_succ,AZ,Ab]
         rfl
        refine CQ (C6 HT_.out zI) ?_
        have hcz23_0:w22.cell? ⟨gb455,0,none⟩=some (.int .i64 A8):=(AK BK455.out 0).trans rfl
        have hcz23_1:w22.cell? ⟨gb455,1,none⟩=some (.slice A0_1 l0_1.length c0_1):=(AK BK455.out 1).trans rfl
        have hfz23_0:=AJ BK455.out 0
        have hfz23_1:=AJ BK455.out 1
        obtain ⟨Ao24,co24,eo24⟩:=Kd.R_slice HO464.out
        subst eo24
        try go_wp2_with (first|((with_reducible refine Ae (f:=38) rfl ?_); refine B6 (some 42) rfl rfl Try.func38 zI rfl #[.agg #[.int .i64 A8,.slice A0_1 l0_1.length c0_1],.slice Ao24 t462.length co24] rfl zD ?_; (with_reducible refine (B0.calls k1 A8 _ _ l0_1 _ _ t462 t466 t467 _ ?side1 ?side2 ?side3 ?side4 A18.out).mono ?_); (case side1=>repeat (first|exact (Kd.C_below HR0_1.out HB.out)|(with_reducible refine Kd.C_alloc ?_ _)|(with_reducible refine Kd.C_drewN ?_ _)|(with_reducible refine Kd.C_drew ?_))); (case side2=>exact HC0_1.out); (case side3=>repeat (first|exact (Kd.R_reads' HO464.out).2.2|(with_reducible refine Kd.C_alloc ?_ _)|(with_reducible refine Kd.C_drewN ?_ _)|(with_reducible refine Kd.C_drew ?_))); (case side4=>exact (Kd.R_reads' HO464.out).2.1); rintro e w25 ⟨rfl,hb⟩; refine ⟨_,rfl,?_⟩; have n0_:=Aside0.mk (Kd.N_below zA1 hb); have n1_:=Aside0.mk (Kd.V_below zC1 hb); have n2_:=Aside0.mk (Kd.R_below (by (with_reducible repeat (first|apply Kd.R_alloc|apply Kd.R_drewN|apply Kd.R_drew)); exact HO464.out) hb); have n3_:=Aside0.mk (AP (g:=gb455) (o:= .cells #[.int .i64 A8,.slice A0_1 l0_1.length c0_1] 24 (0,0)) zA7 hb); have n4_:=Aside0.mk (Kd.C_below zV hb); have n5_:=Aside0.mk (AN zO hb); clear HO_5; clear HL461_0; clear HO464; clear BK455; clear HR461_0; clear HB; have HO_5:=n0_; have HL461_0:=n1_; have HO464:=n2_; have BK455:=n3_; have HR461_0:=n4_; have HB:=n5_; clear n0_ n1_ n2_ n3_ n4_ n5_; (try clear hb); (try clear hb2); (try clear hk); (try clear hi)))
        go_roundg k1
        case measure=>have:=HK1.out; omega
        case rel=>exact ⟨(x8_1),(t466),(wrap64 (x8_1+1)),zF,zF,zF,H',⟨by have:=HK1.out; omega⟩,⟨by (with_reducible repeat (first|apply Kd.N_alloc|apply Kd.N_drewN|apply Kd.N_drew)); exact Kd.N_mono HO_5.out (fun _ hk=>⟨hk.1.1,hk.1.2⟩)⟩,⟨by (with_reducible repeat (first|refine AF ?_ _|refine AH ?_|refine AG ?_ _)); exact BK455.out⟩,⟨by repeat (first|(with_reducible first|exact HB.out|apply AE|apply AC|apply AD|refine AI ?_ GE455.out)|exact HB.out)⟩⟩
       ·rw [if_neg c19] at H
        have c19b0:decide (x6_1<0)=false:=decide_eq_false c19
        clear c19
        by_cases c26:t466<x7_1
        ·rw [if_pos c26] at H
         have c26b0:decide (t466<x7_1)=true:=decide_eq_true c26
         clear c26
         have H':=Aside0.mk H
         clear H
         obtain ⟨Ao27,co27,eo27⟩:=Kd.N_slice HO_5.out
         subst eo27
         try go_wp2
         have n0_:=Aside0.mk (Kd.N_drew HO_5.out)
         have n1_:=Aside0.mk (AH BK455.out)
         have n2_:=Aside0.mk (AD HB.out)
         clear HO_5
         clear BK455
         clear HB
         have HO_5:=n0_
         have BK455:=n1_
         have HB:=n2_
         clear n0_ n1_ n2_
         have p461:0≤(x8_1:Int):=of_decide_eq_true zA
         have q461:x8_1<(t457.length:Int):=of_decide_eq_true zA
         obtain ⟨ad461,A461_0,c461_0,e461,hx461_0,hl461_0,hi461_0⟩:=Fm (Kd.N_reads' HO_5.out).2.2 x8_1 p461 q461
         cases e461
         obtain ⟨ce461,hce461,hMe461,hcc461⟩:=Kd.N_get HO_5.out [] x8_1 p461 (by first|exact q461|exact of_decide_eq_true zA|(have e_:=(Kd.N_reads' HO_5.out).1; omega))
         obtain ⟨ua461_0,uc461_0,rfl,ul461_0,ge461_0⟩:=Kd.FK_slice_open hMe461
         have hv461_0:=hcc461 0 _ rfl
         rw [Nat.add_zero,show ((Kd.slice 3 (Kd.int .i64))).sz=1 from rfl,Nat.mul_one] at hv461_0
         replace hv461_0:=Option.some.inj (hv461_0.symm.trans hx461_0)
         injection hv461_0 with hva_ hvn_ hvc_
         rw [hva_] at ge461_0
         rw [hvc_] at ul461_0
         have HL461_0:=Aside0.mk (show Kd.V (Kd.int .i64) 3 _ w.heap.size _ _ (Bx t457 x8_1) from Kd.V_mk ul461_0 ge461_0)
         clear hva_ hvn_ hvc_ ge461_0 ul461_0
         clear hcc461 hce461
         have HR461_0:=Aside0.mk hi461_0
         have HC461_0:=Aside0.mk hl461_0
         clear hi461_0 hl461_0
         replace p461:=eq_true p461
         replace q461:=eq_true q461
         refine C4 (n:=11) (S:=fun w'=>w'.cell? ⟨gb455,0,none⟩=some (.int .i64 A8)∧w'.cell? ⟨gb455,1,none⟩=some (.slice A0_1 l0_1.length c0_1)∧w'.cell? (ad461.add (x8_1).toNat)=some (.slice A461_0 (Bx t457 x8_1).length c461_0)) (ds:=[]) #[false,false,false,false,false,false,false,false,false,false,false] zI rfl rfl ⟨(AK BK455.out 0).trans rfl,(AK BK455.out 1).trans rfl,hx461_0⟩ (fun hHeld=> ?_); refine Bp Ak.tab10 Ak.bits10 (fun HT_ HW_=> ?_)
         generalize wr.drew=w28 at HO_5 BK455 HB HL461_0 HR461_0 hx461_0 hHeld ⊢
         refine Aq (i:=1) (N:=some 32) (v:= ?_) (a':= ?_) #[false,true,false,false,false,false,false,false,false,false,false] rfl rfl (Ai HT_.out zI) (fun _ _ _ h=>h) (Or.inl ⟨by rfl,?_⟩) ?_ ?_
         rotate_left
         ·intro w'
          go_simp
          with_reducible rfl
         rotate_left
         ·simp only [Act.put,List.setIfInBounds_toArray,List.set_cons_zero,List.set_cons_succ,AZ,Ab]
          rfl
         refine Aq (i:=2) (N:=some 33) (v:= ?_) (a':= ?_) #[false,true,true,false,false,false,false,false,false,false,false] rfl rfl (Ai HT_.out zI) (fun _ _ _ h=>h) (Or.inl ⟨by rfl,?_⟩) ?_ ?_
         rotate_left
         ·intro w'
          go_simp
          with_reducible rfl
         rotate_left
         ·simp only [Act.put,List.setIfInBounds_toArray,List.set_cons_zero,List.set_cons_succ,AZ,Ab]
          rfl
         refine Aq (i:=3) (N:=some 34) (v:= ?_) (a':= ?_) #[false,true,true,true,false,false,false,false,false,false,false] rfl rfl (Ai HT_.out zI) (fun _ _ _ h=>h) (Or.inl ⟨by rfl,?_⟩) ?_ ?_
         rotate_left
         ·intro w'
          go_simp
          with_reducible rfl
         rotate_left
         ·simp only [Act.put,List.setIfInBounds_toArray,List.set_cons_zero,List.set_cons_succ,AZ,Ab]
          rfl
         refine Bd (i:=0) (N:=some 31) (v:= ?_) (a':= ?_) #[true,true,true,true,false,false,false,false,false,false,false] rfl rfl (BE HT_.out HW_.out zI) (fun _ _ _ h=>h) (Or.inl ⟨by rfl,?_⟩) hHeld ?_ ?_
         rotate_left
         ·rintro w' ⟨s0,s1,s2⟩
          go_simp
          with_reducible rfl
         rotate_left
         ·simp only [Act.put,List.setIfInBounds_toArray,List.set_cons_zero,List.set_cons_succ,AZ,Ab]
          rfl
         refine Bd (i:=4) (N:=some 35) (v:= ?_) (a':= ?_) #[true,true,true,true,true,false,false,false,false,false,false] rfl rfl (BE HT_.out HW_.out zI) (fun _ _ _ h=>h) (Or.inl ⟨by rfl,?_⟩) hHeld ?_ ?_
         rotate_left
         ·rintro w' ⟨s0,s1,s2⟩
          go_simp
          with_reducible rfl
         rotate_left
         ·simp only [Act.put,List.setIfInBounds_toArray,List.set_cons_zero,List.set_cons_succ,AZ,Ab]
          rfl
         refine one_ (i:=5) (N:=some 36) #[true,true,true,true,true,true,false,false,false,false,false] rfl rfl (CA HT_.out zI) zZ (fun K hK=> ?_)
         refine CY Try.func21 zI rfl #[.agg #[.int .i64 A8,.slice A0_1 l0_1.length c0_1],.slice A461_0 (Bx t457 x8_1).length c461_0] (by rfl) rfl rfl zD ?_
         with_reducible refine (AS.calls k1 A8 _ _ l0_1 _ _ (Bx t457 x8_1) t462 t465 _ ?side1 ?side2 ?side3 ?side4 A17.out).mono ?_
         (case side1=>repeat (first|exact (Kd.C_below HR0_1.out HB.out)|(with_reducible refine Kd.C_alloc ?_ _)|(with_reducible refine Kd.C_drewN ?_ _)|(with_reducible refine Kd.C_drew ?_)))
         (case side2=>exact HC0_1.out)
         (case side3=>repeat (first|exact zV|(with_reducible refine Kd.C_alloc ?_ _)|(with_reducible refine Kd.C_drewN ?_ _)|(with_reducible refine Kd.C_drew ?_)))
         (case side4=>exact HC461_0.out)
         rintro e w29 ⟨v463,rfl,ho0,hb⟩
         have HS2_:=(hb.cell (World.block_lt_of_cell? _ _ (hHeld.2.2))).trans (hHeld.2.2)
         refine ⟨_,rfl,?_⟩
         have n0_:=Aside0.mk (Kd.N_elder' zA1 (Kd.R_base ho0) hb)
         have n1_:=Aside0.mk (Kd.V_elder' zC1 (Kd.R_base ho0) hb)
         have n2_:=Aside0.mk (Kd.R_lower (Kd.R_newM (M:=fun k_=>(w.heap.size≤k_)) ho0 (AQ zO) (fun k_ h_=>h_)) (AQ zO))
         have n3_:=Aside0.mk (AP (g:=gb455) (o:= .cells #[.int .i64 A8,.slice A0_1 l0_1.length c0_1] 24 (0,0)) zA7 hb)
         have n4_:=Aside0.mk (Kd.C_below zV hb)
         have n5_:=Aside0.mk (AN zO hb)
         clear HO_5
         clear HL461_0
         clear BK455
         clear HR461_0
         clear HB
         have HO_5:=n0_
         have HL461_0:=n1_
         have HO464:=n2_
         have BK455:=n3_
         have HR461_0:=n4_
         have HB:=n5_
         clear n0_ n1_ n2_ n3_ n4_ n5_
         (try clear hb)
         (try clear hb2)
         (try clear hk)
         (try clear hi)
         (try clear ho0)
         refine hK.out _ _ ⟨(AK BK455.out 0).trans rfl,(AK BK455.out 1).trans rfl,HS2_⟩ (fun hHeld=> ?_)
         clear hK K
         refine CE (a':= ?_) ?_ ?_
         rotate_left
         ·show Act.put _ (some 36) _=_
          simp only [Act.put,List.setIfInBounds_toArray,List.set_cons_zero,List.set_cons_succ,AZ,Ab]
          rfl
         refine Aq (i:=6) (N:=some 30) (v:= ?_) (a':= ?_) #[true,true,true,true,true,true,true,false,false,false,false] rfl rfl (Ai HT_.out zI) (fun _ _ _ h=>h) (Or.inl ⟨by rfl,?_⟩) ?_ ?_
         rotate_left
         ·intro w'
          go_simp
          with_reducible rfl
         rotate_left
         ·simp only [Act.put,List.setIfInBounds_toArray,List.set_cons_zero,List.set_cons_succ,AZ,Ab]
          rfl
         refine Aq (i:=7) (N:=some 37) (v:= ?_) (a':= ?_) #[true,true,true,true,true,true,true,true,false,false,false] rfl rfl (Ai HT_.out zI) (fun _ _ _ h=>h) (Or.inl ⟨by rfl,?_⟩) ?_ ?_
         rotate_left
         ·intro w'
          go_simp
          with_reducible rfl
         rotate_left
         ·simp only [Act.put,List.setIfInBounds_toArray,List.set_cons_zero,List.set_cons_succ,AZ,Ab]
          rfl
         refine Aq (i:=8) (N:=some 38) (v:= ?_) (a':= ?_) #[true,true,true,true,true,true,true,true,true,false,false] rfl rfl (Ai HT_.out zI) (fun _ _ _ h=>h) (Or.inl ⟨by rfl,?_⟩) ?_ ?_
         rotate_left
         ·intro w'
          go_simp
          with_reducible rfl
         rotate_left
         ·simp only [Act.put,List.setIfInBounds_toArray,List.set_cons_zero,List.set_cons_succ,AZ,Ab]
          rfl
         refine Aq (i:=9) (N:=some 9) (v:= ?_) (a':= ?_) #[true,true,true,true,true,true,true,true,true,true,false] rfl rfl (Ai HT_.out zI) (fun _ _ _ h=>h) (Or.inl ⟨by rfl,?_⟩) ?_ ?_
         rotate_left
         ·intro w'
          go_simp
          with_reducible rfl
         rotate_left
         ·simp only [Act.put,List.setIfInBounds_toArray,List.set_cons_zero,List.set_cons_succ,AZ,Ab]
          rfl
         refine Aq (i:=10) (N:=some 10) (v:= ?_) (a':= ?_) #[true,true,true,true,true,true,true,true,true,true,true] rfl rfl (Ai HT_.out zI) (fun _ _ _ h=>h) (Or.inl ⟨by rfl,?_⟩) ?_ ?_
         rotate_left
         ·intro w'
          go_simp
          with_reducible rfl
         rotate_left
         ·simp only [Act.put,List.setIfInBounds_toArray,List.set_cons_zero,List.set_cons_succ,AZ,Ab]
          rfl
         refine CQ (C6 HT_.out zI) ?_
         have hcz30_0:w29.cell? ⟨gb455,0,none⟩=some (.int .i64 A8):=(AK BK455.out 0).trans rfl
         have hcz30_1:w29.cell? ⟨gb455,1,none⟩=some (.slice A0_1 l0_1.length c0_1):=(AK BK455.out 1).trans rfl
         have hfz30_0:=AJ BK455.out 0
         have hfz30_1:=AJ BK455.out 1
         obtain ⟨Ao31,co31,eo31⟩:=Kd.R_slice HO464.out
         subst eo31
         try go_wp2_with (first|((with_reducible refine Ae (f:=38) rfl ?_); refine B6 (some 42) rfl rfl Try.func38 zI rfl #[.agg #[.int .i64 A8,.slice A0_1 l0_1.length c0_1],.slice Ao31 t462.length co31] rfl zD ?_; (with_reducible refine (B0.calls k1 A8 _ _ l0_1 _ _ t462 t466 t467 _ ?side1 ?side2 ?side3 ?side4 A18.out).mono ?_); (case side1=>repeat (first|exact (Kd.C_below HR0_1.out HB.out)|(with_reducible refine Kd.C_alloc ?_ _)|(with_reducible refine Kd.C_drewN ?_ _)|(with_reducible refine Kd.C_drew ?_))); (case side2=>exact HC0_1.out); (case side3=>repeat (first|exact (Kd.R_reads' HO464.out).2.2|(with_reducible refine Kd.C_alloc ?_ _)|(with_reducible refine Kd.C_drewN ?_ _)|(with_reducible refine Kd.C_drew ?_))); (case side4=>exact (Kd.R_reads' HO464.out).2.1); rintro e w32 ⟨rfl,hb⟩; refine ⟨_,rfl,?_⟩; have n0_:=Aside0.mk (Kd.N_below zA1 hb); have n1_:=Aside0.mk (Kd.V_below zC1 hb); have n2_:=Aside0.mk (Kd.R_below (by (with_reducible repeat (first|apply Kd.R_alloc|apply Kd.R_drewN|apply Kd.R_drew)); exact HO464.out) hb); have n3_:=Aside0.mk (AP (g:=gb455) (o:= .cells #[.int .i64 A8,.slice A0_1 l0_1.length c0_1] 24 (0,0)) zA7 hb); have n4_:=Aside0.mk (Kd.C_below zV hb); have n5_:=Aside0.mk (AN zO hb); clear HO_5; clear HL461_0; clear HO464; clear BK455; clear HR461_0; clear HB; have HO_5:=n0_; have HL461_0:=n1_; have HO464:=n2_; have BK455:=n3_; have HR461_0:=n4_; have HB:=n5_; clear n0_ n1_ n2_ n3_ n4_ n5_; (try clear hb); (try clear hb2); (try clear hk); (try clear hi)))
         go_roundg k1
         case measure=>have:=HK1.out; omega
         case rel=>exact ⟨(x8_1),(t466),(wrap64 (x8_1+1)),zF,zF,zF,H',⟨by have:=HK1.out; omega⟩,⟨by (with_reducible repeat (first|apply Kd.N_alloc|apply Kd.N_drewN|apply Kd.N_drew)); exact Kd.N_mono HO_5.out (fun _ hk=>⟨hk.1.1,hk.1.2⟩)⟩,⟨by (with_reducible repeat (first|refine AF ?_ _|refine AH ?_|refine AG ?_ _)); exact BK455.out⟩,⟨by repeat (first|(with_reducible first|exact HB.out|apply AE|apply AC|apply AD|refine AI ?_ GE455.out)|exact HB.out)⟩⟩
        ·rw [if_neg c26] at H
         have c26b0:decide (t466<x7_1)=false:=decide_eq_false c26
         clear c26
         have H':=Aside0.mk H
         clear H
         obtain ⟨Ao33,co33,eo33⟩:=Kd.N_slice HO_5.out
         subst eo33
         try go_wp2
         have n0_:=Aside0.mk (Kd.N_drew HO_5.out)
         have n1_:=Aside0.mk (AH BK455.out)
         have n2_:=Aside0.mk (AD HB.out)
         clear HO_5
         clear BK455
         clear HB
         have HO_5:=n0_
         have BK455:=n1_
         have HB:=n2_
         clear n0_ n1_ n2_
         have p461:0≤(x8_1:Int):=of_decide_eq_true zA
         have q461:x8_1<(t457.length:Int):=of_decide_eq_true zA
         obtain ⟨ad461,A461_0,c461_0,e461,hx461_0,hl461_0,hi461_0⟩:=Fm (Kd.N_reads' HO_5.out).2.2 x8_1 p461 q461
         cases e461
         obtain ⟨ce461,hce461,hMe461,hcc461⟩:=Kd.N_get HO_5.out [] x8_1 p461 (by first|exact q461|exact of_decide_eq_true zA|(have e_:=(Kd.N_reads' HO_5.out).1; omega))
         obtain ⟨ua461_0,uc461_0,rfl,ul461_0,ge461_0⟩:=Kd.FK_slice_open hMe461
         have hv461_0:=hcc461 0 _ rfl
         rw [Nat.add_zero,show ((Kd.slice 3 (Kd.int .i64))).sz=1 from rfl,Nat.mul_one] at hv461_0
         replace hv461_0:=Option.some.inj (hv461_0.symm.trans hx461_0)
         injection hv461_0 with hva_ hvn_ hvc_
         rw [hva_] at ge461_0
         rw [hvc_] at ul461_0
         have HL461_0:=Aside0.mk (show Kd.V (Kd.int .i64) 3 _ w.heap.size _ _ (Bx t457 x8_1) from Kd.V_mk ul461_0 ge461_0)
         clear hva_ hvn_ hvc_ ge461_0 ul461_0
         clear hcc461 hce461
         have HR461_0:=Aside0.mk hi461_0
         have HC461_0:=Aside0.mk hl461_0
         clear hi461_0 hl461_0
         replace p461:=eq_true p461
         replace q461:=eq_true q461
         refine C4 (n:=11) (S:=fun w'=>w'.cell? ⟨gb455,0,none⟩=some (.int .i64 A8)∧w'.cell? ⟨gb455,1,none⟩=some (.slice A0_1 l0_1.length c0_1)∧w'.cell? (ad461.add (x8_1).toNat)=some (.slice A461_0 (Bx t457 x8_1).length c461_0)) (ds:=[]) #[false,false,false,false,false,false,false,false,false,false,false] zI rfl rfl ⟨(AK BK455.out 0).trans rfl,(AK BK455.out 1).trans rfl,hx461_0⟩ (fun hHeld=> ?_); refine Bp Ak.tab10 Ak.bits10 (fun HT_ HW_=> ?_)
         generalize wr.drew=w34 at HO_5 BK455 HB HL461_0 HR461_0 hx461_0 hHeld ⊢
         refine Aq (i:=1) (N:=some 32) (v:= ?_) (a':= ?_) #[false,true,false,false,false,false,false,false,false,false,false] rfl rfl (Ai HT_.out zI) (fun _ _ _ h=>h) (Or.inl ⟨by rfl,?_⟩) ?_ ?_
         rotate_left
         ·intro w'
          go_simp
          with_reducible rfl
         rotate_left
         ·simp only [Act.put,List.setIfInBounds_toArray,List.set_cons_zero,List.set_cons_succ,AZ,Ab]
          rfl
         refine Aq (i:=2) (N:=some 33) (v:= ?_) (a':= ?_) #[false,true,true,false,false,false,false,false,false,false,false] rfl rfl (Ai HT_.out zI) (fun _ _ _ h=>h) (Or.inl ⟨by rfl,?_⟩) ?_ ?_
         rotate_left
         ·intro w'
          go_simp
          with_reducible rfl
         rotate_left
         ·simp only [Act.put,List.setIfInBounds_toArray,List.set_cons_zero,List.set_cons_succ,AZ,Ab]
          rfl
         refine Aq (i:=3) (N:=some 34) (v:= ?_) (a':= ?_) #[false,true,true,true,false,false,false,false,false,false,false] rfl rfl (Ai HT_.out zI) (fun _ _ _ h=>h) (Or.inl ⟨by rfl,?_⟩) ?_ ?_
         rotate_left
         ·intro w'
          go_simp
          with_reducible rfl
         rotate_left
         ·simp only [Act.put,List.setIfInBounds_toArray,List.set_cons_zero,List.set_cons_succ,AZ,Ab]
          rfl
         refine Bd (i:=0) (N:=some 31) (v:= ?_) (a':= ?_) #[true,true,true,true,false,false,false,false,false,false,false] rfl rfl (BE HT_.out HW_.out zI) (fun _ _ _ h=>h) (Or.inl ⟨by rfl,?_⟩) hHeld ?_ ?_
         rotate_left
         ·rintro w' ⟨s0,s1,s2⟩
          go_simp
          with_reducible rfl
         rotate_left
         ·simp only [Act.put,List.setIfInBounds_toArray,List.set_cons_zero,List.set_cons_succ,AZ,Ab]
          rfl
         refine Bd (i:=4) (N:=some 35) (v:= ?_) (a':= ?_) #[true,true,true,true,true,false,false,false,false,false,false] rfl rfl (BE HT_.out HW_.out zI) (fun _ _ _ h=>h) (Or.inl ⟨by rfl,?_⟩) hHeld ?_ ?_
         rotate_left
         ·rintro w' ⟨s0,s1,s2⟩
          go_simp
          with_reducible rfl
         rotate_left
         ·simp only [Act.put,List.setIfInBounds_toArray,List.set_cons_zero,List.set_cons_succ,AZ,Ab]
          rfl
         refine one_ (i:=5) (N:=some 36) #[true,true,true,true,true,true,false,false,false,false,false] rfl rfl (CA HT_.out zI) zZ (fun K hK=> ?_)
         refine CY Try.func21 zI rfl #[.agg #[.int .i64 A8,.slice A0_1 l0_1.length c0_1],.slice A461_0 (Bx t457 x8_1).length c461_0] (by rfl) rfl rfl zD ?_
         with_reducible refine (AS.calls k1 A8 _ _ l0_1 _ _ (Bx t457 x8_1) t462 t465 _ ?side1 ?side2 ?side3 ?side4 A17.out).mono ?_
         (case side1=>repeat (first|exact (Kd.C_below HR0_1.out HB.out)|(with_reducible refine Kd.C_alloc ?_ _)|(with_reducible refine Kd.C_drewN ?_ _)|(with_reducible refine Kd.C_drew ?_)))
         (case side2=>exact HC0_1.out)
         (case side3=>repeat (first|exact zV|(with_reducible refine Kd.C_alloc ?_ _)|(with_reducible refine Kd.C_drewN ?_ _)|(with_reducible refine Kd.C_drew ?_)))
         (case side4=>exact HC461_0.out)
         rintro e w35 ⟨v463,rfl,ho0,hb⟩
         have HS2_:=(hb.cell (World.block_lt_of_cell? _ _ (hHeld.2.2))).trans (hHeld.2.2)
         refine ⟨_,rfl,?_⟩
         have n0_:=Aside0.mk (Kd.N_elder' zA1 (Kd.R_base ho0) hb)
         have n1_:=Aside0.mk (Kd.V_elder' zC1 (Kd.R_base ho0) hb)
         have n2_:=Aside0.mk (Kd.R_lower (Kd.R_newM (M:=fun k_=>(w.heap.size≤k_)) ho0 (AQ zO) (fun k_ h_=>h_)) (AQ zO))
         have n3_:=Aside0.mk (AP (g:=gb455) (o:= .cells #[.int .i64 A8,.slice A0_1 l0_1.length c0_1] 24 (0,0)) zA7 hb)
         have n4_:=Aside0.mk (Kd.C_below zV hb)
         have n5_:=Aside0.mk (AN zO hb)
         clear HO_5
         clear HL461_0
         clear BK455
         clear HR461_0
         clear HB
         have HO_5:=n0_
         have HL461_0:=n1_
         have HO464:=n2_
         have BK455:=n3_
         have HR461_0:=n4_
         have HB:=n5_
         clear n0_ n1_ n2_ n3_ n4_ n5_
         (try clear hb)
         (try clear hb2)
         (try clear hk)
         (try clear hi)
         (try clear ho0)
         refine hK.out _ _ ⟨(AK BK455.out 0).trans rfl,(AK BK455.out 1).trans rfl,HS2_⟩ (fun hHeld=> ?_)
         clear hK K
         refine CE (a':= ?_) ?_ ?_
         rotate_left
         ·show Act.put _ (some 36) _=_
          simp only [Act.put,List.setIfInBounds_toArray,List.set_cons_zero,List.set_cons_succ,AZ,Ab]
          rfl
         refine Aq (i:=6) (N:=some 30) (v:= ?_) (a':= ?_) #[true,true,true,true,true,true,true,false,false,false,false] rfl rfl (Ai HT_.out zI) (fun _ _ _ h=>h) (Or.inl ⟨by rfl,?_⟩) ?_ ?_
         rotate_left
         ·intro w'
          go_simp
          with_reducible rfl
         rotate_left
         ·simp only [Act.put,List.setIfInBounds_toArray,List.set_cons_zero,List.set_cons_succ,AZ,Ab]
          rfl
         refine Aq (i:=7) (N:=some 37) (v:= ?_) (a':= ?_) #[true,true,true,true,true,true,true,true,false,false,false] rfl rfl (Ai HT_.out zI) (fun _ _ _ h=>h) (Or.inl ⟨by rfl,?_⟩) ?_ ?_
         rotate_left
         ·intro w'
          go_simp
          with_reducible rfl
         rotate_left
         ·simp only [Act.put,List.setIfInBounds_toArray,List.set_cons_zero,List.set_cons_succ,AZ,Ab]
          rfl
         refine Aq (i:=8) (N:=some 38) (v:= ?_) (a':= ?_) #[true,true,true,true,true,true,true,true,true,false,false] rfl rfl (Ai HT_.out zI) (fun _ _ _ h=>h) (Or.inl ⟨by rfl,?_⟩) ?_ ?_
         rotate_left
         ·intro w'
          go_simp
          with_reducible rfl
         rotate_left
         ·simp only [Act.put,List.setIfInBounds_toArray,List.set_cons_zero,List.set_cons_succ,AZ,Ab]
          rfl
         refine Aq (i:=9) (N:=some 9) (v:= ?_) (a':= ?_) #[true,true,true,true,true,true,true,true,true,true,false] rfl rfl (Ai HT_.out zI) (fun _ _ _ h=>h) (Or.inl ⟨by rfl,?_⟩) ?_ ?_
         rotate_left
         ·intro w'
          go_simp
          with_reducible rfl
         rotate_left
         ·simp only [Act.put,List.setIfInBounds_toArray,List.set_cons_zero,List.set_cons_succ,AZ,Ab]
          rfl
         refine Aq (i:=10) (N:=some 10) (v:= ?_) (a':= ?_) #[true,true,true,true,true,true,true,true,true,true,true] rfl rfl (Ai HT_.out zI) (fun _ _ _ h=>h) (Or.inl ⟨by rfl,?_⟩) ?_ ?_
         rotate_left
         ·intro w'
          go_simp
          with_reducible rfl
         rotate_left
         ·simp only [Act.put,List.setIfInBounds_toArray,List.set_cons_zero,List.set_cons_succ,AZ,Ab]
          rfl
         refine CQ (C6 HT_.out zI) ?_
         have hcz36_0:w35.cell? ⟨gb455,0,none⟩=some (.int .i64 A8):=(AK BK455.out 0).trans rfl
         have hcz36_1:w35.cell? ⟨gb455,1,none⟩=some (.slice A0_1 l0_1.length c0_1):=(AK BK455.out 1).trans rfl
         have hfz36_0:=AJ BK455.out 0
         have hfz36_1:=AJ BK455.out 1
         obtain ⟨Ao37,co37,eo37⟩:=Kd.R_slice HO464.out
         subst eo37
         try go_wp2_with (first|((with_reducible refine Ae (f:=38) rfl ?_); refine B6 (some 42) rfl rfl Try.func38 zI rfl #[.agg #[.int .i64 A8,.slice A0_1 l0_1.length c0_1],.slice Ao37 t462.length co37] rfl zD ?_; (with_reducible refine (B0.calls k1 A8 _ _ l0_1 _ _ t462 t466 t467 _ ?side1 ?side2 ?side3 ?side4 A18.out).mono ?_); (case side1=>repeat (first|exact (Kd.C_below HR0_1.out HB.out)|(with_reducible refine Kd.C_alloc ?_ _)|(with_reducible refine Kd.C_drewN ?_ _)|(with_reducible refine Kd.C_drew ?_))); (case side2=>exact HC0_1.out); (case side3=>repeat (first|exact (Kd.R_reads' HO464.out).2.2|(with_reducible refine Kd.C_alloc ?_ _)|(with_reducible refine Kd.C_drewN ?_ _)|(with_reducible refine Kd.C_drew ?_))); (case side4=>exact (Kd.R_reads' HO464.out).2.1); rintro e w38 ⟨rfl,hb⟩; refine ⟨_,rfl,?_⟩; have n0_:=Aside0.mk (Kd.N_below zA1 hb); have n1_:=Aside0.mk (Kd.V_below zC1 hb); have n2_:=Aside0.mk (Kd.R_below (by (with_reducible repeat (first|apply Kd.R_alloc|apply Kd.R_drewN|apply Kd.R_drew)); exact HO464.out) hb); have n3_:=Aside0.mk (AP (g:=gb455) (o:= .cells #[.int .i64 A8,.slice A0_1 l0_1.length c0_1] 24 (0,0)) zA7 hb); have n4_:=Aside0.mk (Kd.C_below zV hb); have n5_:=Aside0.mk (AN zO hb); clear HO_5; clear HL461_0; clear HO464; clear BK455; clear HR461_0; clear HB; have HO_5:=n0_; have HL461_0:=n1_; have HO464:=n2_; have BK455:=n3_; have HR461_0:=n4_; have HB:=n5_; clear n0_ n1_ n2_ n3_ n4_ n5_; (try clear hb); (try clear hb2); (try clear hk); (try clear hi)))
         go_roundg k1
         case measure=>have:=HK1.out; omega
         case rel=>exact ⟨(x6_1),(x7_1),(wrap64 (x8_1+1)),zF,zF,zF,H',⟨by have:=HK1.out; omega⟩,⟨by (with_reducible repeat (first|apply Kd.N_alloc|apply Kd.N_drewN|apply Kd.N_drew)); exact Kd.N_mono HO_5.out (fun _ hk=>⟨hk.1.1,hk.1.2⟩)⟩,⟨by (with_reducible repeat (first|refine AF ?_ _|refine AH ?_|refine AG ?_ _)); exact BK455.out⟩,⟨by repeat (first|(with_reducible first|exact HB.out|apply AE|apply AC|apply AD|refine AI ?_ GE455.out)|exact HB.out)⟩⟩
      ·rw [if_neg c16] at H
       exact absurd H zY
     ·rw [if_neg c15] at H
      have c15b0:decide (x8_1<(t457.length:Int))=false:=decide_eq_false c15
      clear c15
      by_cases c39:0≤x6_1
      ·rw [if_pos c39] at H
       have c39b0:decide (0≤x6_1)=true:=decide_eq_true c39
       clear c39
       by_cases c40:x6_1<(t457.length:Int)
       ·rw [if_pos c40] at H
        have c40b0:decide (x6_1<(t457.length:Int))=true:=decide_eq_true c40
        clear c40
        simp only [Option.some.injEq,Prod.mk.injEq] at H
        obtain ⟨rfl,rfl,rfl⟩:=H
        obtain ⟨Ao41,co41,eo41⟩:=Kd.N_slice HO_5.out
        subst eo41
        have p460:0≤(x6_1:Int):=of_decide_eq_true zA
        have q460:x6_1<(t457.length:Int):=of_decide_eq_true zA
        obtain ⟨ad460,A460_0,c460_0,e460,hx460_0,hl460_0,hi460_0⟩:=Fm (Kd.N_reads' HO_5.out).2.2 x6_1 p460 q460
        cases e460
        obtain ⟨ce460,hce460,hMe460,hcc460⟩:=Kd.N_get HO_5.out [] x6_1 p460 (by first|exact q460|exact of_decide_eq_true zA|(have e_:=(Kd.N_reads' HO_5.out).1; omega))
        obtain ⟨ua460_0,uc460_0,rfl,ul460_0,ge460_0⟩:=Kd.FK_slice_open hMe460
        have hv460_0:=hcc460 0 _ rfl
        rw [Nat.add_zero,show ((Kd.slice 3 (Kd.int .i64))).sz=1 from rfl,Nat.mul_one] at hv460_0
        replace hv460_0:=Option.some.inj (hv460_0.symm.trans hx460_0)
        injection hv460_0 with hva_ hvn_ hvc_
        rw [hva_] at ge460_0
        rw [hvc_] at ul460_0
        have HL460_0:=Aside0.mk (show Kd.V (Kd.int .i64) 3 _ w.heap.size _ _ (Bx t457 x6_1) from Kd.V_mk ul460_0 ge460_0)
        clear hva_ hvn_ hvc_ ge460_0 ul460_0
        clear hcc460 hce460
        have HR460_0:=Aside0.mk hi460_0
        have HC460_0:=Aside0.mk hl460_0
        clear hi460_0 hl460_0
        replace p460:=eq_true p460
        replace q460:=eq_true q460
        go_wp2
        go_ret3
        exact ⟨_,by first|rfl|(simp [AU,AT]<;>rfl)|(simp [*,AU,AT]<;>rfl),by (with_reducible repeat (first|apply Kd.V_alloc|apply Kd.V_drewN|apply Kd.V_drew)); exact Kd.V_mono HL460_0.out (fun _ hk=>hk.1.1),by repeat (first|(with_reducible first|exact HB.out|apply AE|apply AC|apply AD|refine AI ?_ GE455.out)|exact HB.out)⟩
       ·rw [if_neg c40] at H
        exact absurd H zY
      ·rw [if_neg c39] at H
       exact absurd H zY
 ·replace c3:=Bool.eq_false_iff.mpr c3
  subst c3
  have H1:(some (([]:List Int),0,1))=some (r1,r2,r3):=by rw [if_neg (show ¬(false=true) by decide)] at H; exact H
  clear H
  have H:=H1
  clear H1
  simp only [Option.some.injEq,Prod.mk.injEq] at H
  obtain ⟨rfl,rfl,rfl⟩:=H
  go_enter Try.func18,Try.ntmps18
  go_wp2_with (first|((with_reducible refine Ap (N:=1) rfl ?_); refine Ar ?hg (N:=1) ?hd (cs:= #[.int .i64 A8,.slice A0_1 l0_1.length c0_1]) (t:=24) ?hr ?_; (case hd=>rfl); (case hg=>rfl); (case hr=>first|(go_simp; done)|(go_simp; rfl)); intro gb455 hg w42 hbox hb; have n0_:=Aside0.mk (AN zB hb); have n1_:=Aside0.mk (hbox); have n2_:=Aside0.mk ((by rw [hg]; exact (AQ zB):w.heap.size≤gb455)); have n3_:=Aside0.mk ((by rw [hg]; exact (AQ zB):w.heap.size≤gb455)); clear HB; have HB:=n0_; have BK455:=n1_; have GW455:=n2_; have GE455:=n3_; clear n0_ n1_ n2_ n3_; clear hb hbox hg; have hcz43_0:w42.cell? ⟨gb455,0,none⟩=some (.int .i64 A8):=(AK BK455.out 0).trans rfl; have hcz43_1:w42.cell? ⟨gb455,1,none⟩=some (.slice A0_1 l0_1.length c0_1):=(AK BK455.out 1).trans rfl; have hfz43_0:=AJ BK455.out 0; have hfz43_1:=AJ BK455.out 1)|((with_reducible refine Ae (f:=36) rfl ?_); refine B6 (some 14) rfl rfl Try.func36 zI rfl #[.agg #[.int .i64 A8,.slice A0_1 l0_1.length c0_1]] rfl zD ?_; (with_reducible refine (AR.calls k A8 _ _ l0_1 false _ ?side1 ?side2 A2.out).mono ?_); (case side1=>repeat (first|exact (Kd.C_below HR0_1.out HB.out)|(with_reducible refine Kd.C_alloc ?_ _)|(with_reducible refine Kd.C_drewN ?_ _)|(with_reducible refine Kd.C_drew ?_))); (case side2=>exact HC0_1.out); rintro e w44 ⟨rfl,hb⟩; refine ⟨_,rfl,?_⟩; have n0_:=Aside0.mk (AP (g:=gb455) (o:= .cells #[.int .i64 A8,.slice A0_1 l0_1.length c0_1] 24 (0,0)) zA7 hb); have n1_:=Aside0.mk (AN zO hb); clear BK455; clear HB; have BK455:=n0_; have HB:=n1_; clear n0_ n1_; (try clear hb); (try clear hb2); (try clear hk); (try clear hi)))
  go_ret3
  exact ⟨_,by first|rfl|(simp [AU,AT]<;>rfl)|(simp [*,AU,AT]<;>rfl),Kd.V_nil _ _ _ _ _,by repeat (first|(with_reducible first|exact HB.out|apply AE|apply AC|apply AD|refine AI ?_ GE455.out)|exact HB.out)⟩
def Aw.l0:Nat→List Int→List Int→Int→Option (Bool)
 |0,_,_,_=>none
 |k+1,x0,x1,x5=>if x5<(x0.length:Int) then (if 0≤x5 then (if x5<(x1.length:Int) then (if (rd x0 x5)=(rd x1 x5) then (Aw.l0 k x0 x1 (wrap64 (x5+1))) else (some false)) else (none)) else (none)) else (some true)
def Aw.f (k:Nat) (l0:List Int) (l1:List Int):Option (Bool):=if (l0.length:Int)=(l1.length:Int) then (Aw.l0 k l0 l1 0) else (some false)
set_option maxHeartbeats 8000000 in
theorem Aw.calls (k:Nat) (A0:Option Addr) (c0:Nat) (l0:List Int) (A1:Option Addr) (c1:Nat) (l1:List Int) (r:Bool) (w:World) (hr0:Kd.C (Kd.int .i64) w A0 l0.length l0) (hc0:l0.length≤c0) (hr1:Kd.C (Kd.int .i64) w A1 l1.length l1) (hc1:l1.length≤c1) (h:Aw.f k l0 l1=some r):
  Calls Try.prog 19 #[.slice A0 l0.length c0,.slice A1 l1.length c1] w fun e w'=>e= .returned (.bool r)∧Drawn0 w w':=by
 have HR0:=Aside0.mk hr0
 have HC0:=Aside0.mk hc0
 clear hr0 hc0
 have HR1:=Aside0.mk hr1
 have HC1:=Aside0.mk hc1
 clear hr1 hc1
 have H:(if (l0.length:Int)=(l1.length:Int) then (Aw.l0 k l0 l1 0) else (some false))=some r:=h
 clear h
 by_cases c3:(l0.length:Int)=(l1.length:Int)
 ·rw [if_pos c3] at H
  have c3b0:((l0.length:Int)==(l1.length:Int))=true:=beq_iff_eq.mpr c3
  have c3b1:((l0.length:Int) !=(l1.length:Int))=false:=bne_eq_false_iff_eq.mpr c3
  have c3b2:(l0.length==l1.length)=true:=by first|simpa using c3|(simp at c3 ⊢; omega)
  clear c3
  have H':=Aside0.mk H
  clear H
  go_enter Try.func19,Try.ntmps19
  go_wp2
  repeat (go_quiet (fail); try go_wp2)
  go_loopg [5] k (fun kq v5 w'=>∃(x5_1:Int),v5= .int .i64 x5_1∧Aside0 (Aw.l0 kq l0 l1 x5_1=some r)∧Aside0 (kq≤k)∧Drawn0 w w')
  case atStart=>exact ⟨(0),zF,H',⟨Nat.le_refl _⟩,by repeat (first|exact Drawn0.refl _|apply Drawn0.step)⟩
  case round=>
   clear H'
   try clear c1
   try clear p2
   try clear c3
   try clear c3b0
   try clear c3b1
   try clear c3b2
   obtain ⟨x5_1,rfl,HA,HK1,⟨m1,rfl⟩⟩:=hrel
   cases gk with
   |zero=>exact absurd HA.out (by simp [Aw.l0])
   | succ k1 =>
    have H:=HA.out
    clear HA
    simp only [Aw.l0] at H
    by_cases c4:x5_1<(l0.length:Int)
    ·rw [if_pos c4] at H
     have c4b0:decide (x5_1<(l0.length:Int))=true:=decide_eq_true c4
     clear c4
     by_cases c5:0≤x5_1
     ·rw [if_pos c5] at H
      have c5b0:decide (0≤x5_1)=true:=decide_eq_true c5
      clear c5
      by_cases c6:x5_1<(l1.length:Int)
      ·rw [if_pos c6] at H
       have c6b0:decide (x5_1<(l1.length:Int))=true:=decide_eq_true c6
       clear c6
       by_cases c7:(rd l0 x5_1)=(rd l1 x5_1)
       ·rw [if_pos c7] at H
        have c7b0:((rd l0 x5_1)==(rd l1 x5_1))=true:=beq_iff_eq.mpr c7
        have c7b1:((rd l0 x5_1) !=(rd l1 x5_1))=false:=bne_eq_false_iff_eq.mpr c7
        clear c7
        have H':=Aside0.mk H
        clear H
        have p468:0≤(x5_1:Int):=of_decide_eq_true zA
        have q468:x5_1<(l0.length:Int):=of_decide_eq_true zA
        obtain ⟨ad468,e468,hx468_0⟩:=Kd.at_int HR0.out x5_1 p468 q468
        cases e468
        replace p468:=eq_true p468
        replace q468:=eq_true q468
        have p469:0≤(x5_1:Int):=of_decide_eq_true zA
        have q469:x5_1<(l1.length:Int):=of_decide_eq_true zA
        obtain ⟨ad469,e469,hx469_0⟩:=Kd.at_int HR1.out x5_1 p469 q469
        cases e469
        replace p469:=eq_true p469
        replace q469:=eq_true q469
        go_wp2
        repeat (go_quiet (fail); try go_wp2)
        go_roundg k1
        case measure=>have:=HK1.out; omega
        case rel=>exact ⟨(wrap64 (x5_1+1)),zF,H',⟨by have:=HK1.out; omega⟩,by repeat (first|exact Drawn0.refl _|apply Drawn0.step)⟩
       ·rw [if_neg c7] at H
        have c7b0:((rd l0 x5_1)==(rd l1 x5_1))=false:=beq_eq_false_iff_ne.mpr c7
        have c7b1:((rd l0 x5_1) !=(rd l1 x5_1))=true:=bne_iff_ne.mpr c7
        obtain rfl:=Option.some.inj H
        have p468:0≤(x5_1:Int):=of_decide_eq_true zA
        have q468:x5_1<(l0.length:Int):=of_decide_eq_true zA
        obtain ⟨ad468,e468,hx468_0⟩:=Kd.at_int HR0.out x5_1 p468 q468
        cases e468
        replace p468:=eq_true p468
        replace q468:=eq_true q468
        have p469:0≤(x5_1:Int):=of_decide_eq_true zA
        have q469:x5_1<(l1.length:Int):=of_decide_eq_true zA
        obtain ⟨ad469,e469,hx469_0⟩:=Kd.at_int HR1.out x5_1 p469 q469
        cases e469
        replace p469:=eq_true p469
        replace q469:=eq_true q469
        go_wp2
        repeat (go_quiet (fail); try go_wp2)
        go_ret
        exact ⟨by first|rfl|(simp; done)|(simp [*]; done),by repeat (first|exact Drawn0.refl _|apply Drawn0.step)⟩
      ·rw [if_neg c6] at H
       exact absurd H zY
     ·rw [if_neg c5] at H
      exact absurd H zY
    ·rw [if_neg c4] at H
     have c4b0:decide (x5_1<(l0.length:Int))=false:=decide_eq_false c4
     clear c4
     obtain rfl:=Option.some.inj H
     go_wp2
     repeat (go_quiet (fail); try go_wp2)
     go_ret
     exact ⟨by first|rfl|(simp; done)|(simp [*]; done),by repeat (first|exact Drawn0.refl _|apply Drawn0.step)⟩
 ·rw [if_neg c3] at H
  have c3b0:((l0.length:Int)==(l1.length:Int))=false:=beq_eq_false_iff_ne.mpr c3
  have c3b1:((l0.length:Int) !=(l1.length:Int))=true:=bne_iff_ne.mpr c3
  have c3b2:(l0.length==l1.length)=false:=by first|simpa using c3|(simp at c3 ⊢; omega)
  obtain rfl:=Option.some.inj H
  go_enter Try.func19,Try.ntmps19
  go_wp2
  repeat (go_quiet (fail); try go_wp2)
  go_ret
  exact ⟨by first|rfl|(simp; done)|(simp [*]; done),by repeat (first|exact Drawn0.refl _|apply Drawn0.step)⟩
end Go.Proofs.Ytdadecjefafflaa.PAll
end
