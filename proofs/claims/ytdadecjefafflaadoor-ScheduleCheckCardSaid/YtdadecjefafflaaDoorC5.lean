/- A part of what the law's proof leans on. PACKED BY pack.py of this repo. -/
import Derived.Test.YtdadecjefafflaaDoorC4
set_option linter.unusedVariables false
set_option linter.unusedSimpArgs false
set_option linter.defProp false
set_option linter.unusedSectionVars false
section
namespace Go.Proofs.YtdadecjefafflaaDoor.PChk
set_option maxRecDepth 100000
open Go.RowKit Go.Proofs.YtdadecjefafflaaDoorW.PrintWords Go.Proofs.YtdadecjefafflaaDoorW.PrintLast Go.Proofs.YtdadecjefafflaaDoorW.PrintMore
attribute [local go_sem] Ba BX Be Bd BS BR BZ BW
def B6.l0:Nat→List (S59)→Int→Int→Int→List (S57)→Option (Int×Int)
 |0,_,_,_,_,_=>none
 |k+1,x1,x7,x8,x281000,x281001=>if x8<(x1.length:Int) then (if 0≤x8 then (if x8<(x281001.length:Int) then (B6.l0 k x1 (mx x7 (wrap64 (((Aj x1 x8).f1)+((AL x281001 x8).f1)))) (wrap64 (x8+1)) x281000 x281001) else (none)) else (none)) else (some (x7,0))
def B6.f (k:Nat) (A8:Int) (l0_1:List (S57)) (l1:List (S59)):Option (Int×Int):=(AU.f k A8 l0_1 l1).bind fun t281=>(if t281=0 then (B6.l0 k l1 0 0 A8 l0_1) else (some (0,t281)))
set_option maxHeartbeats 8000000 in
theorem B6.calls (k:Nat) (A8:Int) (A0_1:Option Addr) (c0_1:Nat) (l0_1:List (S57)) (A1:Option Addr) (c1:Nat) (l1:List (S59)) (r1:Int) (r2:Int) (w:World) (hr0_1:Kd.C k57 w A0_1 l0_1.length l0_1) (hc0_1:l0_1.length≤c0_1) (hr1:Kd.C k59 w A1 l1.length l1) (hc1:l1.length≤c1) (h:B6.f k A8 l0_1 l1=some (r1,r2)):
  Calls Tryd.prog 9 #[.agg #[.int .i64 A8,.slice A0_1 l0_1.length c0_1],.slice A1 l1.length c1] w fun e w'=>e= .returned (.tuple #[.int .i64 r1,.int .i64 r2])∧Below w.heap.size w w':=by
 have hu24:=Tryd.underlying24
 have HR0_1:=yA hr0_1
 have HC0_1:=yA hc0_1
 clear hr0_1 hc0_1
 have HR1:=yA hr1
 have HC1:=yA hc1
 clear hr1 hc1
 have HB:=yA (Below.refl w.heap.size w)
 have H:((AU.f k A8 l0_1 l1).bind fun t281=>(if t281=0 then (B6.l0 k l1 0 0 A8 l0_1) else (some (0,t281))))=some (r1,r2):=h
 clear h
 replace H:=Option.bind_eq_some_iff.mp H
 obtain ⟨t281,A30,H⟩:=H
 replace H:(if t281=0 then (B6.l0 k l1 0 0 A8 l0_1) else (some (0,t281)))=some (r1,r2):=H
 have A3:=yA A30
 clear A30
 by_cases c4:t281=0
 ·rw [if_pos c4] at H
  have c4b0:(t281==0)=true:=beq_iff_eq.mpr c4
  have c4b1:(t281 !=0)=false:=bne_eq_false_iff_eq.mpr c4
  clear c4
  have H':=yA H
  clear H
  go_enter Tryd.func9,Tryd.ntmps9
  go_wp2_with (first|((with_reducible refine Ar (N:=2) rfl ?_); refine Ap ?hg (N:=2) ?hd (cs:= #[.int .i64 A8,.slice A0_1 l0_1.length c0_1]) (t:=24) ?hr ?_; (case hd=>rfl); (case hg=>rfl); (case hr=>first|(go_simp; done)|(go_simp; rfl)); intro gb280 hg w5 hbox hb; have n0_:=yA (AO zB hb); have n1_:=yA (hbox); have n2_:=yA ((by rw [hg]; exact (AT zB):w.heap.size≤gb280)); have n3_:=yA ((by rw [hg]; exact (AT zB):w.heap.size≤gb280)); clear HB; have HB:=n0_; have BK280:=n1_; have GW280:=n2_; have GE280:=n3_; clear n0_ n1_ n2_ n3_; clear hb hbox hg; have hcz6_0:w5.cell? ⟨gb280,0,none⟩=some (.int .i64 A8):=(AK BK280.out 0).trans rfl; have hcz6_1:w5.cell? ⟨gb280,1,none⟩=some (.slice A0_1 l0_1.length c0_1):=(AK BK280.out 1).trans rfl; have hfz6_0:=AJ BK280.out 0; have hfz6_1:=AJ BK280.out 1)|(go_at_call 17; (with_reducible refine (AU.calls k A8 _ _ l0_1 _ _ l1 t281 _ ?side1 ?side2 ?side3 ?side4 A3.out).mono ?_); (case side1=>repeat (first|exact (Kd.C_below HR0_1.out HB.out)|(with_reducible refine Kd.C_alloc ?_ _)|(with_reducible refine Kd.C_drewN ?_ _)|(with_reducible refine Kd.C_drew ?_))); (case side2=>exact HC0_1.out); (case side3=>repeat (first|exact (Kd.C_below HR1.out HB.out)|(with_reducible refine Kd.C_alloc ?_ _)|(with_reducible refine Kd.C_drewN ?_ _)|(with_reducible refine Kd.C_drew ?_))); (case side4=>exact HC1.out); rintro e w7 ⟨rfl,hb⟩; have n0_:=yA (AP (g:=gb280) (o:= .cells #[.int .i64 A8,.slice A0_1 l0_1.length c0_1] 24 (0,0)) zD3 hb); have n1_:=yA (AO zC1 hb); clear BK280; clear HB; have BK280:=n0_; have HB:=n1_; clear n0_ n1_; (try clear hb); (try clear hb2); (try clear hk); (try clear hi)))
  repeat (go_quiet (first|((with_reducible refine Ar (N:=2) rfl ?_); refine Ap ?hg (N:=2) ?hd (cs:= #[.int .i64 A8,.slice A0_1 l0_1.length c0_1]) (t:=24) ?hr ?_; (case hd=>rfl); (case hg=>rfl); (case hr=>first|(go_simp; done)|(go_simp; rfl)); intro gb280 hg w5 hbox hb; have n0_:=yA (AO zB hb); have n1_:=yA (hbox); have n2_:=yA ((by rw [hg]; exact (AT zB):w.heap.size≤gb280)); have n3_:=yA ((by rw [hg]; exact (AT zB):w.heap.size≤gb280)); clear HB; have HB:=n0_; have BK280:=n1_; have GW280:=n2_; have GE280:=n3_; clear n0_ n1_ n2_ n3_; clear hb hbox hg; have hcz6_0:w5.cell? ⟨gb280,0,none⟩=some (.int .i64 A8):=(AK BK280.out 0).trans rfl; have hcz6_1:w5.cell? ⟨gb280,1,none⟩=some (.slice A0_1 l0_1.length c0_1):=(AK BK280.out 1).trans rfl; have hfz6_0:=AJ BK280.out 0; have hfz6_1:=AJ BK280.out 1)|(go_at_call 17; (with_reducible refine (AU.calls k A8 _ _ l0_1 _ _ l1 t281 _ ?side1 ?side2 ?side3 ?side4 A3.out).mono ?_); (case side1=>repeat (first|exact (Kd.C_below HR0_1.out HB.out)|(with_reducible refine Kd.C_alloc ?_ _)|(with_reducible refine Kd.C_drewN ?_ _)|(with_reducible refine Kd.C_drew ?_))); (case side2=>exact HC0_1.out); (case side3=>repeat (first|exact (Kd.C_below HR1.out HB.out)|(with_reducible refine Kd.C_alloc ?_ _)|(with_reducible refine Kd.C_drewN ?_ _)|(with_reducible refine Kd.C_drew ?_))); (case side4=>exact HC1.out); rintro e w7 ⟨rfl,hb⟩; have n0_:=yA (AP (g:=gb280) (o:= .cells #[.int .i64 A8,.slice A0_1 l0_1.length c0_1] 24 (0,0)) zD3 hb); have n1_:=yA (AO zC1 hb); clear BK280; clear HB; have BK280:=n0_; have HB:=n1_; clear n0_ n1_; (try clear hb); (try clear hb2); (try clear hk); (try clear hi); clear A3)); try go_wp2_with (first|((with_reducible refine Ar (N:=2) rfl ?_); refine Ap ?hg (N:=2) ?hd (cs:= #[.int .i64 A8,.slice A0_1 l0_1.length c0_1]) (t:=24) ?hr ?_; (case hd=>rfl); (case hg=>rfl); (case hr=>first|(go_simp; done)|(go_simp; rfl)); intro gb280 hg w5 hbox hb; have n0_:=yA (AO zB hb); have n1_:=yA (hbox); have n2_:=yA ((by rw [hg]; exact (AT zB):w.heap.size≤gb280)); have n3_:=yA ((by rw [hg]; exact (AT zB):w.heap.size≤gb280)); clear HB; have HB:=n0_; have BK280:=n1_; have GW280:=n2_; have GE280:=n3_; clear n0_ n1_ n2_ n3_; clear hb hbox hg; have hcz6_0:w5.cell? ⟨gb280,0,none⟩=some (.int .i64 A8):=(AK BK280.out 0).trans rfl; have hcz6_1:w5.cell? ⟨gb280,1,none⟩=some (.slice A0_1 l0_1.length c0_1):=(AK BK280.out 1).trans rfl; have hfz6_0:=AJ BK280.out 0; have hfz6_1:=AJ BK280.out 1)|(go_at_call 17; (with_reducible refine (AU.calls k A8 _ _ l0_1 _ _ l1 t281 _ ?side1 ?side2 ?side3 ?side4 A3.out).mono ?_); (case side1=>repeat (first|exact (Kd.C_below HR0_1.out HB.out)|(with_reducible refine Kd.C_alloc ?_ _)|(with_reducible refine Kd.C_drewN ?_ _)|(with_reducible refine Kd.C_drew ?_))); (case side2=>exact HC0_1.out); (case side3=>repeat (first|exact (Kd.C_below HR1.out HB.out)|(with_reducible refine Kd.C_alloc ?_ _)|(with_reducible refine Kd.C_drewN ?_ _)|(with_reducible refine Kd.C_drew ?_))); (case side4=>exact HC1.out); rintro e w7 ⟨rfl,hb⟩; have n0_:=yA (AP (g:=gb280) (o:= .cells #[.int .i64 A8,.slice A0_1 l0_1.length c0_1] 24 (0,0)) zD3 hb); have n1_:=yA (AO zC1 hb); clear BK280; clear HB; have BK280:=n0_; have HB:=n1_; clear n0_ n1_; (try clear hb); (try clear hb2); (try clear hk); (try clear hi); clear A3)))
  go_loopg [7,8] k (fun kq v7 v8 w'=>∃(x7_1:Int) (x8_1:Int),v7= .int .i64 x7_1∧v8= .int .i64 x8_1∧Aside0 (B6.l0 kq l1 x7_1 x8_1 A8 l0_1=some (r1,r2))∧Aside0 (kq≤k)∧Aside0 (w'.heap[gb280]? =some (.cells #[.int .i64 A8,(.slice A0_1 l0_1.length c0_1)] 24 (0,0)))∧Aside0 (Below w.heap.size w w'))
  case atStart=>exact ⟨(0),(0),zG,zG,H',⟨Nat.le_refl _⟩,⟨by (with_reducible repeat (first|refine AG ?_ _|refine AH ?_|refine AF ?_ _)); exact BK280.out⟩,⟨by repeat (first|(with_reducible first|exact HB.out|apply AE|apply AC|apply AD|refine AI ?_ GE280.out)|exact HB.out)⟩⟩
  case round=>
   clear H'
   try clear c1
   try clear p2
   try clear c4
   try clear c4b0
   try clear c4b1
   try clear hcz6_0
   try clear hcz6_1
   try clear hfz6_0
   try clear hfz6_1
   obtain ⟨x7_1,x8_1,rfl,rfl,HA,HK1,BK280,HB⟩:=hrel
   cases gk with
   |zero=>exact absurd HA.out (by simp [B6.l0])
   | succ k1=>
    have H:=HA.out
    clear HA
    simp only [B6.l0] at H
    by_cases c8:x8_1<(l1.length:Int)
    ·rw [if_pos c8] at H
     have c8b0:decide (x8_1<(l1.length:Int))=true:=decide_eq_true c8
     clear c8
     by_cases c9:0≤x8_1
     ·rw [if_pos c9] at H
      have c9b0:decide (0≤x8_1)=true:=decide_eq_true c9
      clear c9
      by_cases c10:x8_1<(l0_1.length:Int)
      ·rw [if_pos c10] at H
       have c10b0:decide (x8_1<(l0_1.length:Int))=true:=decide_eq_true c10
       clear c10
       obtain ⟨ji11,hji11⟩:∃j_:Int,(mx x7_1 (wrap64 (((Aj l1 x8_1).f1)+((AL l0_1 x8_1).f1))))=j_:=⟨_,rfl⟩
       replace H:(B6.l0 k1 l1 ji11 (wrap64 (x8_1+1)) A8 l0_1)=some (r1,r2):=by first|(rw [hji11] at H; exact H)|(simp only [hji11] at H ⊢; exact H)
       have hji11_:(if x7_1<(wrap64 (((Aj l1 x8_1).f1)+((AL l0_1 x8_1).f1))) then (wrap64 (((Aj l1 x8_1).f1)+((AL l0_1 x8_1).f1))) else x7_1)=ji11:=hji11
       have H':=yA H
       clear H
       have p282:0≤(x8_1:Int):=yD
       have q282:x8_1<(l1.length:Int):=yD
       obtain ⟨ad282,e282,hx282_0,hx282_1⟩:=BE HR1.out x8_1 p282 q282
       cases e282
       replace hx282_0:=yC HB.out hx282_0
       replace hx282_1:=yC HB.out hx282_1
       replace p282:=eq_true p282
       replace q282:=eq_true q282
       have hcz12_0:wr.cell? ⟨gb280,0,none⟩=some (.int .i64 A8):=(AK BK280.out 0).trans rfl
       have hcz12_1:wr.cell? ⟨gb280,1,none⟩=some (.slice A0_1 l0_1.length c0_1):=(AK BK280.out 1).trans rfl
       have hfz12_0:=AJ BK280.out 0
       have hfz12_1:=AJ BK280.out 1
       have p283:0≤(x8_1:Int):=yD
       have q283:x8_1<(l0_1.length:Int):=yD
       obtain ⟨ad283,A283_3,c283_3,e283,hx283_0,hx283_1,hx283_2,hx283_3,hl283_3,hi283_3⟩:=Bb HR0_1.out x8_1 p283 q283
       cases e283
       replace hx283_0:=yC HB.out hx283_0
       replace hx283_1:=yC HB.out hx283_1
       replace hx283_2:=yC HB.out hx283_2
       replace hx283_3:=yC HB.out hx283_3
       have HR283_3:=yA hi283_3
       have HC283_3:=yA hl283_3
       clear hi283_3 hl283_3
       replace p283:=eq_true p283
       replace q283:=eq_true q283
       go_wp2
       repeat (go_quiet (fail); try go_wp2)
       go_roundg k1
       case measure=>have:=HK1.out; omega
       case rel=>exact ⟨(ji11),(wrap64 (x8_1+1)),(by first|rfl|(simp; done)|(simp only [←hji11]<;>(first|rfl|simp))|(simp [*]; done)),zG,H',⟨by have:=HK1.out; omega⟩,⟨by (with_reducible repeat (first|refine AG ?_ _|refine AH ?_|refine AF ?_ _)); exact BK280.out⟩,⟨by repeat (first|(with_reducible first|exact HB.out|apply AE|apply AC|apply AD|refine AI ?_ GE280.out)|exact HB.out)⟩⟩
      ·rw [if_neg c10] at H
       exact absurd H zA6
     ·rw [if_neg c9] at H
      exact absurd H zA6
    ·rw [if_neg c8] at H
     have c8b0:decide (x8_1<(l1.length:Int))=false:=decide_eq_false c8
     clear c8
     simp only [Option.some.injEq,Prod.mk.injEq] at H
     obtain ⟨rfl,rfl⟩:=H
     go_wp2
     repeat (go_quiet (fail); try go_wp2)
     go_ret2
     exact ⟨by first|rfl|(simp [AZ,AY]<;>rfl)|(simp [*,AZ,AY]<;>rfl),by repeat (first|(with_reducible first|exact HB.out|apply AE|apply AC|apply AD|refine AI ?_ GE280.out)|exact HB.out)⟩
 ·rw [if_neg c4] at H
  have c4b0:(t281==0)=false:=beq_eq_false_iff_ne.mpr c4
  have c4b1:(t281 !=0)=true:=bne_iff_ne.mpr c4
  simp only [Option.some.injEq,Prod.mk.injEq] at H
  obtain ⟨rfl,rfl⟩:=H
  go_enter Tryd.func9,Tryd.ntmps9
  go_wp2_with (first|((with_reducible refine Ar (N:=2) rfl ?_); refine Ap ?hg (N:=2) ?hd (cs:= #[.int .i64 A8,.slice A0_1 l0_1.length c0_1]) (t:=24) ?hr ?_; (case hd=>rfl); (case hg=>rfl); (case hr=>first|(go_simp; done)|(go_simp; rfl)); intro gb280 hg w13 hbox hb; have n0_:=yA (AO zB hb); have n1_:=yA (hbox); have n2_:=yA ((by rw [hg]; exact (AT zB):w.heap.size≤gb280)); have n3_:=yA ((by rw [hg]; exact (AT zB):w.heap.size≤gb280)); clear HB; have HB:=n0_; have BK280:=n1_; have GW280:=n2_; have GE280:=n3_; clear n0_ n1_ n2_ n3_; clear hb hbox hg; have hcz14_0:w13.cell? ⟨gb280,0,none⟩=some (.int .i64 A8):=(AK BK280.out 0).trans rfl; have hcz14_1:w13.cell? ⟨gb280,1,none⟩=some (.slice A0_1 l0_1.length c0_1):=(AK BK280.out 1).trans rfl; have hfz14_0:=AJ BK280.out 0; have hfz14_1:=AJ BK280.out 1)|(go_at_call 17; (with_reducible refine (AU.calls k A8 _ _ l0_1 _ _ l1 t281 _ ?side1 ?side2 ?side3 ?side4 A3.out).mono ?_); (case side1=>repeat (first|exact (Kd.C_below HR0_1.out HB.out)|(with_reducible refine Kd.C_alloc ?_ _)|(with_reducible refine Kd.C_drewN ?_ _)|(with_reducible refine Kd.C_drew ?_))); (case side2=>exact HC0_1.out); (case side3=>repeat (first|exact (Kd.C_below HR1.out HB.out)|(with_reducible refine Kd.C_alloc ?_ _)|(with_reducible refine Kd.C_drewN ?_ _)|(with_reducible refine Kd.C_drew ?_))); (case side4=>exact HC1.out); rintro e w15 ⟨rfl,hb⟩; have n0_:=yA (AP (g:=gb280) (o:= .cells #[.int .i64 A8,.slice A0_1 l0_1.length c0_1] 24 (0,0)) zD3 hb); have n1_:=yA (AO zC1 hb); clear BK280; clear HB; have BK280:=n0_; have HB:=n1_; clear n0_ n1_; (try clear hb); (try clear hb2); (try clear hk); (try clear hi)))
  repeat (go_quiet (first|((with_reducible refine Ar (N:=2) rfl ?_); refine Ap ?hg (N:=2) ?hd (cs:= #[.int .i64 A8,.slice A0_1 l0_1.length c0_1]) (t:=24) ?hr ?_; (case hd=>rfl); (case hg=>rfl); (case hr=>first|(go_simp; done)|(go_simp; rfl)); intro gb280 hg w13 hbox hb; have n0_:=yA (AO zB hb); have n1_:=yA (hbox); have n2_:=yA ((by rw [hg]; exact (AT zB):w.heap.size≤gb280)); have n3_:=yA ((by rw [hg]; exact (AT zB):w.heap.size≤gb280)); clear HB; have HB:=n0_; have BK280:=n1_; have GW280:=n2_; have GE280:=n3_; clear n0_ n1_ n2_ n3_; clear hb hbox hg; have hcz14_0:w13.cell? ⟨gb280,0,none⟩=some (.int .i64 A8):=(AK BK280.out 0).trans rfl; have hcz14_1:w13.cell? ⟨gb280,1,none⟩=some (.slice A0_1 l0_1.length c0_1):=(AK BK280.out 1).trans rfl; have hfz14_0:=AJ BK280.out 0; have hfz14_1:=AJ BK280.out 1)|(go_at_call 17; (with_reducible refine (AU.calls k A8 _ _ l0_1 _ _ l1 t281 _ ?side1 ?side2 ?side3 ?side4 A3.out).mono ?_); (case side1=>repeat (first|exact (Kd.C_below HR0_1.out HB.out)|(with_reducible refine Kd.C_alloc ?_ _)|(with_reducible refine Kd.C_drewN ?_ _)|(with_reducible refine Kd.C_drew ?_))); (case side2=>exact HC0_1.out); (case side3=>repeat (first|exact (Kd.C_below HR1.out HB.out)|(with_reducible refine Kd.C_alloc ?_ _)|(with_reducible refine Kd.C_drewN ?_ _)|(with_reducible refine Kd.C_drew ?_))); (case side4=>exact HC1.out); rintro e w15 ⟨rfl,hb⟩; have n0_:=yA (AP (g:=gb280) (o:= .cells #[.int .i64 A8,.slice A0_1 l0_1.length c0_1] 24 (0,0)) zD3 hb); have n1_:=yA (AO zC1 hb); clear BK280; clear HB; have BK280:=n0_; have HB:=n1_; clear n0_ n1_; (try clear hb); (try clear hb2); (try clear hk); (try clear hi); clear A3)); try go_wp2_with (first|((with_reducible refine Ar (N:=2) rfl ?_); refine Ap ?hg (N:=2) ?hd (cs:= #[.int .i64 A8,.slice A0_1 l0_1.length c0_1]) (t:=24) ?hr ?_; (case hd=>rfl); (case hg=>rfl); (case hr=>first|(go_simp; done)|(go_simp; rfl)); intro gb280 hg w13 hbox hb; have n0_:=yA (AO zB hb); have n1_:=yA (hbox); have n2_:=yA ((by rw [hg]; exact (AT zB):w.heap.size≤gb280)); have n3_:=yA ((by rw [hg]; exact (AT zB):w.heap.size≤gb280)); clear HB; have HB:=n0_; have BK280:=n1_; have GW280:=n2_; have GE280:=n3_; clear n0_ n1_ n2_ n3_; clear hb hbox hg; have hcz14_0:w13.cell? ⟨gb280,0,none⟩=some (.int .i64 A8):=(AK BK280.out 0).trans rfl; have hcz14_1:w13.cell? ⟨gb280,1,none⟩=some (.slice A0_1 l0_1.length c0_1):=(AK BK280.out 1).trans rfl; have hfz14_0:=AJ BK280.out 0; have hfz14_1:=AJ BK280.out 1)|(go_at_call 17; (with_reducible refine (AU.calls k A8 _ _ l0_1 _ _ l1 t281 _ ?side1 ?side2 ?side3 ?side4 A3.out).mono ?_); (case side1=>repeat (first|exact (Kd.C_below HR0_1.out HB.out)|(with_reducible refine Kd.C_alloc ?_ _)|(with_reducible refine Kd.C_drewN ?_ _)|(with_reducible refine Kd.C_drew ?_))); (case side2=>exact HC0_1.out); (case side3=>repeat (first|exact (Kd.C_below HR1.out HB.out)|(with_reducible refine Kd.C_alloc ?_ _)|(with_reducible refine Kd.C_drewN ?_ _)|(with_reducible refine Kd.C_drew ?_))); (case side4=>exact HC1.out); rintro e w15 ⟨rfl,hb⟩; have n0_:=yA (AP (g:=gb280) (o:= .cells #[.int .i64 A8,.slice A0_1 l0_1.length c0_1] 24 (0,0)) zD3 hb); have n1_:=yA (AO zC1 hb); clear BK280; clear HB; have BK280:=n0_; have HB:=n1_; clear n0_ n1_; (try clear hb); (try clear hb2); (try clear hk); (try clear hi); clear A3)))
  go_ret2
  exact ⟨by first|rfl|(simp [AZ,AY]<;>rfl)|(simp [*,AZ,AY]<;>rfl),by repeat (first|(with_reducible first|exact HB.out|apply AE|apply AC|apply AD|refine AI ?_ GE280.out)|exact HB.out)⟩
def BF.f (k:Nat) (A8:Int) (l0_1:List (S49)) (l1:List (S56)):Option (Int×Int):=(Ab.f k A8 l0_1 l1).bind fun t285=>(if t285=0 then ((Ae.f k A8 l0_1 l1).bind fun t286=>(some (t286,0))) else (some (0,t285)))
set_option maxHeartbeats 8000000 in
theorem BF.calls (k:Nat) (A8:Int) (A0_1:Option Addr) (c0_1:Nat) (l0_1:List (S49)) (A1:Option Addr) (c1:Nat) (l1:List (S56)) (r1:Int) (r2:Int) (w:World) (hr0_1:Kd.C k49 w A0_1 l0_1.length l0_1) (hc0_1:l0_1.length≤c0_1) (hr1:Kd.C k56 w A1 l1.length l1) (hc1:l1.length≤c1) (h:BF.f k A8 l0_1 l1=some (r1,r2)):
  Calls Tryd.prog 10 #[.agg #[.int .i64 A8,.slice A0_1 l0_1.length c0_1],.slice A1 l1.length c1] w fun e w'=>e= .returned (.tuple #[.int .i64 r1,.int .i64 r2])∧Below w.heap.size w w':=by
 have hu33:=Tryd.underlying33
 have HR0_1:=yA hr0_1
 have HC0_1:=yA hc0_1
 clear hr0_1 hc0_1
 have HR1:=yA hr1
 have HC1:=yA hc1
 clear hr1 hc1
 have HB:=yA (Below.refl w.heap.size w)
 have H:((Ab.f k A8 l0_1 l1).bind fun t285=>(if t285=0 then ((Ae.f k A8 l0_1 l1).bind fun t286=>(some (t286,0))) else (some (0,t285))))=some (r1,r2):=h
 clear h
 replace H:=Option.bind_eq_some_iff.mp H
 obtain ⟨t285,A30,H⟩:=H
 replace H:(if t285=0 then ((Ae.f k A8 l0_1 l1).bind fun t286=>(some (t286,0))) else (some (0,t285)))=some (r1,r2):=H
 have A3:=yA A30
 clear A30
 by_cases c4:t285=0
 ·rw [if_pos c4] at H
  have c4b0:(t285==0)=true:=beq_iff_eq.mpr c4
  have c4b1:(t285 !=0)=false:=bne_eq_false_iff_eq.mpr c4
  clear c4
  replace H:=Option.bind_eq_some_iff.mp H
  obtain ⟨t286,A50,H⟩:=H
  replace H:(some (t286,0))=some (r1,r2):=H
  have A5:=yA A50
  clear A50
  simp only [Option.some.injEq,Prod.mk.injEq] at H
  obtain ⟨rfl,rfl⟩:=H
  go_enter Tryd.func10,Tryd.ntmps10
  go_wp2_with (first|((with_reducible refine Ar (N:=2) rfl ?_); refine Ap ?hg (N:=2) ?hd (cs:= #[.int .i64 A8,.slice A0_1 l0_1.length c0_1]) (t:=33) ?hr ?_; (case hd=>rfl); (case hg=>rfl); (case hr=>first|(go_simp; done)|(go_simp; rfl)); intro gb284 hg w6 hbox hb; have n0_:=yA (AO zB hb); have n1_:=yA (hbox); have n2_:=yA ((by rw [hg]; exact (AT zB):w.heap.size≤gb284)); have n3_:=yA ((by rw [hg]; exact (AT zB):w.heap.size≤gb284)); clear HB; have HB:=n0_; have BK284:=n1_; have GW284:=n2_; have GE284:=n3_; clear n0_ n1_ n2_ n3_; clear hb hbox hg; have hcz7_0:w6.cell? ⟨gb284,0,none⟩=some (.int .i64 A8):=(AK BK284.out 0).trans rfl; have hcz7_1:w6.cell? ⟨gb284,1,none⟩=some (.slice A0_1 l0_1.length c0_1):=(AK BK284.out 1).trans rfl; have hfz7_0:=AJ BK284.out 0; have hfz7_1:=AJ BK284.out 1)|((with_reducible refine Ah (f:=16) rfl ?_); refine BB (some 9) rfl rfl Tryd.func16 zE rfl #[.agg #[.int .i64 A8,.slice A0_1 l0_1.length c0_1],.slice A1 l1.length c1] rfl zD ?_; (with_reducible refine (Ab.calls k A8 _ _ l0_1 _ _ l1 t285 _ ?side1 ?side2 ?side3 ?side4 A3.out).mono ?_); (case side1=>repeat (first|exact (Kd.C_below HR0_1.out HB.out)|(with_reducible refine Kd.C_alloc ?_ _)|(with_reducible refine Kd.C_drewN ?_ _)|(with_reducible refine Kd.C_drew ?_))); (case side2=>exact HC0_1.out); (case side3=>repeat (first|exact (Kd.C_below HR1.out HB.out)|(with_reducible refine Kd.C_alloc ?_ _)|(with_reducible refine Kd.C_drewN ?_ _)|(with_reducible refine Kd.C_drew ?_))); (case side4=>exact HC1.out); rintro e w8 ⟨rfl,hb⟩; refine ⟨_,rfl,?_⟩; have n0_:=yA (AP (g:=gb284) (o:= .cells #[.int .i64 A8,.slice A0_1 l0_1.length c0_1] 33 (0,0)) (by (with_reducible repeat (first|refine AG ?_ _|refine AH ?_|refine AF ?_ _)); exact BK284.out) hb); have n1_:=yA (AO (by repeat (first|(with_reducible first|exact HB.out|apply AE|apply AC|apply AD|refine AI ?_ GE284.out)|exact HB.out)) hb); clear BK284; clear HB; have BK284:=n0_; have HB:=n1_; clear n0_ n1_; (try clear hb); (try clear hb2); (try clear hk); (try clear hi); have hcz9_0:w8.cell? ⟨gb284,0,none⟩=some (.int .i64 A8):=(AK BK284.out 0).trans rfl; have hcz9_1:w8.cell? ⟨gb284,1,none⟩=some (.slice A0_1 l0_1.length c0_1):=(AK BK284.out 1).trans rfl; have hfz9_0:=AJ BK284.out 0; have hfz9_1:=AJ BK284.out 1)|((with_reducible refine Ah (f:=23) rfl ?_); refine BB (some 15) rfl rfl Tryd.func23 zE rfl #[.agg #[.int .i64 A8,.slice A0_1 l0_1.length c0_1],.slice A1 l1.length c1] rfl zD ?_; (with_reducible refine (Ae.calls k A8 _ _ l0_1 _ _ l1 t286 _ ?side1 ?side2 ?side3 ?side4 A5.out).mono ?_); (case side1=>repeat (first|exact (Kd.C_below HR0_1.out HB.out)|(with_reducible refine Kd.C_alloc ?_ _)|(with_reducible refine Kd.C_drewN ?_ _)|(with_reducible refine Kd.C_drew ?_))); (case side2=>exact HC0_1.out); (case side3=>repeat (first|exact (Kd.C_below HR1.out HB.out)|(with_reducible refine Kd.C_alloc ?_ _)|(with_reducible refine Kd.C_drewN ?_ _)|(with_reducible refine Kd.C_drew ?_))); (case side4=>exact HC1.out); rintro e w10 ⟨rfl,hb⟩; refine ⟨_,rfl,?_⟩; have n0_:=yA (AP (g:=gb284) (o:= .cells #[.int .i64 A8,.slice A0_1 l0_1.length c0_1] 33 (0,0)) (by (with_reducible repeat (first|refine AG ?_ _|refine AH ?_|refine AF ?_ _)); exact BK284.out) hb); have n1_:=yA (AO (by repeat (first|(with_reducible first|exact HB.out|apply AE|apply AC|apply AD|refine AI ?_ GE284.out)|exact HB.out)) hb); clear BK284; clear HB; have BK284:=n0_; have HB:=n1_; clear n0_ n1_; (try clear hb); (try clear hb2); (try clear hk); (try clear hi)))
  go_ret2
  exact ⟨by first|rfl|(simp [AZ,AY]<;>rfl)|(simp [*,AZ,AY]<;>rfl),by repeat (first|(with_reducible first|exact HB.out|apply AE|apply AC|apply AD|refine AI ?_ GE284.out)|exact HB.out)⟩
 ·rw [if_neg c4] at H
  have c4b0:(t285==0)=false:=beq_eq_false_iff_ne.mpr c4
  have c4b1:(t285 !=0)=true:=bne_iff_ne.mpr c4
  simp only [Option.some.injEq,Prod.mk.injEq] at H
  obtain ⟨rfl,rfl⟩:=H
  go_enter Tryd.func10,Tryd.ntmps10
  go_wp2_with (first|((with_reducible refine Ar (N:=2) rfl ?_); refine Ap ?hg (N:=2) ?hd (cs:= #[.int .i64 A8,.slice A0_1 l0_1.length c0_1]) (t:=33) ?hr ?_; (case hd=>rfl); (case hg=>rfl); (case hr=>first|(go_simp; done)|(go_simp; rfl)); intro gb284 hg w11 hbox hb; have n0_:=yA (AO zB hb); have n1_:=yA (hbox); have n2_:=yA ((by rw [hg]; exact (AT zB):w.heap.size≤gb284)); have n3_:=yA ((by rw [hg]; exact (AT zB):w.heap.size≤gb284)); clear HB; have HB:=n0_; have BK284:=n1_; have GW284:=n2_; have GE284:=n3_; clear n0_ n1_ n2_ n3_; clear hb hbox hg; have hcz12_0:w11.cell? ⟨gb284,0,none⟩=some (.int .i64 A8):=(AK BK284.out 0).trans rfl; have hcz12_1:w11.cell? ⟨gb284,1,none⟩=some (.slice A0_1 l0_1.length c0_1):=(AK BK284.out 1).trans rfl; have hfz12_0:=AJ BK284.out 0; have hfz12_1:=AJ BK284.out 1)|((with_reducible refine Ah (f:=16) rfl ?_); refine BB (some 9) rfl rfl Tryd.func16 zE rfl #[.agg #[.int .i64 A8,.slice A0_1 l0_1.length c0_1],.slice A1 l1.length c1] rfl zD ?_; (with_reducible refine (Ab.calls k A8 _ _ l0_1 _ _ l1 t285 _ ?side1 ?side2 ?side3 ?side4 A3.out).mono ?_); (case side1=>repeat (first|exact (Kd.C_below HR0_1.out HB.out)|(with_reducible refine Kd.C_alloc ?_ _)|(with_reducible refine Kd.C_drewN ?_ _)|(with_reducible refine Kd.C_drew ?_))); (case side2=>exact HC0_1.out); (case side3=>repeat (first|exact (Kd.C_below HR1.out HB.out)|(with_reducible refine Kd.C_alloc ?_ _)|(with_reducible refine Kd.C_drewN ?_ _)|(with_reducible refine Kd.C_drew ?_))); (case side4=>exact HC1.out); rintro e w13 ⟨rfl,hb⟩; refine ⟨_,rfl,?_⟩; have n0_:=yA (AP (g:=gb284) (o:= .cells #[.int .i64 A8,.slice A0_1 l0_1.length c0_1] 33 (0,0)) (by (with_reducible repeat (first|refine AG ?_ _|refine AH ?_|refine AF ?_ _)); exact BK284.out) hb); have n1_:=yA (AO (by repeat (first|(with_reducible first|exact HB.out|apply AE|apply AC|apply AD|refine AI ?_ GE284.out)|exact HB.out)) hb); clear BK284; clear HB; have BK284:=n0_; have HB:=n1_; clear n0_ n1_; (try clear hb); (try clear hb2); (try clear hk); (try clear hi)))
  go_ret2
  exact ⟨by first|rfl|(simp [AZ,AY]<;>rfl)|(simp [*,AZ,AY]<;>rfl),by repeat (first|(with_reducible first|exact HB.out|apply AE|apply AC|apply AD|refine AI ?_ GE284.out)|exact HB.out)⟩
def Av.l0:Nat→List (S59)→Int→Int→Int→List (S57)→Option (Int×Int)
 |0,_,_,_,_,_=>none
 |k+1,x1,x7,x8,x288000,x288001=>if x8<(x1.length:Int) then (if 0≤x8 then (if x8<(x288001.length:Int) then (if x8=0 then (Av.l0 k x1 (wrap64 ((wrap64 (((Aj x1 x8).f1)+((AL x288001 x8).f1)))-((AL x288001 x8).f2))) (wrap64 (x8+1)) x288000 x288001) else (if (wrap64 ((wrap64 (((Aj x1 x8).f1)+((AL x288001 x8).f1)))-((AL x288001 x8).f2)))>x7 then (Av.l0 k x1 (wrap64 ((wrap64 (((Aj x1 x8).f1)+((AL x288001 x8).f1)))-((AL x288001 x8).f2))) (wrap64 (x8+1)) x288000 x288001) else (Av.l0 k x1 x7 (wrap64 (x8+1)) x288000 x288001))) else (none)) else (none)) else (some (x7,0))
def Av.f (k:Nat) (A8:Int) (l0_1:List (S57)) (l1:List (S59)):Option (Int×Int):=(AU.f k A8 l0_1 l1).bind fun t288=>(if t288=0 then (Av.l0 k l1 0 0 A8 l0_1) else (some (0,t288)))
set_option maxHeartbeats 8000000 in
theorem Av.calls (k:Nat) (A8:Int) (A0_1:Option Addr) (c0_1:Nat) (l0_1:List (S57)) (A1:Option Addr) (c1:Nat) (l1:List (S59)) (r1:Int) (r2:Int) (w:World) (hr0_1:Kd.C k57 w A0_1 l0_1.length l0_1) (hc0_1:l0_1.length≤c0_1) (hr1:Kd.C k59 w A1 l1.length l1) (hc1:l1.length≤c1) (h:Av.f k A8 l0_1 l1=some (r1,r2)):
  Calls Tryd.prog 11 #[.agg #[.int .i64 A8,.slice A0_1 l0_1.length c0_1],.slice A1 l1.length c1] w fun e w'=>e= .returned (.tuple #[.int .i64 r1,.int .i64 r2])∧Below w.heap.size w w':=by
 have hu24:=Tryd.underlying24
 have HR0_1:=yA hr0_1
 have HC0_1:=yA hc0_1
 clear hr0_1 hc0_1
 have HR1:=yA hr1
 have HC1:=yA hc1
 clear hr1 hc1
 have HB:=yA (Below.refl w.heap.size w)
 have H:((AU.f k A8 l0_1 l1).bind fun t288=>(if t288=0 then (Av.l0 k l1 0 0 A8 l0_1) else (some (0,t288))))=some (r1,r2):=h
 clear h
 replace H:=Option.bind_eq_some_iff.mp H
 obtain ⟨t288,A30,H⟩:=H
 replace H:(if t288=0 then (Av.l0 k l1 0 0 A8 l0_1) else (some (0,t288)))=some (r1,r2):=H
 have A3:=yA A30
 clear A30
 by_cases c4:t288=0
 ·rw [if_pos c4] at H
  have c4b0:(t288==0)=true:=beq_iff_eq.mpr c4
  have c4b1:(t288 !=0)=false:=bne_eq_false_iff_eq.mpr c4
  clear c4
  have H':=yA H
  clear H
  go_enter Tryd.func11,Tryd.ntmps11
  go_wp2_with (first|((with_reducible refine Ar (N:=2) rfl ?_); refine Ap ?hg (N:=2) ?hd (cs:= #[.int .i64 A8,.slice A0_1 l0_1.length c0_1]) (t:=24) ?hr ?_; (case hd=>rfl); (case hg=>rfl); (case hr=>first|(go_simp; done)|(go_simp; rfl)); intro gb287 hg w5 hbox hb; have n0_:=yA (AO zB hb); have n1_:=yA (hbox); have n2_:=yA ((by rw [hg]; exact (AT zB):w.heap.size≤gb287)); have n3_:=yA ((by rw [hg]; exact (AT zB):w.heap.size≤gb287)); clear HB; have HB:=n0_; have BK287:=n1_; have GW287:=n2_; have GE287:=n3_; clear n0_ n1_ n2_ n3_; clear hb hbox hg; have hcz6_0:w5.cell? ⟨gb287,0,none⟩=some (.int .i64 A8):=(AK BK287.out 0).trans rfl; have hcz6_1:w5.cell? ⟨gb287,1,none⟩=some (.slice A0_1 l0_1.length c0_1):=(AK BK287.out 1).trans rfl; have hfz6_0:=AJ BK287.out 0; have hfz6_1:=AJ BK287.out 1)|(go_at_call 17; (with_reducible refine (AU.calls k A8 _ _ l0_1 _ _ l1 t288 _ ?side1 ?side2 ?side3 ?side4 A3.out).mono ?_); (case side1=>repeat (first|exact (Kd.C_below HR0_1.out HB.out)|(with_reducible refine Kd.C_alloc ?_ _)|(with_reducible refine Kd.C_drewN ?_ _)|(with_reducible refine Kd.C_drew ?_))); (case side2=>exact HC0_1.out); (case side3=>repeat (first|exact (Kd.C_below HR1.out HB.out)|(with_reducible refine Kd.C_alloc ?_ _)|(with_reducible refine Kd.C_drewN ?_ _)|(with_reducible refine Kd.C_drew ?_))); (case side4=>exact HC1.out); rintro e w7 ⟨rfl,hb⟩; have n0_:=yA (AP (g:=gb287) (o:= .cells #[.int .i64 A8,.slice A0_1 l0_1.length c0_1] 24 (0,0)) zD4 hb); have n1_:=yA (AO zC2 hb); clear BK287; clear HB; have BK287:=n0_; have HB:=n1_; clear n0_ n1_; (try clear hb); (try clear hb2); (try clear hk); (try clear hi)))
  repeat (go_quiet (first|((with_reducible refine Ar (N:=2) rfl ?_); refine Ap ?hg (N:=2) ?hd (cs:= #[.int .i64 A8,.slice A0_1 l0_1.length c0_1]) (t:=24) ?hr ?_; (case hd=>rfl); (case hg=>rfl); (case hr=>first|(go_simp; done)|(go_simp; rfl)); intro gb287 hg w5 hbox hb; have n0_:=yA (AO zB hb); have n1_:=yA (hbox); have n2_:=yA ((by rw [hg]; exact (AT zB):w.heap.size≤gb287)); have n3_:=yA ((by rw [hg]; exact (AT zB):w.heap.size≤gb287)); clear HB; have HB:=n0_; have BK287:=n1_; have GW287:=n2_; have GE287:=n3_; clear n0_ n1_ n2_ n3_; clear hb hbox hg; have hcz6_0:w5.cell? ⟨gb287,0,none⟩=some (.int .i64 A8):=(AK BK287.out 0).trans rfl; have hcz6_1:w5.cell? ⟨gb287,1,none⟩=some (.slice A0_1 l0_1.length c0_1):=(AK BK287.out 1).trans rfl; have hfz6_0:=AJ BK287.out 0; have hfz6_1:=AJ BK287.out 1)|(go_at_call 17; (with_reducible refine (AU.calls k A8 _ _ l0_1 _ _ l1 t288 _ ?side1 ?side2 ?side3 ?side4 A3.out).mono ?_); (case side1=>repeat (first|exact (Kd.C_below HR0_1.out HB.out)|(with_reducible refine Kd.C_alloc ?_ _)|(with_reducible refine Kd.C_drewN ?_ _)|(with_reducible refine Kd.C_drew ?_))); (case side2=>exact HC0_1.out); (case side3=>repeat (first|exact (Kd.C_below HR1.out HB.out)|(with_reducible refine Kd.C_alloc ?_ _)|(with_reducible refine Kd.C_drewN ?_ _)|(with_reducible refine Kd.C_drew ?_))); (case side4=>exact HC1.out); rintro e w7 ⟨rfl,hb⟩; have n0_:=yA (AP (g:=gb287) (o:= .cells #[.int .i64 A8,.slice A0_1 l0_1.length c0_1] 24 (0,0)) zD4 hb); have n1_:=yA (AO zC2 hb); clear BK287; clear HB; have BK287:=n0_; have HB:=n1_; clear n0_ n1_; (try clear hb); (try clear hb2); (try clear hk); (try clear hi); clear A3)); try go_wp2_with (first|((with_reducible refine Ar (N:=2) rfl ?_); refine Ap ?hg (N:=2) ?hd (cs:= #[.int .i64 A8,.slice A0_1 l0_1.length c0_1]) (t:=24) ?hr ?_; (case hd=>rfl); (case hg=>rfl); (case hr=>first|(go_simp; done)|(go_simp; rfl)); intro gb287 hg w5 hbox hb; have n0_:=yA (AO zB hb); have n1_:=yA (hbox); have n2_:=yA ((by rw [hg]; exact (AT zB):w.heap.size≤gb287)); have n3_:=yA ((by rw [hg]; exact (AT zB):w.heap.size≤gb287)); clear HB; have HB:=n0_; have BK287:=n1_; have GW287:=n2_; have GE287:=n3_; clear n0_ n1_ n2_ n3_; clear hb hbox hg; have hcz6_0:w5.cell? ⟨gb287,0,none⟩=some (.int .i64 A8):=(AK BK287.out 0).trans rfl; have hcz6_1:w5.cell? ⟨gb287,1,none⟩=some (.slice A0_1 l0_1.length c0_1):=(AK BK287.out 1).trans rfl; have hfz6_0:=AJ BK287.out 0; have hfz6_1:=AJ BK287.out 1)|(go_at_call 17; (with_reducible refine (AU.calls k A8 _ _ l0_1 _ _ l1 t288 _ ?side1 ?side2 ?side3 ?side4 A3.out).mono ?_); (case side1=>repeat (first|exact (Kd.C_below HR0_1.out HB.out)|(with_reducible refine Kd.C_alloc ?_ _)|(with_reducible refine Kd.C_drewN ?_ _)|(with_reducible refine Kd.C_drew ?_))); (case side2=>exact HC0_1.out); (case side3=>repeat (first|exact (Kd.C_below HR1.out HB.out)|(with_reducible refine Kd.C_alloc ?_ _)|(with_reducible refine Kd.C_drewN ?_ _)|(with_reducible refine Kd.C_drew ?_))); (case side4=>exact HC1.out); rintro e w7 ⟨rfl,hb⟩; have n0_:=yA (AP (g:=gb287) (o:= .cells #[.int .i64 A8,.slice A0_1 l0_1.length c0_1] 24 (0,0)) zD4 hb); have n1_:=yA (AO zC2 hb); clear BK287; clear HB; have BK287:=n0_; have HB:=n1_; clear n0_ n1_; (try clear hb); (try clear hb2); (try clear hk); (try clear hi); clear A3)))
  go_loopg [7,8] k (fun kq v7 v8 w'=>∃(x7_1:Int) (x8_1:Int),v7= .int .i64 x7_1∧v8= .int .i64 x8_1∧Aside0 (Av.l0 kq l1 x7_1 x8_1 A8 l0_1=some (r1,r2))∧Aside0 (kq≤k)∧Aside0 (w'.heap[gb287]? =some (.cells #[.int .i64 A8,(.slice A0_1 l0_1.length c0_1)] 24 (0,0)))∧Aside0 (Below w.heap.size w w'))
  case atStart=>exact ⟨(0),(0),zG,zG,H',⟨Nat.le_refl _⟩,⟨by (with_reducible repeat (first|refine AG ?_ _|refine AH ?_|refine AF ?_ _)); exact BK287.out⟩,⟨by repeat (first|(with_reducible first|exact HB.out|apply AE|apply AC|apply AD|refine AI ?_ GE287.out)|exact HB.out)⟩⟩
  case round=>
   clear H'
   try clear c1
   try clear p2
   try clear c4
   try clear c4b0
   try clear c4b1
   try clear hcz6_0
   try clear hcz6_1
   try clear hfz6_0
   try clear hfz6_1
   obtain ⟨x7_1,x8_1,rfl,rfl,HA,HK1,BK287,HB⟩:=hrel
   cases gk with
   |zero=>exact absurd HA.out (by simp [Av.l0])
   | succ k1 =>
    have H:=HA.out
    clear HA
    simp only [Av.l0] at H
    by_cases c8:x8_1<(l1.length:Int)
    ·rw [if_pos c8] at H
     have c8b0:decide (x8_1<(l1.length:Int))=true:=decide_eq_true c8
     clear c8
     by_cases c9:0≤x8_1
     ·rw [if_pos c9] at H
      have c9b0:decide (0≤x8_1)=true:=decide_eq_true c9
      clear c9
      by_cases c10:x8_1<(l0_1.length:Int)
      ·rw [if_pos c10] at H
       have c10b0:decide (x8_1<(l0_1.length:Int))=true:=decide_eq_true c10
       clear c10
       by_cases c11:x8_1=0
       ·rw [if_pos c11] at H
        have c11b0:(x8_1==0)=true:=beq_iff_eq.mpr c11
        have c11b1:(x8_1 !=0)=false:=bne_eq_false_iff_eq.mpr c11
        clear c11
        have H':=yA H
        clear H
        have p289:0≤(x8_1:Int):=yD
        have q289:x8_1<(l1.length:Int):=yD
        obtain ⟨ad289,e289,hx289_0,hx289_1⟩:=BE HR1.out x8_1 p289 q289
        cases e289
        replace hx289_0:=yC HB.out hx289_0
        replace hx289_1:=yC HB.out hx289_1
        replace p289:=eq_true p289
        replace q289:=eq_true q289
        have hcz12_0:wr.cell? ⟨gb287,0,none⟩=some (.int .i64 A8):=(AK BK287.out 0).trans rfl
        have hcz12_1:wr.cell? ⟨gb287,1,none⟩=some (.slice A0_1 l0_1.length c0_1):=(AK BK287.out 1).trans rfl
        have hfz12_0:=AJ BK287.out 0
        have hfz12_1:=AJ BK287.out 1
        have p290:0≤(x8_1:Int):=yD
        have q290:x8_1<(l0_1.length:Int):=yD
        obtain ⟨ad290,A290_3,c290_3,e290,hx290_0,hx290_1,hx290_2,hx290_3,hl290_3,hi290_3⟩:=Bb HR0_1.out x8_1 p290 q290
        cases e290
        replace hx290_0:=yC HB.out hx290_0
        replace hx290_1:=yC HB.out hx290_1
        replace hx290_2:=yC HB.out hx290_2
        replace hx290_3:=yC HB.out hx290_3
        have HR290_3:=yA hi290_3
        have HC290_3:=yA hl290_3
        clear hi290_3 hl290_3
        replace p290:=eq_true p290
        replace q290:=eq_true q290
        have p291:0≤(x8_1:Int):=yD
        have q291:x8_1<(l0_1.length:Int):=yD
        obtain ⟨ad291,A291_3,c291_3,e291,hx291_0,hx291_1,hx291_2,hx291_3,hl291_3,hi291_3⟩:=Bb HR0_1.out x8_1 p291 q291
        obtain rfl:ad290=ad291:=(by injection e291)
        replace hx291_0:=yC HB.out hx291_0
        replace hx291_1:=yC HB.out hx291_1
        replace hx291_2:=yC HB.out hx291_2
        replace hx291_3:=yC HB.out hx291_3
        have HR291_3:=yA hi291_3
        have HC291_3:=yA hl291_3
        clear hi291_3 hl291_3
        replace p291:=eq_true p291
        replace q291:=eq_true q291
        have ea_:=Option.some.inj (hx290_3.symm.trans hx291_3)
        injection ea_ with ea_ en_ ec_
        subst ea_
        subst ec_
        clear en_
        go_wp2
        repeat (go_quiet (fail); try go_wp2)
        go_roundg k1
        case measure=>have:=HK1.out; omega
        case rel=>exact ⟨(wrap64 ((wrap64 (((Aj l1 x8_1).f1)+((AL l0_1 x8_1).f1)))-((AL l0_1 x8_1).f2))),(wrap64 (x8_1+1)),zG,zG,H',⟨by have:=HK1.out; omega⟩,⟨by (with_reducible repeat (first|refine AG ?_ _|refine AH ?_|refine AF ?_ _)); exact BK287.out⟩,⟨by repeat (first|(with_reducible first|exact HB.out|apply AE|apply AC|apply AD|refine AI ?_ GE287.out)|exact HB.out)⟩⟩
       ·rw [if_neg c11] at H
        have c11b0:(x8_1==0)=false:=beq_eq_false_iff_ne.mpr c11
        have c11b1:(x8_1 !=0)=true:=bne_iff_ne.mpr c11
        by_cases c13:(wrap64 ((wrap64 (((Aj l1 x8_1).f1)+((AL l0_1 x8_1).f1)))-((AL l0_1 x8_1).f2)))>x7_1
        ·rw [if_pos c13] at H
         have c13b0:decide (x7_1<(wrap64 ((wrap64 (((Aj l1 x8_1).f1)+((AL l0_1 x8_1).f1)))-((AL l0_1 x8_1).f2))))=true:=decide_eq_true c13
         clear c13
         have H':=yA H
         clear H
         have p289:0≤(x8_1:Int):=yD
         have q289:x8_1<(l1.length:Int):=yD
         obtain ⟨ad289,e289,hx289_0,hx289_1⟩:=BE HR1.out x8_1 p289 q289
         cases e289
         replace hx289_0:=yC HB.out hx289_0
         replace hx289_1:=yC HB.out hx289_1
         replace p289:=eq_true p289
         replace q289:=eq_true q289
         have hcz14_0:wr.cell? ⟨gb287,0,none⟩=some (.int .i64 A8):=(AK BK287.out 0).trans rfl
         have hcz14_1:wr.cell? ⟨gb287,1,none⟩=some (.slice A0_1 l0_1.length c0_1):=(AK BK287.out 1).trans rfl
         have hfz14_0:=AJ BK287.out 0
         have hfz14_1:=AJ BK287.out 1
         have p290:0≤(x8_1:Int):=yD
         have q290:x8_1<(l0_1.length:Int):=yD
         obtain ⟨ad290,A290_3,c290_3,e290,hx290_0,hx290_1,hx290_2,hx290_3,hl290_3,hi290_3⟩:=Bb HR0_1.out x8_1 p290 q290
         cases e290
         replace hx290_0:=yC HB.out hx290_0
         replace hx290_1:=yC HB.out hx290_1
         replace hx290_2:=yC HB.out hx290_2
         replace hx290_3:=yC HB.out hx290_3
         have HR290_3:=yA hi290_3
         have HC290_3:=yA hl290_3
         clear hi290_3 hl290_3
         replace p290:=eq_true p290
         replace q290:=eq_true q290
         have p291:0≤(x8_1:Int):=yD
         have q291:x8_1<(l0_1.length:Int):=yD
         obtain ⟨ad291,A291_3,c291_3,e291,hx291_0,hx291_1,hx291_2,hx291_3,hl291_3,hi291_3⟩:=Bb HR0_1.out x8_1 p291 q291
         obtain rfl:ad290=ad291:=(by injection e291)
         replace hx291_0:=yC HB.out hx291_0
         replace hx291_1:=yC HB.out hx291_1
         replace hx291_2:=yC HB.out hx291_2
         replace hx291_3:=yC HB.out hx291_3
         have HR291_3:=yA hi291_3
         have HC291_3:=yA hl291_3
         clear hi291_3 hl291_3
         replace p291:=eq_true p291
         replace q291:=eq_true q291
         have ea_:=Option.some.inj (hx290_3.symm.trans hx291_3)
         injection ea_ with ea_ en_ ec_
         subst ea_
         subst ec_
         clear en_
         go_wp2
         repeat (go_quiet (fail); try go_wp2)
         go_roundg k1
         case measure=>have:=HK1.out; omega
         case rel=>exact ⟨(wrap64 ((wrap64 (((Aj l1 x8_1).f1)+((AL l0_1 x8_1).f1)))-((AL l0_1 x8_1).f2))),(wrap64 (x8_1+1)),zG,zG,H',⟨by have:=HK1.out; omega⟩,⟨by (with_reducible repeat (first|refine AG ?_ _|refine AH ?_|refine AF ?_ _)); exact BK287.out⟩,⟨by repeat (first|(with_reducible first|exact HB.out|apply AE|apply AC|apply AD|refine AI ?_ GE287.out)|exact HB.out)⟩⟩
        ·rw [if_neg c13] at H
         have c13b0:decide (x7_1<(wrap64 ((wrap64 (((Aj l1 x8_1).f1)+((AL l0_1 x8_1).f1)))-((AL l0_1 x8_1).f2))))=false:=decide_eq_false c13
         clear c13
         have H':=yA H
         clear H
         have p289:0≤(x8_1:Int):=yD
         have q289:x8_1<(l1.length:Int):=yD
         obtain ⟨ad289,e289,hx289_0,hx289_1⟩:=BE HR1.out x8_1 p289 q289
         cases e289
         replace hx289_0:=yC HB.out hx289_0
         replace hx289_1:=yC HB.out hx289_1
         replace p289:=eq_true p289
         replace q289:=eq_true q289
         have hcz15_0:wr.cell? ⟨gb287,0,none⟩=some (.int .i64 A8):=(AK BK287.out 0).trans rfl
         have hcz15_1:wr.cell? ⟨gb287,1,none⟩=some (.slice A0_1 l0_1.length c0_1):=(AK BK287.out 1).trans rfl
         have hfz15_0:=AJ BK287.out 0
         have hfz15_1:=AJ BK287.out 1
         have p290:0≤(x8_1:Int):=yD
         have q290:x8_1<(l0_1.length:Int):=yD
         obtain ⟨ad290,A290_3,c290_3,e290,hx290_0,hx290_1,hx290_2,hx290_3,hl290_3,hi290_3⟩:=Bb HR0_1.out x8_1 p290 q290
         cases e290
         replace hx290_0:=yC HB.out hx290_0
         replace hx290_1:=yC HB.out hx290_1
         replace hx290_2:=yC HB.out hx290_2
         replace hx290_3:=yC HB.out hx290_3
         have HR290_3:=yA hi290_3
         have HC290_3:=yA hl290_3
         clear hi290_3 hl290_3
         replace p290:=eq_true p290
         replace q290:=eq_true q290
         have p291:0≤(x8_1:Int):=yD
         have q291:x8_1<(l0_1.length:Int):=yD
         obtain ⟨ad291,A291_3,c291_3,e291,hx291_0,hx291_1,hx291_2,hx291_3,hl291_3,hi291_3⟩:=Bb HR0_1.out x8_1 p291 q291
         obtain rfl:ad290=ad291:=(by injection e291)
         replace hx291_0:=yC HB.out hx291_0
         replace hx291_1:=yC HB.out hx291_1
         replace hx291_2:=yC HB.out hx291_2
         replace hx291_3:=yC HB.out hx291_3
         have HR291_3:=yA hi291_3
         have HC291_3:=yA hl291_3
         clear hi291_3 hl291_3
         replace p291:=eq_true p291
         replace q291:=eq_true q291
         have ea_:=Option.some.inj (hx290_3.symm.trans hx291_3)
         injection ea_ with ea_ en_ ec_
         subst ea_
         subst ec_
         clear en_
         go_wp2
         repeat (go_quiet (fail); try go_wp2)
         go_roundg k1
         case measure=>have:=HK1.out; omega
         case rel=>exact ⟨(x7_1),(wrap64 (x8_1+1)),zG,zG,H',⟨by have:=HK1.out; omega⟩,⟨by (with_reducible repeat (first|refine AG ?_ _|refine AH ?_|refine AF ?_ _)); exact BK287.out⟩,⟨by repeat (first|(with_reducible first|exact HB.out|apply AE|apply AC|apply AD|refine AI ?_ GE287.out)|exact HB.out)⟩⟩
      ·rw [if_neg c10] at H
       exact absurd H zA6
     ·rw [if_neg c9] at H
      exact absurd H zA6
    ·rw [if_neg c8] at H
     have c8b0:decide (x8_1<(l1.length:Int))=false:=decide_eq_false c8
     clear c8
     simp only [Option.some.injEq,Prod.mk.injEq] at H
     obtain ⟨rfl,rfl⟩:=H
     go_wp2
     repeat (go_quiet (fail); try go_wp2)
     go_ret2
     exact ⟨by first|rfl|(simp [AZ,AY]<;>rfl)|(simp [*,AZ,AY]<;>rfl),by repeat (first|(with_reducible first|exact HB.out|apply AE|apply AC|apply AD|refine AI ?_ GE287.out)|exact HB.out)⟩
 ·rw [if_neg c4] at H
  have c4b0:(t288==0)=false:=beq_eq_false_iff_ne.mpr c4
  have c4b1:(t288 !=0)=true:=bne_iff_ne.mpr c4
  simp only [Option.some.injEq,Prod.mk.injEq] at H
  obtain ⟨rfl,rfl⟩:=H
  go_enter Tryd.func11,Tryd.ntmps11
  go_wp2_with (first|((with_reducible refine Ar (N:=2) rfl ?_); refine Ap ?hg (N:=2) ?hd (cs:= #[.int .i64 A8,.slice A0_1 l0_1.length c0_1]) (t:=24) ?hr ?_; (case hd=>rfl); (case hg=>rfl); (case hr=>first|(go_simp; done)|(go_simp; rfl)); intro gb287 hg w16 hbox hb; have n0_:=yA (AO zB hb); have n1_:=yA (hbox); have n2_:=yA ((by rw [hg]; exact (AT zB):w.heap.size≤gb287)); have n3_:=yA ((by rw [hg]; exact (AT zB):w.heap.size≤gb287)); clear HB; have HB:=n0_; have BK287:=n1_; have GW287:=n2_; have GE287:=n3_; clear n0_ n1_ n2_ n3_; clear hb hbox hg; have hcz17_0:w16.cell? ⟨gb287,0,none⟩=some (.int .i64 A8):=(AK BK287.out 0).trans rfl; have hcz17_1:w16.cell? ⟨gb287,1,none⟩=some (.slice A0_1 l0_1.length c0_1):=(AK BK287.out 1).trans rfl; have hfz17_0:=AJ BK287.out 0; have hfz17_1:=AJ BK287.out 1)|(go_at_call 17; (with_reducible refine (AU.calls k A8 _ _ l0_1 _ _ l1 t288 _ ?side1 ?side2 ?side3 ?side4 A3.out).mono ?_); (case side1=>repeat (first|exact (Kd.C_below HR0_1.out HB.out)|(with_reducible refine Kd.C_alloc ?_ _)|(with_reducible refine Kd.C_drewN ?_ _)|(with_reducible refine Kd.C_drew ?_))); (case side2=>exact HC0_1.out); (case side3=>repeat (first|exact (Kd.C_below HR1.out HB.out)|(with_reducible refine Kd.C_alloc ?_ _)|(with_reducible refine Kd.C_drewN ?_ _)|(with_reducible refine Kd.C_drew ?_))); (case side4=>exact HC1.out); rintro e w18 ⟨rfl,hb⟩; have n0_:=yA (AP (g:=gb287) (o:= .cells #[.int .i64 A8,.slice A0_1 l0_1.length c0_1] 24 (0,0)) zD4 hb); have n1_:=yA (AO zC2 hb); clear BK287; clear HB; have BK287:=n0_; have HB:=n1_; clear n0_ n1_; (try clear hb); (try clear hb2); (try clear hk); (try clear hi)))
  repeat (go_quiet (first|((with_reducible refine Ar (N:=2) rfl ?_); refine Ap ?hg (N:=2) ?hd (cs:= #[.int .i64 A8,.slice A0_1 l0_1.length c0_1]) (t:=24) ?hr ?_; (case hd=>rfl); (case hg=>rfl); (case hr=>first|(go_simp; done)|(go_simp; rfl)); intro gb287 hg w16 hbox hb; have n0_:=yA (AO zB hb); have n1_:=yA (hbox); have n2_:=yA ((by rw [hg]; exact (AT zB):w.heap.size≤gb287)); have n3_:=yA ((by rw [hg]; exact (AT zB):w.heap.size≤gb287)); clear HB; have HB:=n0_; have BK287:=n1_; have GW287:=n2_; have GE287:=n3_; clear n0_ n1_ n2_ n3_; clear hb hbox hg; have hcz17_0:w16.cell? ⟨gb287,0,none⟩=some (.int .i64 A8):=(AK BK287.out 0).trans rfl; have hcz17_1:w16.cell? ⟨gb287,1,none⟩=some (.slice A0_1 l0_1.length c0_1):=(AK BK287.out 1).trans rfl; have hfz17_0:=AJ BK287.out 0; have hfz17_1:=AJ BK287.out 1)|(go_at_call 17; (with_reducible refine (AU.calls k A8 _ _ l0_1 _ _ l1 t288 _ ?side1 ?side2 ?side3 ?side4 A3.out).mono ?_); (case side1=>repeat (first|exact (Kd.C_below HR0_1.out HB.out)|(with_reducible refine Kd.C_alloc ?_ _)|(with_reducible refine Kd.C_drewN ?_ _)|(with_reducible refine Kd.C_drew ?_))); (case side2=>exact HC0_1.out); (case side3=>repeat (first|exact (Kd.C_below HR1.out HB.out)|(with_reducible refine Kd.C_alloc ?_ _)|(with_reducible refine Kd.C_drewN ?_ _)|(with_reducible refine Kd.C_drew ?_))); (case side4=>exact HC1.out); rintro e w18 ⟨rfl,hb⟩; have n0_:=yA (AP (g:=gb287) (o:= .cells #[.int .i64 A8,.slice A0_1 l0_1.length c0_1] 24 (0,0)) zD4 hb); have n1_:=yA (AO zC2 hb); clear BK287; clear HB; have BK287:=n0_; have HB:=n1_; clear n0_ n1_; (try clear hb); (try clear hb2); (try clear hk); (try clear hi); clear A3)); try go_wp2_with (first|((with_reducible refine Ar (N:=2) rfl ?_); refine Ap ?hg (N:=2) ?hd (cs:= #[.int .i64 A8,.slice A0_1 l0_1.length c0_1]) (t:=24) ?hr ?_; (case hd=>rfl); (case hg=>rfl); (case hr=>first|(go_simp; done)|(go_simp; rfl)); intro gb287 hg w16 hbox hb; have n0_:=yA (AO zB hb); have n1_:=yA (hbox); have n2_:=yA ((by rw [hg]; exact (AT zB):w.heap.size≤gb287)); have n3_:=yA ((by rw [hg]; exact (AT zB):w.heap.size≤gb287)); clear HB; have HB:=n0_; have BK287:=n1_; have GW287:=n2_; have GE287:=n3_; clear n0_ n1_ n2_ n3_; clear hb hbox hg; have hcz17_0:w16.cell? ⟨gb287,0,none⟩=some (.int .i64 A8):=(AK BK287.out 0).trans rfl; have hcz17_1:w16.cell? ⟨gb287,1,none⟩=some (.slice A0_1 l0_1.length c0_1):=(AK BK287.out 1).trans rfl; have hfz17_0:=AJ BK287.out 0; have hfz17_1:=AJ BK287.out 1)|(go_at_call 17; (with_reducible refine (AU.calls k A8 _ _ l0_1 _ _ l1 t288 _ ?side1 ?side2 ?side3 ?side4 A3.out).mono ?_); (case side1=>repeat (first|exact (Kd.C_below HR0_1.out HB.out)|(with_reducible refine Kd.C_alloc ?_ _)|(with_reducible refine Kd.C_drewN ?_ _)|(with_reducible refine Kd.C_drew ?_))); (case side2=>exact HC0_1.out); (case side3=>repeat (first|exact (Kd.C_below HR1.out HB.out)|(with_reducible refine Kd.C_alloc ?_ _)|(with_reducible refine Kd.C_drewN ?_ _)|(with_reducible refine Kd.C_drew ?_))); (case side4=>exact HC1.out); rintro e w18 ⟨rfl,hb⟩; have n0_:=yA (AP (g:=gb287) (o:= .cells #[.int .i64 A8,.slice A0_1 l0_1.length c0_1] 24 (0,0)) zD4 hb); have n1_:=yA (AO zC2 hb); clear BK287; clear HB; have BK287:=n0_; have HB:=n1_; clear n0_ n1_; (try clear hb); (try clear hb2); (try clear hk); (try clear hi); clear A3)))
  go_ret2
  exact ⟨by first|rfl|(simp [AZ,AY]<;>rfl)|(simp [*,AZ,AY]<;>rfl),by repeat (first|(with_reducible first|exact HB.out|apply AE|apply AC|apply AD|refine AI ?_ GE287.out)|exact HB.out)⟩
end Go.Proofs.YtdadecjefafflaaDoor.PChk
end
section
namespace Go.Proofs.YtdadecjefafflaaDoor.PChk
set_option maxRecDepth 100000
open Go.RowKit Go.Proofs.YtdadecjefafflaaDoorW.PrintWords Go.Proofs.YtdadecjefafflaaDoorW.PrintLast Go.Proofs.YtdadecjefafflaaDoorW.PrintMore
attribute [local go_sem] Ba BX Be Bd BS BR BZ BW
def Cs (n:Int):ByteArray:=⟨(Go.Lib.itoa n).toArray⟩
def Bf.f (a0:Int):Option (ByteArray):=if 0≤a0∧a0≤1000000 then some (Cs a0) else none
def Tab (w:World):Prop:=Go.Lib.TabIs Tryd.prog w "internal/strconv.uint64pow10" .u64 Go.Lib.pow10Tab
theorem Tab.below {w W:World} (h:Tab w) (hb:Below w.heap.size w W):Tab W:=by
 unfold Tab Go.Lib.TabIs World.var? at h ⊢
 obtain ⟨g,hg,h2⟩:=Option.bind_eq_some_iff.mp h
 rw [hg]
 have hlt:g<w.heap.size:=by
  rcases Nat.lt_or_ge g w.heap.size with h'|h'
  ·exact h'
  ·rw [Array.getElem?_eq_none h'] at h2; cases h2
 show (match W.heap[g]? with|some (.cells cs _ _)=>some cs|_=>none)=_
 rw [hb.block g hlt]
 exact h2
theorem Bf.calls (a0:Int) (r:ByteArray) (w:World) (h:Bf.f a0=some r) (ht:Tab w):
  Calls Tryd.prog 26 #[.int .i64 a0] w fun e w'=>e= .returned (.string r)∧Below w.heap.size w w':=by
 unfold Bf.f at h
 by_cases hc:0≤a0∧a0≤1000000
 ·rw [if_pos hc] at h
  cases h
  refine (Tryd.itoa a0 zI zI w ht).mono ?_
  rintro e w' ⟨rfl,k,os,rfl⟩
  exact ⟨rfl,Go.Lib.below_grow _ w (Nat.le_refl _) k os⟩
 ·rw [if_neg hc] at h; cases h
def Cd (l:List ByteArray) (s:ByteArray):ByteArray:=⟨(Go.Lib.join (l.map (·.data.toList)) s.data.toList).toArray⟩
def Br.f (l0:List ByteArray) (a1:ByteArray):Option (ByteArray):=if (Cd l0 a1).size≤140737488355328∧l0.length≤140737488355328 then some (Cd l0 a1) else none
theorem EZ (g o j:Nat):(⟨g,o,none⟩:Addr).add j=⟨g,o+j,none⟩:=by unfold Addr.add; split<;>simp_all
theorem DY {w:World} {bk o:Nat} {sp:Option Nat} {v:Value} (h:w.cell? ((⟨bk,o,sp⟩:Addr).add 0)=some v):sp=none:=by
 cases sp with
 |none=>rfl
 | some q=>
  unfold World.cell? Addr.add at h
  revert h
  split<;>simp
theorem Br.calls (A0:Option Addr) (c0:Nat) (l0:List ByteArray) (a1:ByteArray) (r:ByteArray) (w:World) (hr0:Kd.C Kd.string w A0 l0.length l0) (hc0:l0.length≤c0) (h:Br.f l0 a1=some r):
  Calls Tryd.prog 27 #[.slice A0 l0.length c0,.string a1] w fun e w'=>e= .returned (.string r)∧Below w.heap.size w w':=by
 unfold Br.f at h
 by_cases hc:(Cd l0 a1).size≤140737488355328∧l0.length≤140737488355328
 ·rw [if_pos hc] at h
  cases h
  rcases Nat.eq_zero_or_pos l0.length with h0|h0
  ·obtain rfl:=List.eq_nil_of_length_eq_zero h0
   refine (Tryd.join_none A0 c0 a1 w).mono ?_
   rintro e w' ⟨rfl,rfl⟩
   exact ⟨rfl,Below.refl _ _⟩
  ·obtain ⟨ad,rfl,hcell⟩:=hr0.2.2 h0
   have hcs:∀j x,l0[j]? =some x→w.cell? (ad.add j)=some (.string x):=fun j x hj=>by
    obtain ⟨c,hl,hR,hq⟩:=hcell j x hj
    have hR:c=[Value.string x]:=hR
    subst hR
    have:=hq 0 _ rfl
    simpa [Kd.string,Kd.scalar] using this
   obtain ⟨x0,hx0⟩:∃x,l0[0]? =some x:=⟨_,List.getElem?_eq_getElem h0⟩
   obtain ⟨bk,o,sp⟩:=ad
   have h1:=hcs 0 x0 hx0
   have hsp:sp=none:=DY h1
   subst hsp
   refine (Tryd.join bk o c0 l0 a1 w (fun j x hj=>by have:=hcs j x hj; rwa [EZ] at this) (World.block_lt_of_cell? w _ h1) hc.2 hc0 (by have:=hc.1; unfold Cd at this; simpa [ByteArray.size] using this)).mono ?_
   rintro e w' ⟨rfl,hb⟩
   exact ⟨rfl,hb⟩
 ·rw [if_neg hc] at h; cases h
set_option maxHeartbeats 4000000 in
theorem EV (A1:Option Addr) (c1:Nat) (s:List S56) (g:Nat) (x y:Int) (W:World) (hx0:0≤x) (hx1:x<(s.length:Int)) (hy0:0≤y) (hy1:y<(s.length:Int)) (hr:Kd.C k56 W A1 s.length s)
  (hb:W.heap[g]? =some (.cells #[.slice A1 s.length c1] 35 (0,0))):
  Calls Tryd.prog 25 #[.int .i64 x,.int .i64 y,.pointer (some ⟨g,0,none⟩)] W fun e w'=>e= .returned (.int .i64 (wrap64 ((An s x).f1-(An s y).f1)))∧∃q,w'=W.drewN q:=by
 obtain ⟨ad,e1,hc0,hc1⟩:=Bh hr x hx0 hx1
 obtain ⟨ad',e2,hd0,hd1⟩:=Bh hr y hy0 hy1
 subst e1
 cases e2
 have hbx:W.cell? ⟨g,0,none⟩=some (.slice (some ad) s.length c1):=(AK hb 0).trans rfl
 have mixed:Tryd.prog.follows .mixedOrders=true:=by kernel_rfl
 have hu35:=Tryd.underlying35
 have hu56:=Tryd.underlying56
 generalize (An s x).f1=dx at hc1 ⊢
 generalize (An s y).f1=dy at hd1 ⊢
 clear hb hr hc0 hd0
 go_enter Tryd.func25,Tryd.ntmps25
 go_wp2_with fail
 go_big_region_o
 go_wp2
 go_ret
 exact ⟨rfl,⟨_,rfl⟩⟩
theorem EE {w:World} {base:Nat} {ok:Nat→Prop} {ps:List Int} {cs:List Value} :Reps ((Kd.int .i64).M w base ok) 1 ps cs↔cs=ps.map (Value.int .i64):=by
 constructor
 ·rintro ⟨h1,h2⟩
  apply List.ext_getElem?
  intro j
  by_cases hj:j<ps.length
  ·have e:=h2 j ps[j] (List.getElem?_eq_getElem hj)
   have e:(cs.drop (j*1)).take 1=[.int .i64 ps[j]]:=e
   have e2:((cs.drop (j*1)).take 1)[0]? =some (Value.int .i64 ps[j]):=by rw [e]; rfl
   rw [List.getElem?_take,if_pos zI,List.getElem?_drop] at e2
   rw [List.getElem?_map,List.getElem?_eq_getElem hj]
   simpa using e2
  ·rw [List.getElem?_eq_none zI,List.getElem?_eq_none (by simp; omega)]
 ·rintro rfl
  refine ⟨by simp,fun j p hp=> ?_⟩
  show ((ps.map (Value.int .i64)).drop (j*1)).take 1=[.int .i64 p]
  obtain ⟨hj,e⟩:=List.getElem?_eq_some_iff.mp hp
  rw [Nat.mul_one,List.drop_eq_getElem_cons (by simpa using hj)]
  simp [e]
theorem own_of_R {w:World} {base:Nat} {ok:Nat→Prop} {v:Value} {l:List Int} (h:(Kd.int .i64).R 3 w base ok v l):w.ownsRow base 3 1 v l.length (l.map (Value.int .i64)):=by
 obtain ⟨inner,ho,hr⟩:=h.2
 rw [←EE.mp hr]; exact ho
theorem R_of_own {w:World} {base:Nat} {ok:Nat→Prop} {v:Value} {l:List Int} (h0:∀k,v.ownBlock=some k→ok k) (h:w.ownsRow base 3 1 v l.length (l.map (Value.int .i64))):(Kd.int .i64).R 3 w base ok v l:=
 ⟨h0,_,h,EE.mpr rfl⟩
def D2 (s:List S56) (l:List Int):List Int:=l.mergeSort (fun x y=>decide ((An s x).f1≤(An s y).f1))
def Cl (s:List S56) (l:List Int):Prop:=(∀x∈l,0≤x∧x<(s.length:Int)∧0≤(An s x).f1∧(An s x).f1≤1000000)∧l.Pairwise (fun x y=>(An s x).f1≠(An s y).f1)∧l.length≤1000
instance (s:List S56) (l:List Int):Decidable (Cl s l):=by unfold Cl; infer_instance
def C4.f (l0:List Int) (l1:List (S56)):Option (List Int):=if Cl l1 l0 then some (D2 l1 l0) else none
def encG (l:List Int) {n:Nat} (x:Fin (n+1)):Value:= .int .i64 (l.getD x.val 0)
def keyG (s:List S56) (l:List Int) {n:Nat} (x:Fin (n+1)):Int:=(An s (l.getD x.val 0)).f1
def cfG (s:List S56) (l:List Int) {n:Nat} (x y:Fin (n+1)):Int:=keyG s l x-keyG s l y
open Go.Shelf Go.Lib Go.Sort in
theorem FN {s:List S56} {l:List Int} {n:Nat} {d':Array (Fin (n+1))} (hl:l.length=n+1) (hd:l.Pairwise (fun x y=>(An s x).f1≠(An s y).f1)) (hp:PermIn 0 (n+1) (List.finRange (n+1)).toArray d') (hso:SortedIn (ltOf (cfG s l)) 0 (n+1) d') (hs:d'.size=n+1):
  d'.toList.map (fun x=>l.getD x.val 0)=D2 s l:=by
 have hfr:(List.finRange (n+1)).map (fun x=>l.getD x.val 0)=l:=by
  apply List.ext_getElem
  ·simp [hl]
  ·intro i h1 h2; simp [List.getD_eq_getElem?_getD,h2]
 have hperm:d'.toList.Perm (List.finRange (n+1)):=by
  have h:=hp.2.2
  have e1:d'.extract 0 (n+1)=d':=by have:=Array.extract_size (xs:=d'); rwa [hs] at this
  have e2:(List.finRange (n+1)).toArray.extract 0 (n+1)=(List.finRange (n+1)).toArray:=by
   have:=Array.extract_size (xs:=(List.finRange (n+1)).toArray)
   simpa using this
  rw [e1,e2] at h
  exact h
 have hpl:(d'.toList.map (fun x=>l.getD x.val 0)).Perm l:=by
  have:=hperm.map (fun x:Fin (n+1)=>l.getD x.val 0)
  rwa [hfr] at this
 unfold D2
 refine List.Perm.eq_of_pairwise (le:=fun x y=>decide ((An s x).f1≤(An s y).f1)=true) ?_ ?_ ?_ (hpl.trans (List.mergeSort_perm _ _).symm)
 ·intro a b ha hb h1 h2
  simp only [decide_eq_true_eq] at h1 h2
  have ha':a∈l:=hpl.mem_iff.mp ha
  have hb':b∈l:=(List.mergeSort_perm l _).mem_iff.mp hb
  obtain ⟨i,hi,rfl⟩:=List.getElem_of_mem ha'
  obtain ⟨j,hj,rfl⟩:=List.getElem_of_mem hb'
  rcases Nat.lt_trichotomy i j with h|h|h
  ·exact absurd zI ((List.pairwise_iff_getElem.mp hd) i j hi hj h)
  ·subst h; rfl
  ·exact absurd zI ((List.pairwise_iff_getElem.mp hd) j i hj hi h)
 ·rw [List.pairwise_map,List.pairwise_iff_getElem]
  intro i j hi hj hij
  have hi':i<d'.size:=by simpa using hi
  have hj':j<d'.size:=by simpa using hj
  have:=hso i j (Nat.zero_le _) hij zI
  rw [getElem!_pos d' j hj',getElem!_pos d' i hi'] at this
  have this:¬((An s (l.getD (d'[j]).val 0)).f1-(An s (l.getD (d'[i]).val 0)).f1<0):=of_decide_eq_false this
  simp only [decide_eq_true_eq]
  simp only [Array.getElem_toList]
  omega
 ·refine List.pairwise_mergeSort ?_ ?_ _
  ·intro a b c h1 h2
   simp only [decide_eq_true_eq] at h1 h2 ⊢
   omega
  ·intro a b
   simp only [Bool.or_eq_true,decide_eq_true_eq]
   omega
theorem FD {l:List Int} {s:List S56} {r:List Int} (h:C4.f l s=some r):l.length=r.length:=by
 unfold C4.f at h
 by_cases hk:Cl s l
 ·rw [if_pos hk] at h
  cases h
  exact (List.mergeSort_perm l _).length_eq.symm
 ·rw [if_neg hk] at h; cases h
theorem R_keepS {W w':World} {base:Nat} {ok:Nat→Prop} {v:Value} {xs:List ByteArray} (h:Kd.string.R 9 W base ok v xs) (hk:∀k,k<W.heap.size→(∀cs,W.heap[k]? ≠some (.cells cs 3 (0,0)))→w'.heap[k]? =W.heap[k]?):Kd.string.R 9 w' base ok v xs:=
 Kd.R_mono (Kd.R_move (Kd.R_bound h) (fun k hk'=>by
  obtain ⟨_,_,hlt,q,hq,cells,hc⟩:=hk'
  have hq9:q=9:=by simpa [Kd.string,Kd.scalar] using hq
  subst hq9
  refine hk k hlt (fun cs hcs=> ?_)
  rw [hc] at hcs
  injection hcs with hcs
  injection hcs with _ hcs
  exact absurd hcs zA2)) (fun _ h=>h.1)
theorem D0 {W w':World} {g t:Nat} {cs:Array Value} (h:W.heap[g]? =some (.cells cs t (0,0))) (ht:t≠3) (hk:∀k,k<W.heap.size→(∀cs,W.heap[k]? ≠some (.cells cs 3 (0,0)))→w'.heap[k]? =W.heap[k]?):w'.heap[g]? =some (.cells cs t (0,0)):=by
 have hlt:g<W.heap.size:=by
  rcases Nat.lt_or_ge g W.heap.size with h'|h'
  ·exact h'
  ·rw [Array.getElem?_eq_none h'] at h; cases h
 rw [hk g hlt (fun cs' hcs=>by
  rw [h] at hcs
  injection hcs with hcs
  injection hcs with _ hcs
  exact ht hcs)]
 exact h
open Go.Shelf Go.Lib Go.Sort in
theorem EM {w W:World} {ok:Nat→Prop} {v:Value} {l:List Int} {A1:Option Addr} {c1:Nat} {s:List S56} {g:Nat} {r:List Int} (hR:(Kd.int .i64).R 3 W w.heap.size ok v l) (hr:Kd.C k56 w A1 s.length s) (hB:Below w.heap.size w W)
  (hb:W.heap[g]? =some (.cells #[.slice A1 s.length c1] 35 (0,0))) (h:C4.f l s=some r):
  Calls Tryd.prog 24 #[v,.func (.func 25) #[] #[.pointer (some ⟨g,0,none⟩)]] W fun e w'=>e= .returned (.tuple #[])∧(Kd.int .i64).R 3 w' w.heap.size ok v r∧Below w.heap.size w w'∧∀k,k<W.heap.size→(∀cs,W.heap[k]? ≠some (.cells cs 3 (0,0)))→w'.heap[k]? =W.heap[k]? :=by
 unfold C4.f at h
 by_cases hk:Cl s l
 ·rw [if_pos hk] at h
  cases h
  obtain ⟨hd,hne,h1000⟩:=hk
  rcases Nat.eq_zero_or_pos l.length with hn|hn0
  ·obtain rfl:=List.eq_nil_of_length_eq_zero hn
   have hv:∃p c,v= .slice p 0 c:=by
    obtain ⟨A,c,e⟩:=Kd.R_slice hR
    exact ⟨A,c,e⟩
   obtain ⟨p,c,rfl⟩:=hv
   refine (Tryd.sort_none p c _ W).mono ?_
   rintro e w' ⟨rfl,rfl⟩
   refine ⟨rfl,?_,hB,fun _ _ _=>rfl⟩
   have e:D2 s []=[]:=by unfold D2; simp
   rw [e]; exact hR
  ·obtain ⟨n,hlz⟩:∃n,l.length=n+1:=⟨l.length-1,by omega⟩
   have hz:l.map (Value.int .i64)=(List.finRange (n+1)).map (encG l):=by
    apply List.ext_getElem
    ·simp [hlz]
    ·intro i h1 h2
     have hi:i<l.length:=by simpa using h1
     simp [encG,List.getD_eq_getElem?_getD,hi]
   have hown:=own_of_R hR
   rw [hlz,hz] at hown
   have hv:v≠ .slice none 0 0:=by
    rintro rfl
    obtain ⟨A,c,e⟩:=Kd.R_slice hR
    injection e with _ e2 _
    omega
   obtain ⟨g',cap,rfl,hbase,hlt,hncap,hcm,hzl,hH⟩:=holds_of_ownsRow hown hv
   obtain ⟨cells',hcells'⟩:=CM hown g' rfl
   have hsame:∀(mm:Nat) (os:Array Obj) (dk:Array (Fin (n+1))) k,k<W.heap.size→(∀cs,W.heap[k]? ≠some (.cells cs 3 (0,0)))→(sortWorld (encG l) W g' 0 mm dk os).heap[k]? =W.heap[k]? :=fun mm os dk k hk ho=>by
    have hkg:g'≠k:=by
     rintro rfl
     exact ho _ hcells'
    have s1:(putRow (encG l) (Sort.ahead W mm) g' 0 dk).heap.size=W.heap.size:=size_putRow _ _ _ _ _
    unfold sortWorld
    rw [heap_grow_old _ _ (by rw [s1]; exact hk)]
    simp [putRow,mapBlock,Sort.ahead,Array.getElem?_modify,hkg]
   have hglt:g<W.heap.size:=by
    rcases Nat.lt_or_ge g W.heap.size with h'|h'
    ·exact h'
    ·rw [Array.getElem?_eq_none h'] at hb; cases hb
   have hput:∀(mm:Nat) (os:Array Obj) (dk:Array (Fin (n+1))),Below w.heap.size w (sortWorld (encG l) W g' 0 mm dk os):=fun mm os dk=>by
    have b1:Below w.heap.size w (putRow (encG l) (Sort.ahead W mm) g' 0 dk):=below_putRow hB hbase
    exact b1.trans (below_grow _ (putRow (encG l) (Sort.ahead W mm) g' 0 dk) b1.size 0 os)
   have hin:∀x:Fin (n+1),l.getD x.val 0∈l:=fun x=>by
    have hx:x.val<l.length:=by have:=x.isLt; omega
    rw [List.getD_eq_getElem?_getD,List.getElem?_eq_getElem hx]
    exact List.getElem_mem hx
   have hcmp:CmpLays1 Tryd.prog 25 #[.pointer (some ⟨g,0,none⟩)] (encG l) (cfG s l) g' 0 (List.finRange (n+1)).toArray.size W:=fun mm os dk hs x y=>by
    have hb2:=hput mm os dk
    have hg2:=D0 hb zA2 (hsame mm os dk)
    have h1:=hd _ (hin x); have h2:=hd _ (hin y)
    refine (EV A1 c1 s g (l.getD x.val 0) (l.getD y.val 0) _ h1.1 h1.2.1 h2.1 h2.2.1 (Kd.C_below hr hb2) hg2).mono ?_
    rintro e w' ⟨rfl,q,rfl⟩
    refine ⟨?_,q,#[],(grow_empty _).symm⟩
    unfold cfG keyG
    rw [show wrap64 ((An s (l.getD x.val 0)).f1-(An s (l.getD y.val 0)).f1)=(An s (l.getD x.val 0)).f1-(An s (l.getD y.val 0)).f1 by unfold wrap64; omega]
   have hswo:SWO (ltOf (cfG (n:=n) s l)):=⟨fun x=>decide_eq_false (by unfold cfG; omega),fun x y z h1 h2=>decide_eq_true (by have a:=of_decide_eq_true h1; have b:=of_decide_eq_true h2; unfold cfG at*; omega),fun x y z h1 h2=>decide_eq_false (by have a:=of_decide_eq_false h1; have b:=of_decide_eq_false h2; unfold cfG at*; omega)⟩
   have hsz:(List.finRange (n+1)).toArray.size=n+1:=by simp
   have hcall:=Tryd.sort (encG l) (fun _=>rfl) (cfG s l) hswo 25 #[.pointer (some ⟨g,0,none⟩)] g' 0 cap (List.finRange (n+1)).toArray W (enters_of Tryd.func25 zE rfl) hcmp hH hlt (by rw [hsz]; omega)
   rw [hsz] at hcall
   refine hcall.mono ?_
   rintro e w' ⟨rfl,d',mm,os,hP,hso,rfl⟩
   have hs:d'.size=n+1:=by rw [hP.1]; exact hsz
   refine ⟨rfl,?_,hput mm os d',hsame mm os d'⟩
   have hd':d'.toList.length=n+1:=by simpa using hs
   have h1:=ownsRow_putRow (q:=mm) (k:=n+1) hown hd' (Nat.le_refl _)
   rw [List.take_of_length_le zI] at h1
   have h2:(sortWorld (encG l) W g' 0 mm d' os).ownsRow w.heap.size 3 1 (.slice (some ⟨g',0,none⟩) (n+1) cap) (n+1) (d'.toList.map (encG l)):=by
    refine E9 h1 (fun k hk=> ?_)
    have hk':g'=k:=by simpa [Value.ownBlock] using hk
    subst hk'
    unfold sortWorld
    exact heap_grow_old _ _ (by rw [size_putRow]; exact hlt)
   have e1:(D2 s l).map (Value.int .i64)=d'.toList.map (encG l):=by
    rw [←FN hlz hne hP hso hs,List.map_map]
    rfl
   have e2:(D2 s l).length=n+1:=by
    have:=congrArg List.length e1
    simpa [hs] using this
   refine R_of_own hR.1 ?_
   rw [e2,e1]
   exact h2
 ·rw [if_neg hk] at h; cases h
end Go.Proofs.YtdadecjefafflaaDoor.PChk
end
section
namespace Go.Proofs.YtdadecjefafflaaDoor.PChk
set_option maxRecDepth 100000
open Go.RowKit Go.Proofs.YtdadecjefafflaaDoorW.PrintWords Go.Proofs.YtdadecjefafflaaDoorW.PrintLast Go.Proofs.YtdadecjefafflaaDoorW.PrintMore
attribute [local go_sem] Ba BX Be Bd BS BR BZ BW
mutual
def Af.l0:Nat→List ByteArray→Int→Int→Int→List (S49)→List (S56)→Option (List ByteArray×Int)
 |0,_,_,_,_,_,_=>none
 |k+1,x7,x22,x23,x314000,x314001,x315000=>if x23<x22 then (Af.l1 k x7 x23 ([]:List Int) x22 x23 x315000 (x315000.length:Int) 0 x314000 x314001 x315000) else (some (x7,0))
def Af.l1:Nat→List ByteArray→Int→List Int→Int→Int→List (S56)→Int→Int→Int→List (S49)→List (S56)→Option (List ByteArray×Int)
 |0,_,_,_,_,_,_,_,_,_,_,_=>none
 |k+1,x7,x8,x9,x22,x23,x26,x27,x28,x314000,x314001,x315000=>if x28<x27 then (if 0≤x28 then (if x28<(x26.length:Int) then (if ((An x26 x28).f0)=x8 then (if x9.length<17592186044416 then (Af.l1 k x7 x8 (x9++[x28]) x22 x23 x26 x27 (wrap64 (x28+1)) x314000 x314001 x315000) else (none)) else (Af.l1 k x7 x8 x9 x22 x23 x26 x27 (wrap64 (x28+1)) x314000 x314001 x315000)) else (none)) else (none)) else ((C4.f x9 x315000).bind fun t321=>(Af.l2 k x7 ([]:List ByteArray) x22 x23 t321 (t321.length:Int) 0 x314000 x314001 x315000))
def Af.l2:Nat→List ByteArray→List ByteArray→Int→Int→List Int→Int→Int→Int→List (S49)→List (S56)→Option (List ByteArray×Int)
 |0,_,_,_,_,_,_,_,_,_,_=>none
 |k+1,x7,x12,x22,x23,x45,x46,x47,x314000,x314001,x315000=>if x47<x46 then (if 0≤x47 then (if x47<(x45.length:Int) then (if 0≤(rd x45 x47) then (if (rd x45 x47)<(x314001.length:Int) then (if ((AM x314001 (rd x45 x47)).f0).size+1≤9223372036854775807 then (if (rd x45 x47)<(x315000.length:Int) then ((Bf.f ((An x315000 (rd x45 x47)).f1)).bind fun t327=>(if (((AM x314001 (rd x45 x47)).f0)++(⟨#[64]⟩:ByteArray)).size+t327.size≤9223372036854775807 then (if x12.length<8796093022208 then (Af.l2 k x7 (x12++[(((AM x314001 (rd x45 x47)).f0)++(⟨#[64]⟩:ByteArray))++t327]) x22 x23 x45 x46 (wrap64 (x47+1)) x314000 x314001 x315000) else (none)) else (none))) else (none)) else (none)) else (none)) else (none)) else (none)) else (none)) else ((Br.f x12 (⟨#[32]⟩:ByteArray)).bind fun t331=>(if x7.length<8796093022208 then (Af.l0 k (x7++[t331]) x22 (wrap64 (x23+1)) x314000 x314001 x315000) else (none)))
end
def Af.f (k:Nat) (A8:Int) (l0_1:List (S49)) (l1:List (S56)):Option (List ByteArray×Int):=(Ab.f k A8 l0_1 l1).bind fun t315=>(if t315=0 then (Af.l0 k ([]:List ByteArray) A8 0 A8 l0_1 l1) else (some (([]:List ByteArray),t315)))
def Af.T20:Bool×List (List Nat×List Nat):=(true,[([],[]),([],[]),([1],[1]),([],[]),([2,3],[2,3]),([4],[4]),([5],[5]),([6],[6]),([],[]),([],[]),([8,9],[8,9]),([10],[10]),([11],[11]),([12],[12]),([7,13],[7,13]),([14],[14]),([0,15,13],[0,15]),([16,16,0,1,2,3,4,5,6,7,8,9,10,11,12,13,14,15,16],[0,16])])
def Af.B20:List Nat:=[0,0,2,0,14,30,62,126,0,0,768,1792,3840,7936,16382,32766,65535,131071]
theorem Af.tab20:rtab .any (Cq Tryd.f12 20)=Af.T20:=by kernel_rfl
theorem Af.bits20:Bz Af.T20.2 Af.B20=true:=by kernel_rfl
set_option maxHeartbeats 8000000 in
theorem Af.calls (k : Nat) (A8:Int) (A0_1:Option Addr) (c0_1:Nat) (l0_1:List (S49)) (A1:Option Addr) (c1:Nat) (l1:List (S56)) (r1:List ByteArray) (r2:Int) (w:World) (hr0_1:Kd.C k49 w A0_1 l0_1.length l0_1) (hc0_1:l0_1.length≤c0_1) (hr1:Kd.C k56 w A1 l1.length l1) (hc1:l1.length≤c1) (h:Af.f k A8 l0_1 l1=some (r1,r2)) (ht:Tab w):
  Calls Tryd.prog 12 #[.agg #[.int .i64 A8,.slice A0_1 l0_1.length c0_1],.slice A1 l1.length c1] w fun e w'=>∃v0_:Value,e= .returned (.tuple #[v0_,.int .i64 r2])∧Kd.R Kd.string 9 w' w.heap.size (fun _=>True) v0_ r1∧Below w.heap.size w w':=by
 have HTB:=yA ht
 clear ht
 have hu33:=Tryd.underlying33
 have hu56:=Tryd.underlying56
 have HR0_1:=yA hr0_1
 have HC0_1:=yA hc0_1
 clear hr0_1 hc0_1
 have HR1:=yA hr1
 have HC1:=yA hc1
 clear hr1 hc1
 have HB:=yA (Below.refl w.heap.size w)
 have H:((Ab.f k A8 l0_1 l1).bind fun t315=>(if t315=0 then (Af.l0 k ([]:List ByteArray) A8 0 A8 l0_1 l1) else (some (([]:List ByteArray),t315))))=some (r1,r2):=h
 clear h
 replace H:=Option.bind_eq_some_iff.mp H
 obtain ⟨t315,A30,H⟩:=H
 replace H:(if t315=0 then (Af.l0 k ([]:List ByteArray) A8 0 A8 l0_1 l1) else (some (([]:List ByteArray),t315)))=some (r1,r2):=H
 have A3:=yA A30
 clear A30
 by_cases c4:t315=0
 ·rw [if_pos c4] at H
  have c4b0:(t315==0)=true:=beq_iff_eq.mpr c4
  have c4b1:(t315 !=0)=false:=bne_eq_false_iff_eq.mpr c4
  clear c4
  have H':=yA H
  clear H
  go_enter Tryd.func12,Tryd.ntmps12
  go_wp2_with (first|((with_reducible refine Ar (N:=2) rfl ?_); refine Ap ?hg (N:=2) ?hd (cs:= #[.int .i64 A8,.slice A0_1 l0_1.length c0_1]) (t:=33) ?hr ?_; (case hd=>rfl); (case hg=>rfl); (case hr=>first|(go_simp; done)|(go_simp; rfl)); intro gb313 hg w5 hbox hb; have n0_:=yA (AO zB hb); have n1_:=yA (hbox); have n2_:=yA ((by rw [hg]; exact (AT zB):w.heap.size≤gb313)); have n3_:=yA ((by rw [hg]; exact (AT zB):w.heap.size≤gb313)); clear HB; have HB:=n0_; have BK313:=n1_; have GW313:=n2_; have GE313:=n3_; clear n0_ n1_ n2_ n3_; clear hb hbox hg)|((with_reducible refine Ar (N:=3) rfl ?_); refine Ap ?hg (N:=3) ?hd (cs:= #[.slice A1 l1.length c1]) (t:=35) ?hr ?_; (case hd=>rfl); (case hg=>rfl); (case hr=>first|(go_simp; done)|(go_simp; rfl)); intro gb314 hg w6 hbox hb; have n0_:=yA (AP (g:=gb313) (o:= .cells #[.int .i64 A8,.slice A0_1 l0_1.length c0_1] 33 (0,0)) zV hb); have n1_:=yA (AO zB6 hb); have n2_:=yA (hbox); have n3_:=yA ((by rw [hg]; exact (AT zB6):w.heap.size≤gb314)); have n4_:=yA ((by rw [hg]; exact (AT zB6):w.heap.size≤gb314)); have n5_:=yA ((by rw [hg]; exact Nat.ne_of_lt (B0 (g:=gb313) (o:= .cells #[.int .i64 A8,.slice A0_1 l0_1.length c0_1] 33 (0,0)) zV):gb313≠gb314)); have n6_:=yA ((by rw [hg]; exact Nat.ne_of_gt (B0 (g:=gb313) (o:= .cells #[.int .i64 A8,.slice A0_1 l0_1.length c0_1] 33 (0,0)) zV):gb314≠gb313)); clear BK313; clear HB; have BK313:=n0_; have HB:=n1_; have BK314:=n2_; have GW314:=n3_; have GE314:=n4_; have NB313_314:=n5_; have NB314_313:=n6_; clear n0_ n1_ n2_ n3_ n4_ n5_ n6_; clear hb hbox hg; have hnb7:=NB313_314.out; have hnc7:=NB314_313.out; have hcz8_0:w6.cell? ⟨gb313,0,none⟩=some (.int .i64 A8):=(AK BK313.out 0).trans rfl; have hcz8_1:w6.cell? ⟨gb313,1,none⟩=some (.slice A0_1 l0_1.length c0_1):=(AK BK313.out 1).trans rfl; have hfz8_0:=AJ BK313.out 0; have hfz8_1:=AJ BK313.out 1; have hcz9_0:w6.cell? ⟨gb314,0,none⟩=some (.slice A1 l1.length c1):=(AK BK314.out 0).trans rfl; have hfz9_0:=AJ BK314.out 0)|((with_reducible refine Ah (f:=16) rfl ?_); refine BB (some 17) rfl rfl Tryd.func16 zE rfl #[.agg #[.int .i64 A8,.slice A0_1 l0_1.length c0_1],.slice A1 l1.length c1] rfl zD ?_; (with_reducible refine (Ab.calls k A8 _ _ l0_1 _ _ l1 t315 _ ?side1 ?side2 ?side3 ?side4 A3.out).mono ?_); (case side1=>repeat (first|exact (Kd.C_below HR0_1.out HB.out)|(with_reducible refine Kd.C_alloc ?_ _)|(with_reducible refine Kd.C_drewN ?_ _)|(with_reducible refine Kd.C_drew ?_))); (case side2=>exact HC0_1.out); (case side3=>repeat (first|exact (Kd.C_below HR1.out HB.out)|(with_reducible refine Kd.C_alloc ?_ _)|(with_reducible refine Kd.C_drewN ?_ _)|(with_reducible refine Kd.C_drew ?_))); (case side4=>exact HC1.out); rintro e w10 ⟨rfl,hb⟩; refine ⟨_,rfl,?_⟩; have n0_:=yA (AP (g:=gb313) (o:= .cells #[.int .i64 A8,.slice A0_1 l0_1.length c0_1] 33 (0,0)) zV hb); have n1_:=yA (AP (g:=gb314) (o:= .cells #[.slice A1 l1.length c1] 35 (0,0)) zA1 hb); have n2_:=yA (AO zS hb); clear BK313; clear BK314; clear HB; have BK313:=n0_; have BK314:=n1_; have HB:=n2_; clear n0_ n1_ n2_; (try clear hb); (try clear hb2); (try clear hk); (try clear hi); have hcz11_0:w10.cell? ⟨gb313,0,none⟩=some (.int .i64 A8):=(AK BK313.out 0).trans rfl; have hcz11_1:w10.cell? ⟨gb313,1,none⟩=some (.slice A0_1 l0_1.length c0_1):=(AK BK313.out 1).trans rfl; have hfz11_0:=AJ BK313.out 0; have hfz11_1:=AJ BK313.out 1))
  go_loopg [7,23] k (fun kq v7 v23 w'=>∃(x7_1:List ByteArray) (x23_1:Int),v23= .int .i64 x23_1∧Aside0 (Af.l0 kq x7_1 A8 x23_1 A8 l0_1 l1=some (r1,r2))∧Aside0 (kq≤k)∧Aside0 (Kd.R Kd.string 9 w' w.heap.size (fun _=>True) v7 x7_1)∧Aside0 (w'.heap[gb313]? =some (.cells #[.int .i64 A8,(.slice A0_1 l0_1.length c0_1)] 33 (0,0)))∧Aside0 (w'.heap[gb314]? =some (.cells #[(.slice A1 l1.length c1)] 35 (0,0)))∧Aside0 (Below w.heap.size w w'))
  case atStart=>exact ⟨(([]:List ByteArray)),(0),zG,H',⟨Nat.le_refl _⟩,⟨by first|exact Kd.R_nil _ _ _ _ _|exact Kd.N_nil _ _ _ _ _|exact Kd.V_nil _ _ _ _ _|exact Kd.Q_nil _ _ _ _ _|exact Kd.S_nil _ _ _ _ _⟩,⟨by (with_reducible repeat (first|refine AG ?_ _|refine AH ?_|refine AF ?_ _)); exact BK313.out⟩,⟨by (with_reducible repeat (first|refine AG ?_ _|refine AH ?_|refine AF ?_ _)); exact BK314.out⟩,⟨by repeat (first|(with_reducible first|exact HB.out|apply AE|apply AC|apply AD|refine AI ?_ GE313.out|refine AI ?_ GE314.out)|exact HB.out)⟩⟩
  case round=>
   clear H'
   try clear c1
   try clear p2
   try clear c4
   try clear c4b0
   try clear c4b1
   try clear c7
   try clear hcz11_0
   try clear hcz11_1
   try clear hcz8_0
   try clear hcz8_1
   try clear hcz9_0
   try clear hfz11_0
   try clear hfz11_1
   try clear hfz8_0
   try clear hfz8_1
   try clear hfz9_0
   obtain ⟨x7_1,x23_1,rfl,HA,HK1,HO_7,BK313,BK314,HB⟩:=hrel
   cases gk with
   |zero=>exact absurd HA.out (by simp [Af.l0])
   | succ k1 =>
    have H:=HA.out
    clear HA
    simp only [Af.l0] at H
    by_cases c12:x23_1<A8
    ·rw [if_pos c12] at H
     have c12b0:decide (x23_1<A8)=true:=decide_eq_true c12
     clear c12
     have H':=yA H
     clear H
     have hnb13:=NB314_313.out
     have hnc13:=NB313_314.out
     have hcz14_0:wr.cell? ⟨gb314,0,none⟩=some (.slice A1 l1.length c1):=(AK BK314.out 0).trans rfl
     have hfz14_0:=AJ BK314.out 0
     go_wp2
     go_loopg [9,28] k1 (fun kq v9 v28 w'=>∃(x9_2:List Int) (x28_2:Int),v28= .int .i64 x28_2∧Aside0 (Af.l1 kq x7_1 x23_1 x9_2 A8 x23_1 l1 (l1.length:Int) x28_2 A8 l0_1 l1=some (r1,r2))∧Aside0 (kq≤k1)∧Aside0 (Kd.R Kd.string 9 w' w.heap.size (fun _=>True) u7 x7_1)∧Aside0 (Kd.R (Kd.int .i64) 3 w' w.heap.size (fun _=>True) v9 x9_2)∧Aside0 (w'.heap[gb313]? =some (.cells #[.int .i64 A8,(.slice A0_1 l0_1.length c0_1)] 33 (0,0)))∧Aside0 (w'.heap[gb314]? =some (.cells #[(.slice A1 l1.length c1)] 35 (0,0)))∧Aside0 (Below w.heap.size w w'))
     case atStart=>exact ⟨(([]:List Int)),(0),zG,H',⟨Nat.le_refl _⟩,⟨by (with_reducible repeat (first|apply Kd.R_alloc|apply Kd.R_drewN|apply Kd.R_drew)); exact HO_7.out⟩,⟨by first|exact Kd.R_nil _ _ _ _ _|exact Kd.N_nil _ _ _ _ _|exact Kd.V_nil _ _ _ _ _|exact Kd.Q_nil _ _ _ _ _|exact Kd.S_nil _ _ _ _ _⟩,⟨by (with_reducible repeat (first|refine AG ?_ _|refine AH ?_|refine AF ?_ _)); exact BK313.out⟩,⟨by (with_reducible repeat (first|refine AG ?_ _|refine AH ?_|refine AF ?_ _)); exact BK314.out⟩,⟨by repeat (first|(with_reducible first|exact HB.out|apply AE|apply AC|apply AD|refine AI ?_ GE313.out|refine AI ?_ GE314.out)|exact HB.out)⟩⟩
     case round=>
      clear H'
      try clear c1
      try clear p2
      try clear c4
      try clear c4b0
      try clear c4b1
      try clear c7
      try clear c12
      try clear c12b0
      try clear c13
      try clear hcz11_0
      try clear hcz11_1
      try clear hcz14_0
      try clear hcz8_0
      try clear hcz8_1
      try clear hcz9_0
      try clear hfz11_0
      try clear hfz11_1
      try clear hfz14_0
      try clear hfz8_0
      try clear hfz8_1
      try clear hfz9_0
      try clear p2
      obtain ⟨x9_2,x28_2,rfl,HA,HK2,HO_7,HO_9,BK313,BK314,HB⟩:=hrel
      cases gk with
      |zero=>exact absurd HA.out (by simp [Af.l1])
      | succ k2 =>
       have H:=HA.out
       clear HA
       simp only [Af.l1] at H
       by_cases c15:x28_2<(l1.length:Int)
       ·rw [if_pos c15] at H
        have c15b0:decide (x28_2<(l1.length:Int))=true:=decide_eq_true c15
        clear c15
        by_cases c16:0≤x28_2
        ·rw [if_pos c16] at H
         have c16b0:decide (0≤x28_2)=true:=decide_eq_true c16
         clear c16
         by_cases c17:x28_2<(l1.length:Int)
         ·rw [if_pos c17] at H
          have c17b0:decide (x28_2<(l1.length:Int))=true:=decide_eq_true c17
          clear c17
          by_cases c18:((An l1 x28_2).f0)=x23_1
          ·rw [if_pos c18] at H
           have c18b0:(((An l1 x28_2).f0)==x23_1)=true:=beq_iff_eq.mpr c18
           have c18b1:(((An l1 x28_2).f0) !=x23_1)=false:=bne_eq_false_iff_eq.mpr c18
           clear c18
           by_cases c19:x9_2.length<17592186044416
           ·rw [if_pos c19] at H
            have LMc19:=yA c19
            clear c19
            obtain ⟨y318,hy318⟩:∃y_:List Int,y_=(x9_2++[x28_2]):=⟨_,rfl⟩
            replace H:(Af.l1 k2 x7_1 x23_1 y318 A8 x23_1 l1 (l1.length:Int) (wrap64 (x28_2+1)) A8 l0_1 l1)=some (r1,r2):=by first|(rw [hy318]; with_reducible exact H)|(have H2_:=(Option.bind_some _ _).symm.trans H; rw [hy318]; with_reducible exact H2_)|(have H2_:=(Option.bind_some _ _).symm.trans H; with_reducible exact H2_)|with_reducible exact H|(rw [hy318]; exact H)|exact H
            have Ny318:=yA hy318
            clear hy318
            have H':=yA H
            clear H
            have p316:0≤(x28_2:Int):=yD
            have q316:x28_2<(l1.length:Int):=yD
            obtain ⟨ad316,e316,hx316_0,hx316_1⟩:=Bh HR1.out x28_2 p316 q316
            cases e316
            replace hx316_0:=yC HB.out hx316_0
            replace hx316_1:=yC HB.out hx316_1
            replace p316:=eq_true p316
            replace q316:=eq_true q316
            go_wp2_with (first|((with_reducible refine Ar (N:=11) rfl ?_); refine Ap ?hg (N:=11) ?hd (cs:= #[.int .i64 0,.int .i64 0]) (t:=56) ?hr ?_; (case hd=>rfl); (case hg=>rfl); (case hr=>first|(go_simp; done)|(go_simp; rfl)); intro gb317 hg w20 hbox hb; have n0_:=yA (Kd.R_below zY hb); have n1_:=yA (Kd.R_below (by (with_reducible repeat (first|apply Kd.R_alloc|apply Kd.R_drewN|apply Kd.R_drew)); exact HO_9.out) hb); have n2_:=yA (AP (g:=gb313) (o:= .cells #[.int .i64 A8,.slice A0_1 l0_1.length c0_1] 33 (0,0)) zV hb); have n3_:=yA (AP (g:=gb314) (o:= .cells #[.slice (some ad316) l1.length c1] 35 (0,0)) zA1 hb); have n4_:=yA (AO zS hb); have n5_:=yA (hbox); have n6_:=yA ((by rw [hg]; exact (AT zS):w.heap.size≤gb317)); have n7_:=yA ((by rw [hg]; exact (AT zS):w.heap.size≤gb317)); have n8_:=yA ((by rw [hg]; exact Nat.ne_of_lt (B0 (g:=gb313) (o:= .cells #[.int .i64 A8,.slice A0_1 l0_1.length c0_1] 33 (0,0)) zV):gb313≠gb317)); have n9_:=yA ((by rw [hg]; exact Nat.ne_of_gt (B0 (g:=gb313) (o:= .cells #[.int .i64 A8,.slice A0_1 l0_1.length c0_1] 33 (0,0)) zV):gb317≠gb313)); have n10_:=yA ((by rw [hg]; exact Nat.ne_of_lt (B0 (g:=gb314) (o:= .cells #[.slice (some ad316) l1.length c1] 35 (0,0)) zA1):gb314≠gb317)); have n11_:=yA ((by rw [hg]; exact Nat.ne_of_gt (B0 (g:=gb314) (o:= .cells #[.slice (some ad316) l1.length c1] 35 (0,0)) zA1):gb317≠gb314)); clear HO_7; clear HO_9; clear BK313; clear BK314; clear HB; have HO_7:=n0_; have HO_9:=n1_; have BK313:=n2_; have BK314:=n3_; have HB:=n4_; have BK317:=n5_; have GW317:=n6_; have GE317:=n7_; have NB313_317:=n8_; have NB317_313:=n9_; have NB314_317:=n10_; have NB317_314:=n11_; clear n0_ n1_ n2_ n3_ n4_ n5_ n6_ n7_ n8_ n9_ n10_ n11_; clear hb hbox hg; have hnb21:=NB317_313.out; have hnc21:=NB313_317.out; have hnb22:=NB317_314.out; have hnc22:=NB314_317.out; have hcz23_0:w20.cell? ⟨gb317,0,none⟩=some (.int .i64 0):=(AK BK317.out 0).trans rfl; have hcz23_1:w20.cell? ⟨gb317,1,none⟩=some (.int .i64 0):=(AK BK317.out 1).trans rfl; have hfz23_0:=AJ BK317.out 0; have hfz23_1:=AJ BK317.out 1)|((with_reducible refine Bs (b:= .append) (xs:= #[.tmp 37,.tmp 39]) rfl ?_); at_builtin; refine Kd.R_append (Kd.int .i64) (w0:=w) w.heap.size rfl (.tmp 37) (.tmp 39) 47 3 (.int .i64 0) 8 rfl Tryd.underlying47 info3 rfl zA2 zI u9 x9_2 x28_2 [.int .i64 x28_2] (fun _=>True) (fun _=>False) rfl (by first|(go_simp; done)|(go_simp; rfl)) ?aP (fun _ hk=>hk.elim) ?aF ?aO ?aB ?aS ?aL ?_; (case aP=>exact rfl); (case aB=>exact (by repeat (first|(with_reducible first|exact HB.out|apply AE|apply AC|apply AD|refine AI ?_ GE313.out|refine AI ?_ GE314.out|refine AI ?_ GE317.out)|exact HB.out))); (case aF=>exact (fun _ _=>trivial)); (case aO=>exact (by (with_reducible repeat (first|apply Kd.R_alloc|apply Kd.R_drewN|apply Kd.R_drew)); exact Kd.R_mono (Kd.R_far (p:=⟨gb317,1,none⟩) (Kd.R_far (p:=⟨gb317,0,none⟩) (Kd.R_types HO_9.out BK317.out zA2) (fun _ hk=>hk.2) (.int .i64 ((An l1 x28_2).f0))) (fun _ hk=>hk.2) (.int .i64 ((An l1 x28_2).f1))) (fun _ hk=>trivial))); (case aS=>exact (AT (by repeat (first|(with_reducible first|exact HB.out|apply AE|apply AC|apply AD|refine AI ?_ GE313.out|refine AI ?_ GE314.out|refine AI ?_ GE317.out)|exact HB.out)))); (case aL=>have:=LMc19.out; omega); intro v319 w24 ho hb hg hat; rw [←Ny318.out] at ho; have n0_:=yA (Kd.R_over' (by (with_reducible repeat (first|apply Kd.R_alloc|apply Kd.R_drewN|apply Kd.R_drew)); exact (Kd.R_mono (Kd.R_far (p:=⟨gb317,1,none⟩) (Kd.R_far (p:=⟨gb317,0,none⟩) (Kd.R_types HO_7.out BK317.out zA2) (fun _ hk=>hk.2) (.int .i64 ((An l1 x28_2).f0))) (fun _ hk=>hk.2) (.int .i64 ((An l1 x28_2).f1))) (fun _ h_=>h_.1))) (Kd.R_typed (by (with_reducible repeat (first|apply Kd.R_alloc|apply Kd.R_drewN|apply Kd.R_drew)); exact (Kd.R_mono (Kd.R_far (p:=⟨gb317,1,none⟩) (Kd.R_far (p:=⟨gb317,0,none⟩) (Kd.R_types HO_9.out BK317.out zA2) (fun _ hk=>hk.2) (.int .i64 ((An l1 x28_2).f0))) (fun _ hk=>hk.2) (.int .i64 ((An l1 x28_2).f1))) (fun _ h_=>h_.1)))) zA2 hg); have n1_:=yA (BP (g:=gb313) (o:= .cells #[.int .i64 A8,.slice A0_1 l0_1.length c0_1] 33 (0,0)) (by (with_reducible repeat (first|refine AG ?_ _|refine AH ?_|refine AF ?_ _)); refine Aa ?_ NB313_317.out _; (with_reducible repeat (first|refine AG ?_ _|refine AH ?_|refine AF ?_ _)); refine Aa ?_ NB313_317.out _; (with_reducible repeat (first|refine AG ?_ _|refine AH ?_|refine AF ?_ _)); exact BK313.out) hg (Kd.R_ne HO_9.out BK313.out zA2)); have n2_:=yA (BP (g:=gb314) (o:= .cells #[.slice (some ad316) l1.length c1] 35 (0,0)) (by (with_reducible repeat (first|refine AG ?_ _|refine AH ?_|refine AF ?_ _)); refine Aa ?_ NB314_317.out _; (with_reducible repeat (first|refine AG ?_ _|refine AH ?_|refine AF ?_ _)); refine Aa ?_ NB314_317.out _; (with_reducible repeat (first|refine AG ?_ _|refine AH ?_|refine AF ?_ _)); exact BK314.out) hg (Kd.R_ne HO_9.out BK314.out zA2)); have n3_:=yA (BP (g:=gb317) (o:= .cells #[.int .i64 ((An l1 x28_2).f0),.int .i64 ((An l1 x28_2).f1)] 56 (0,0)) (by (with_reducible repeat (first|refine AG ?_ _|refine AH ?_|refine AF ?_ _)); refine Am (cs:= #[.int .i64 ((An l1 x28_2).f0),.int .i64 0]) ?_ 1 _ rfl; (with_reducible repeat (first|refine AG ?_ _|refine AH ?_|refine AF ?_ _)); refine Am (cs:= #[.int .i64 0,.int .i64 0]) ?_ 0 _ rfl; (with_reducible repeat (first|refine AG ?_ _|refine AH ?_|refine AF ?_ _)); exact BK317.out) hg (Kd.R_ne HO_9.out BK317.out zA2)); have n4_:=yA (hb); have n5_:=yA (ho); clear HO_7; clear BK313; clear BK314; clear BK317; clear HB; clear HO_9; have HO_7:=n0_; have BK313:=n1_; have BK314:=n2_; have BK317:=n3_; have HB:=n4_; have HO320:=n5_; clear n0_ n1_ n2_ n3_ n4_ n5_; clear ho hb hg hat))
            go_roundg k2
            case measure=>have:=HK1.out; have:=HK2.out; omega
            case rel=>exact ⟨(y318),(wrap64 (x28_2+1)),zG,H',⟨by have:=HK1.out; have:=HK2.out; omega⟩,⟨by (with_reducible repeat (first|apply Kd.R_alloc|apply Kd.R_drewN|apply Kd.R_drew)); exact HO_7.out⟩,⟨by (with_reducible repeat (first|apply Kd.R_alloc|apply Kd.R_drewN|apply Kd.R_drew)); exact HO320.out⟩,⟨by (with_reducible repeat (first|refine AG ?_ _|refine AH ?_|refine AF ?_ _)); exact BK313.out⟩,⟨by (with_reducible repeat (first|refine AG ?_ _|refine AH ?_|refine AF ?_ _)); exact BK314.out⟩,⟨by repeat (first|(with_reducible first|exact HB.out|apply AE|apply AC|apply AD|refine AI ?_ GE313.out|refine AI ?_ GE314.out|refine AI ?_ GE317.out)|exact HB.out)⟩⟩
           ·rw [if_neg c19] at H
            exact absurd H zA6
          ·rw [if_neg c18] at H
           have c18b0:(((An l1 x28_2).f0)==x23_1)=false:=beq_eq_false_iff_ne.mpr c18
           have c18b1:(((An l1 x28_2).f0) !=x23_1)=true:=bne_iff_ne.mpr c18
           have H':=yA H
           clear H
           have p316:0≤(x28_2:Int):=yD
           have q316:x28_2<(l1.length:Int):=yD
           obtain ⟨ad316,e316,hx316_0,hx316_1⟩:=Bh HR1.out x28_2 p316 q316
           cases e316
           replace hx316_0:=yC HB.out hx316_0
           replace hx316_1:=yC HB.out hx316_1
           replace p316:=eq_true p316
           replace q316:=eq_true q316
           go_wp2_with (first|((with_reducible refine Ar (N:=11) rfl ?_); refine Ap ?hg (N:=11) ?hd (cs:= #[.int .i64 0,.int .i64 0]) (t:=56) ?hr ?_; (case hd=>rfl); (case hg=>rfl); (case hr=>first|(go_simp; done)|(go_simp; rfl)); intro gb317 hg w25 hbox hb; have n0_:=yA (Kd.R_below zY hb); have n1_:=yA (Kd.R_below (by (with_reducible repeat (first|apply Kd.R_alloc|apply Kd.R_drewN|apply Kd.R_drew)); exact HO_9.out) hb); have n2_:=yA (AP (g:=gb313) (o:= .cells #[.int .i64 A8,.slice A0_1 l0_1.length c0_1] 33 (0,0)) zV hb); have n3_:=yA (AP (g:=gb314) (o:= .cells #[.slice (some ad316) l1.length c1] 35 (0,0)) zA1 hb); have n4_:=yA (AO zS hb); have n5_:=yA (hbox); have n6_:=yA ((by rw [hg]; exact (AT zS):w.heap.size≤gb317)); have n7_:=yA ((by rw [hg]; exact (AT zS):w.heap.size≤gb317)); have n8_:=yA ((by rw [hg]; exact Nat.ne_of_lt (B0 (g:=gb313) (o:= .cells #[.int .i64 A8,.slice A0_1 l0_1.length c0_1] 33 (0,0)) zV):gb313≠gb317)); have n9_:=yA ((by rw [hg]; exact Nat.ne_of_gt (B0 (g:=gb313) (o:= .cells #[.int .i64 A8,.slice A0_1 l0_1.length c0_1] 33 (0,0)) zV):gb317≠gb313)); have n10_:=yA ((by rw [hg]; exact Nat.ne_of_lt (B0 (g:=gb314) (o:= .cells #[.slice (some ad316) l1.length c1] 35 (0,0)) zA1):gb314≠gb317)); have n11_:=yA ((by rw [hg]; exact Nat.ne_of_gt (B0 (g:=gb314) (o:= .cells #[.slice (some ad316) l1.length c1] 35 (0,0)) zA1):gb317≠gb314)); clear HO_7; clear HO_9; clear BK313; clear BK314; clear HB; have HO_7:=n0_; have HO_9:=n1_; have BK313:=n2_; have BK314:=n3_; have HB:=n4_; have BK317:=n5_; have GW317:=n6_; have GE317:=n7_; have NB313_317:=n8_; have NB317_313:=n9_; have NB314_317:=n10_; have NB317_314:=n11_; clear n0_ n1_ n2_ n3_ n4_ n5_ n6_ n7_ n8_ n9_ n10_ n11_; clear hb hbox hg; have hnb26:=NB317_313.out; have hnc26:=NB313_317.out; have hnb27:=NB317_314.out; have hnc27:=NB314_317.out; have hcz28_0:w25.cell? ⟨gb317,0,none⟩=some (.int .i64 0):=(AK BK317.out 0).trans rfl; have hcz28_1:w25.cell? ⟨gb317,1,none⟩=some (.int .i64 0):=(AK BK317.out 1).trans rfl; have hfz28_0:=AJ BK317.out 0; have hfz28_1:=AJ BK317.out 1))
           go_roundg k2
           case measure=>have:=HK1.out; have:=HK2.out; omega
           case rel=>exact ⟨(x9_2),(wrap64 (x28_2+1)),zG,H',⟨by have:=HK1.out; have:=HK2.out; omega⟩,⟨by (with_reducible repeat (first|apply Kd.R_alloc|apply Kd.R_drewN|apply Kd.R_drew)); exact Kd.R_mono (Kd.R_far (p:=⟨gb317,1,none⟩) (Kd.R_far (p:=⟨gb317,0,none⟩) (Kd.R_types HO_7.out BK317.out zA2) (fun _ hk=>hk.2) (.int .i64 ((An l1 x28_2).f0))) (fun _ hk=>hk.2) (.int .i64 ((An l1 x28_2).f1))) (fun _ hk=>trivial)⟩,⟨by (with_reducible repeat (first|apply Kd.R_alloc|apply Kd.R_drewN|apply Kd.R_drew)); exact Kd.R_mono (Kd.R_far (p:=⟨gb317,1,none⟩) (Kd.R_far (p:=⟨gb317,0,none⟩) (Kd.R_types HO_9.out BK317.out zA2) (fun _ hk=>hk.2) (.int .i64 ((An l1 x28_2).f0))) (fun _ hk=>hk.2) (.int .i64 ((An l1 x28_2).f1))) (fun _ hk=>trivial)⟩,⟨by (with_reducible repeat (first|refine AG ?_ _|refine AH ?_|refine AF ?_ _)); refine Aa ?_ NB313_317.out _; (with_reducible repeat (first|refine AG ?_ _|refine AH ?_|refine AF ?_ _)); refine Aa ?_ NB313_317.out _; (with_reducible repeat (first|refine AG ?_ _|refine AH ?_|refine AF ?_ _)); exact BK313.out⟩,⟨by (with_reducible repeat (first|refine AG ?_ _|refine AH ?_|refine AF ?_ _)); refine Aa ?_ NB314_317.out _; (with_reducible repeat (first|refine AG ?_ _|refine AH ?_|refine AF ?_ _)); refine Aa ?_ NB314_317.out _; (with_reducible repeat (first|refine AG ?_ _|refine AH ?_|refine AF ?_ _)); exact BK314.out⟩,⟨by repeat (first|(with_reducible first|exact HB.out|apply AE|apply AC|apply AD|refine AI ?_ GE313.out|refine AI ?_ GE314.out|refine AI ?_ GE317.out)|exact HB.out)⟩⟩
         ·rw [if_neg c17] at H
          exact absurd H zA6
        ·rw [if_neg c16] at H
         exact absurd H zA6
       ·rw [if_neg c15] at H
        have c15b0:decide (x28_2<(l1.length:Int))=false:=decide_eq_false c15
        clear c15
        replace H:=Option.bind_eq_some_iff.mp H
        obtain ⟨t321,A290,H⟩:=H
        replace H:(Af.l2 k2 x7_1 ([]:List ByteArray) A8 x23_1 t321 (t321.length:Int) 0 A8 l0_1 l1)=some (r1,r2):=H
        have A29:=yA A290
        clear A290
        have H':=yA H
        clear H
        have hnb30:=NB314_313.out
        have hnc30:=NB313_314.out
        have hcz31_0:wr.cell? ⟨gb314,0,none⟩=some (.slice A1 l1.length c1):=(AK BK314.out 0).trans rfl
        have hfz31_0:=AJ BK314.out 0
        obtain ⟨Ao32,co32,eo32⟩:=Kd.R_slice HO_9.out
        subst eo32
        have hlen_:=FD A29.out
        have n9_:=HO_9.out
        rw [hlen_] at n9_
        have n8_:=yA n9_
        clear HO_9 n9_
        have HO_9:=n8_
        clear n8_
        (try rw [hlen_])
        clear hlen_
        go_wp2_with (first|((with_reducible refine Ah (f:=24) rfl ?_); refine BB (some 44) rfl rfl Tryd.func24 zE rfl #[.slice Ao32 t321.length co32,.func (.func 25) #[] #[.pointer (some ⟨gb314,0,none⟩)]] rfl (by (try simp only [List.map_toArray,List.map_cons,List.map_nil]); first|done|rfl) ?_; refine (EM (w:=w) (by (with_reducible repeat (first|apply Kd.R_alloc|apply Kd.R_drewN|apply Kd.R_drew)); exact HO_9.out) HR1.out zB6 zA1 A29.out).mono ?_; rintro e w33 ⟨rfl,ho0,hb,hkp⟩; refine ⟨_,rfl,?_⟩; have n0_:=yA (R_keepS zY hkp); have n2_:=yA ho0; have n3_:=yA (D0 zV zA2 hkp); have n4_:=yA (D0 zA1 zA2 hkp); have n5_:=yA hb; clear HO_7; clear HO_9; clear BK313; clear BK314; clear HB; have HO_7:=n0_; have HO323:=n2_; have BK313:=n3_; have BK314:=n4_; have HB:=n5_; clear n0_ n2_ n3_ n4_ n5_; clear ho0 hb hkp; obtain ⟨Ao34,co34,eo34⟩:=Kd.R_slice HO323.out; injection eo34 with f1_ f2_ f3_; have f4_:=f1_.symm; have f5_:=f3_.symm; clear f1_ f2_ f3_; subst f4_; subst f5_))
        go_loopg [12,47] k2 (fun kq v12 v47 w'=>∃(x12_3:List ByteArray) (x47_3:Int),v47= .int .i64 x47_3∧Aside0 (Af.l2 kq x7_1 x12_3 A8 x23_1 t321 (t321.length:Int) x47_3 A8 l0_1 l1=some (r1,r2))∧Aside0 (kq≤k2)∧Aside0 (Kd.R Kd.string 9 w' w.heap.size (fun k_=>some k_≠(v12:Value).ownBlock) u7 x7_1)∧Aside0 (Kd.R Kd.string 9 w' w.heap.size (fun k_=>some k_≠(u7:Value).ownBlock) v12 x12_3)∧Aside0 (Kd.R (Kd.int .i64) 3 w' w.heap.size (fun _=>True) (.slice Ao34 t321.length co34) t321)∧Aside0 (w'.heap[gb313]? =some (.cells #[.int .i64 A8,(.slice A0_1 l0_1.length c0_1)] 33 (0,0)))∧Aside0 (w'.heap[gb314]? =some (.cells #[(.slice A1 l1.length c1)] 35 (0,0)))∧Aside0 (Below w.heap.size w w'))
        case atStart=>exact ⟨(([]:List ByteArray)),(0),zG,H',⟨Nat.le_refl _⟩,⟨by (with_reducible repeat (first|apply Kd.R_alloc|apply Kd.R_drewN|apply Kd.R_drew)); exact Kd.R_mono HO_7.out (fun _ hk=>(by simp [Value.ownBlock]))⟩,⟨by first|exact Kd.R_nil _ _ _ _ _|exact Kd.N_nil _ _ _ _ _|exact Kd.V_nil _ _ _ _ _|exact Kd.Q_nil _ _ _ _ _|exact Kd.S_nil _ _ _ _ _⟩,⟨by (with_reducible repeat (first|apply Kd.R_alloc|apply Kd.R_drewN|apply Kd.R_drew)); exact Kd.R_mono HO323.out (fun _ hk=>trivial)⟩,⟨by (with_reducible repeat (first|refine AG ?_ _|refine AH ?_|refine AF ?_ _)); exact BK313.out⟩,⟨by (with_reducible repeat (first|refine AG ?_ _|refine AH ?_|refine AF ?_ _)); exact BK314.out⟩,⟨by repeat (first|(with_reducible first|exact HB.out|apply AE|apply AC|apply AD|refine AI ?_ GE313.out|refine AI ?_ GE314.out)|exact HB.out)⟩⟩
        case round=>
         clear H'
         try clear c1
         try clear c2
         try clear p2
         try clear c3
         try clear p3
         try clear q3
         try clear hx3
         try clear c4
         try clear c4b0
         try clear c4b1
         try clear p6
         try clear c7
         try clear c12
         try clear c12b0
         try clear c13
         try clear c15
         try clear c15b0
         try clear c16
         try clear c16b0
         try clear c17
         try clear c17b0
         try clear c18
         try clear c18b0
         try clear c18b1
         try clear c19
         try clear c21
         try clear c22
         try clear c26
         try clear c27
         try clear c30
         try clear p31
         try clear q31
         try clear hx31
         try clear hcz11_0
         try clear hcz11_1
         try clear hcz14_0
         try clear hcz23_0
         try clear hcz23_1
         try clear hcz28_0
         try clear hcz28_1
         try clear hcz31_0
         try clear hcz8_0
         try clear hcz8_1
         try clear hcz9_0
         try clear hfz11_0
         try clear hfz11_1
         try clear hfz14_0
         try clear hfz23_0
         try clear hfz23_1
         try clear hfz28_0
         try clear hfz28_1
         try clear hfz31_0
         try clear hfz8_0
         try clear hfz8_1
         try clear hfz9_0
         try clear hx316_0
         try clear hx316_1
         try clear p2
         try clear p316
         try clear q316
         obtain ⟨x12_3,x47_3,rfl,HA,HK3,HO_7,HO_12,HO_45,BK313,BK314,HB⟩:=hrel
         cases gk with
         |zero=>exact absurd HA.out (by simp [Af.l2])
         | succ k3 =>
          have H:=HA.out
          clear HA
          simp only [Af.l2] at H
          by_cases c35:x47_3<(t321.length:Int)
          ·rw [if_pos c35] at H
           have c35b0:decide (x47_3<(t321.length:Int))=true:=decide_eq_true c35
           clear c35
           by_cases c36:0≤x47_3
           ·rw [if_pos c36] at H
            have c36b0:decide (0≤x47_3)=true:=decide_eq_true c36
            clear c36
            by_cases c37:x47_3<(t321.length:Int)
            ·rw [if_pos c37] at H
             have c37b0:decide (x47_3<(t321.length:Int))=true:=decide_eq_true c37
             clear c37
             by_cases c38:0≤(rd t321 x47_3)
             ·rw [if_pos c38] at H
              have c38b0:decide (0≤(rd t321 x47_3))=true:=decide_eq_true c38
              clear c38
              by_cases c39:(rd t321 x47_3)<(l0_1.length:Int)
              ·rw [if_pos c39] at H
               have c39b0:decide ((rd t321 x47_3)<(l0_1.length:Int))=true:=decide_eq_true c39
               clear c39
               by_cases c40:((AM l0_1 (rd t321 x47_3)).f0).size+1≤9223372036854775807
               ·rw [if_pos c40] at H
                have c40b0:=eq_true c40
                have c40b1:decide (((AM l0_1 (rd t321 x47_3)).f0).size+1≤9223372036854775807)=true:=decide_eq_true c40
                try have c40b2:(9223372036854775807<((AM l0_1 (rd t321 x47_3)).f0).size+1)=False:=eq_false (Nat.not_lt.2 c40)
                by_cases c41:(rd t321 x47_3)<(l1.length:Int)
                ·rw [if_pos c41] at H
                 have c41b0:decide ((rd t321 x47_3)<(l1.length:Int))=true:=decide_eq_true c41
                 clear c41
                 replace H:=Option.bind_eq_some_iff.mp H
                 obtain ⟨t327,A420,H⟩:=H
                 replace H:(if (((AM l0_1 (rd t321 x47_3)).f0)++(⟨#[64]⟩:ByteArray)).size+t327.size≤9223372036854775807 then (if x12_3.length<8796093022208 then (Af.l2 k3 x7_1 (x12_3++[(((AM l0_1 (rd t321 x47_3)).f0)++(⟨#[64]⟩:ByteArray))++t327]) A8 x23_1 t321 (t321.length:Int) (wrap64 (x47_3+1)) A8 l0_1 l1) else (none)) else (none))=some (r1,r2):=H
                 have A42:=yA A420
                 clear A420
                 by_cases c43:(((AM l0_1 (rd t321 x47_3)).f0)++(⟨#[64]⟩:ByteArray)).size+t327.size≤9223372036854775807
                 ·rw [if_pos c43] at H
                  have c43b0:=eq_true c43
                  have c43b1:decide ((((AM l0_1 (rd t321 x47_3)).f0)++(⟨#[64]⟩:ByteArray)).size+t327.size≤9223372036854775807)=true:=decide_eq_true c43
                  try have c43b2:(9223372036854775807<(((AM l0_1 (rd t321 x47_3)).f0)++(⟨#[64]⟩:ByteArray)).size+t327.size)=False:=eq_false (Nat.not_lt.2 c43)
                  (try have c43b3:=c43b2)
                  (try simp only [ByteArray.size_append,(show (⟨#[64]⟩:ByteArray).size=1 from rfl),(show (⟨#[32]⟩:ByteArray).size=1 from rfl)] at c43b3)
                  by_cases c44:x12_3.length<8796093022208
                  ·rw [if_pos c44] at H
                   have LMc44:=yA c44
                   clear c44
                   obtain ⟨y328,hy328⟩:∃y_:List ByteArray,y_=(x12_3++[(((AM l0_1 (rd t321 x47_3)).f0)++(⟨#[64]⟩:ByteArray))++t327]):=⟨_,rfl⟩
                   replace H:(Af.l2 k3 x7_1 y328 A8 x23_1 t321 (t321.length:Int) (wrap64 (x47_3+1)) A8 l0_1 l1)=some (r1,r2):=by first|(rw [hy328]; with_reducible exact H)|(have H2_:=(Option.bind_some _ _).symm.trans H; rw [hy328]; with_reducible exact H2_)|(have H2_:=(Option.bind_some _ _).symm.trans H; with_reducible exact H2_)|with_reducible exact H|(rw [hy328]; exact H)|exact H
                   have Ny328:=yA hy328
                   clear hy328
                   have H':=yA H
                   clear H
                   have p324:0≤(x47_3:Int):=yD
                   have q324:x47_3<(t321.length:Int):=yD
                   obtain ⟨ad324,e324,hx324_0⟩:=Kd.at_int (Kd.R_reads' HO_45.out).2.2 x47_3 p324 q324
                   cases e324
                   replace p324:=eq_true p324
                   replace q324:=eq_true q324
                   try go_wp2
                   have n0_:=yA (Kd.R_drew HO_7.out)
                   have n1_:=yA (Kd.R_drew HO_12.out)
                   have n2_:=yA (Kd.R_drew HO_45.out)
                   have n3_:=yA (AH BK313.out)
                   have n4_:=yA (AH BK314.out)
                   have n5_:=yA (AD HB.out)
                   clear HO_7
                   clear HO_12
                   clear HO_45
                   clear BK313
                   clear BK314
                   clear HB
                   have HO_7:=n0_
                   have HO_12:=n1_
                   have HO_45:=n2_
                   have BK313:=n3_
                   have BK314:=n4_
                   have HB:=n5_
                   clear n0_ n1_ n2_ n3_ n4_ n5_
                   have p325:0≤((rd t321 x47_3):Int):=yD
                   have q325:(rd t321 x47_3)<(l0_1.length:Int):=yD
                   obtain ⟨ad325,A325_3,c325_3,e325,hx325_0,hx325_1,hx325_2,hx325_3,hl325_3,hi325_3⟩:=C9 HR0_1.out (rd t321 x47_3) p325 q325
                   have hw325_3:=hx325_3
                   have hw325_2:=hx325_2
                   have hw325_1:=hx325_1
                   have hw325_0:=hx325_0
                   cases e325
                   replace hx325_0:=yC HB.out hx325_0
                   replace hx325_1:=yC HB.out hx325_1
                   replace hx325_2:=yC HB.out hx325_2
                   replace hx325_3:=yC HB.out hx325_3
                   have HR325_3:=yA hi325_3
                   have HC325_3:=yA hl325_3
                   clear hi325_3 hl325_3
                   replace p325:=eq_true p325
                   replace q325:=eq_true q325
                   have p326:0≤((rd t321 x47_3):Int):=yD
                   have q326:(rd t321 x47_3)<(l1.length:Int):=yD
                   obtain ⟨ad326,e326,hx326_0,hx326_1⟩:=Bh HR1.out (rd t321 x47_3) p326 q326
                   have hw326_1:=hx326_1
                   have hw326_0:=hx326_0
                   cases e326
                   replace hx326_0:=yC HB.out hx326_0
                   replace hx326_1:=yC HB.out hx326_1
                   replace p326:=eq_true p326
                   replace q326:=eq_true q326
                   refine Bp (n:=18) (S:=fun w'=>w'.cell? ⟨gb313,0,none⟩=some (.int .i64 A8)∧w'.cell? ⟨gb313,1,none⟩=some (.slice (some ad325) l0_1.length c0_1)∧w'.cell? ⟨gb314,0,none⟩=some (.slice (some ad326) l1.length c1)∧w'.cell? (ad325.add (((rd t321 x47_3)).toNat*4))=some (.string ((AM l0_1 (rd t321 x47_3)).f0))∧w'.cell? ⟨(ad325.add (((rd t321 x47_3)).toNat*4)).block,(ad325.add (((rd t321 x47_3)).toNat*4)).off+1,none⟩=some (.int .i64 ((AM l0_1 (rd t321 x47_3)).f1))∧w'.cell? ⟨(ad325.add (((rd t321 x47_3)).toNat*4)).block,(ad325.add (((rd t321 x47_3)).toNat*4)).off+2,none⟩=some (.int .i64 ((AM l0_1 (rd t321 x47_3)).f2))∧w'.cell? ⟨(ad325.add (((rd t321 x47_3)).toNat*4)).block,(ad325.add (((rd t321 x47_3)).toNat*4)).off+3,none⟩=some (.slice A325_3 ((AM l0_1 (rd t321 x47_3)).f3).length c325_3)∧w'.cell? (ad326.add (((rd t321 x47_3)).toNat*2))=some (.int .i64 ((An l1 (rd t321 x47_3)).f0))∧w'.cell? ⟨(ad326.add (((rd t321 x47_3)).toNat*2)).block,(ad326.add (((rd t321 x47_3)).toNat*2)).off+1,none⟩=some (.int .i64 ((An l1 (rd t321 x47_3)).f1))) (ds:=[]) #[false,false,false,false,false,false,false,false,false,false,false,false,false,false,false,false,false,false] zE rfl rfl ⟨(AK BK313.out 0).trans rfl,(AK BK313.out 1).trans rfl,(AK BK314.out 0).trans rfl,(yC HB.out hw325_0),(yC HB.out hw325_1),(yC HB.out hw325_2),(yC HB.out hw325_3),(yC HB.out hw326_0),(yC HB.out hw326_1)⟩ (fun hHeld=> ?_); refine BU Af.tab20 Af.bits20 (fun HT_ HW_=> ?_)
                   generalize wr.drew=w45 at HO_7 HO_12 HO_45 BK313 BK314 HB HR325_3 hx325_0 hx325_1 hx325_2 hx325_3 hx326_0 hx326_1 hHeld ⊢
                   refine AX (i:=0) (N:=some 51) (v:= ?_) (a':= ?_) #[true,false,false,false,false,false,false,false,false,false,false,false,false,false,false,false,false,false] rfl rfl (AQ HT_.out zE) (fun _ _ _ h=>h) (Or.inl ⟨by rfl,?_⟩) ?_ ?_; rotate_left; intro w'; go_simp; with_reducible rfl; rotate_left; exact yB
                   refine AX (i:=1) (N:=some 52) (v:= ?_) (a':= ?_) #[true,true,false,false,false,false,false,false,false,false,false,false,false,false,false,false,false,false] rfl rfl (AQ HT_.out zE) (fun _ _ _ h=>h) (Or.inl ⟨by rfl,?_⟩) ?_ ?_; rotate_left; intro w'; go_simp; with_reducible rfl; rotate_left; exact yB
                   refine AX (i:=3) (N:=some 54) (v:= ?_) (a':= ?_) #[true,true,false,true,false,false,false,false,false,false,false,false,false,false,false,false,false,false] rfl rfl (AQ HT_.out zE) (fun _ _ _ h=>h) (Or.inl ⟨by rfl,?_⟩) ?_ ?_; rotate_left; intro w'; go_simp; with_reducible rfl; rotate_left; exact yB
                   refine AX (i:=9) (N:=some 60) (v:= ?_) (a':= ?_) #[true,true,false,true,false,false,false,false,false,true,false,false,false,false,false,false,false,false] rfl rfl (AQ HT_.out zE) (fun _ _ _ h=>h) (Or.inl ⟨by rfl,?_⟩) ?_ ?_; rotate_left; intro w'; go_simp; with_reducible rfl; rotate_left; exact yB
                   refine BK (i:=2) (N:=some 53) (v:= ?_) (a':= ?_) #[true,true,true,true,false,false,false,false,false,true,false,false,false,false,false,false,false,false] rfl rfl (B4 HT_.out HW_.out zE) (fun _ _ _ h=>h) (Or.inl ⟨by rfl,?_⟩) hHeld ?_ ?_; rotate_left; rintro w' ⟨s0,s1,s2,s3,s4,s5,s6,s7,s8⟩; go_simp; with_reducible rfl; rotate_left; exact yB
                   refine AX (i:=4) (N:=some 55) (v:= ?_) (a':= ?_) #[true,true,true,true,true,false,false,false,false,true,false,false,false,false,false,false,false,false] rfl rfl (AQ HT_.out zE) (fun _ _ _ h=>h) (Or.inl ⟨by rfl,?_⟩) ?_ ?_; rotate_left; intro w'; go_simp; with_reducible rfl; rotate_left; exact yB
                   refine AX (i:=5) (N:=some 56) (v:= ?_) (a':= ?_) #[true,true,true,true,true,true,false,false,false,true,false,false,false,false,false,false,false,false] rfl rfl (AQ HT_.out zE) (fun _ _ _ h=>h) (Or.inl ⟨by rfl,?_⟩) ?_ ?_; rotate_left; intro w'; go_simp; with_reducible rfl; rotate_left; exact yB
                   refine BK (i:=6) (N:=some 57) (v:= ?_) (a':= ?_) #[true,true,true,true,true,true,true,false,false,true,false,false,false,false,false,false,false,false] rfl rfl (B4 HT_.out HW_.out zE) (fun _ _ _ h=>h) (Or.inl ⟨by rfl,?_⟩) hHeld ?_ ?_; rotate_left; rintro w' ⟨s0,s1,s2,s3,s4,s5,s6,s7,s8⟩; go_simp; with_reducible rfl; rotate_left; exact yB
                   refine AX (i:=7) (N:=some 58) (v:= ?_) (a':= ?_) #[true,true,true,true,true,true,true,true,false,true,false,false,false,false,false,false,false,false] rfl rfl (AQ HT_.out zE) (fun _ _ _ h=>h) (Or.inl ⟨by rfl,?_⟩) ?_ ?_; rotate_left; intro w'; go_simp; with_reducible rfl; rotate_left; exact yB
                   refine BK (i:=8) (N:=some 59) (v:= ?_) (a':= ?_) #[true,true,true,true,true,true,true,true,true,true,false,false,false,false,false,false,false,false] rfl rfl (B4 HT_.out HW_.out zE) (fun _ _ _ h=>h) (Or.inl ⟨by rfl,?_⟩) hHeld ?_ ?_; rotate_left; rintro w' ⟨s0,s1,s2,s3,s4,s5,s6,s7,s8⟩; go_simp; with_reducible rfl; rotate_left; exact yB
                   refine AX (i:=10) (N:=some 61) (v:= ?_) (a':= ?_) #[true,true,true,true,true,true,true,true,true,true,true,false,false,false,false,false,false,false] rfl rfl (AQ HT_.out zE) (fun _ _ _ h=>h) (Or.inl ⟨by rfl,?_⟩) ?_ ?_; rotate_left; intro w'; go_simp; with_reducible rfl; rotate_left; exact yB
                   refine AX (i:=11) (N:=some 62) (v:= ?_) (a':= ?_) #[true,true,true,true,true,true,true,true,true,true,true,true,false,false,false,false,false,false] rfl rfl (AQ HT_.out zE) (fun _ _ _ h=>h) (Or.inl ⟨by rfl,?_⟩) ?_ ?_; rotate_left; intro w'; go_simp; with_reducible rfl; rotate_left; exact yB
                   refine BK (i:=12) (N:=some 63) (v:= ?_) (a':= ?_) #[true,true,true,true,true,true,true,true,true,true,true,true,true,false,false,false,false,false] rfl rfl (B4 HT_.out HW_.out zE) (fun _ _ _ h=>h) (Or.inl ⟨by rfl,?_⟩) hHeld ?_ ?_; rotate_left; rintro w' ⟨s0,s1,s2,s3,s4,s5,s6,s7,s8⟩; go_simp; with_reducible rfl; rotate_left; exact yB
                   refine one_ (i:=13) (N:=some 64) #[true,true,true,true,true,true,true,true,true,true,true,true,true,true,false,false,false,false] rfl rfl (Bi HT_.out zE) zA2 (fun K hK=> ?_)
                   refine C1 Tryd.func26 zE rfl #[.int .i64 ((An l1 (rd t321 x47_3)).f1)] (by rfl) rfl rfl zD ?_
                   with_reducible refine (Bf.calls ((An l1 (rd t321 x47_3)).f1) t327 _ A42.out (Tab.below HTB.out zB)).mono ?_
                   rintro e w46 ⟨rfl,hb⟩
                   refine ⟨_,rfl,?_⟩
                   have n0_:=yA (Kd.R_below zY hb)
                   have n1_:=yA (Kd.R_below (by (with_reducible repeat (first|apply Kd.R_alloc|apply Kd.R_drewN|apply Kd.R_drew)); exact HO_12.out) hb)
                   have n2_:=yA (Kd.R_below (by (with_reducible repeat (first|apply Kd.R_alloc|apply Kd.R_drewN|apply Kd.R_drew)); exact HO_45.out) hb)
                   have n3_:=yA (AP (g:=gb313) (o:= .cells #[.int .i64 A8,.slice (some ad325) l0_1.length c0_1] 33 (0,0)) zV hb)
                   have n4_:=yA (AP (g:=gb314) (o:= .cells #[.slice (some ad326) l1.length c1] 35 (0,0)) zA1 hb)
                   have n5_:=yA (AO zS hb)
                   clear HO_7
                   clear HO_12
                   clear HO_45
                   clear BK313
                   clear BK314
                   clear HB
                   have HO_7:=n0_
                   have HO_12:=n1_
                   have HO_45:=n2_
                   have BK313:=n3_
                   have BK314:=n4_
                   have HB:=n5_
                   clear n0_ n1_ n2_ n3_ n4_ n5_
                   (try clear hb)
                   (try clear hb2)
                   (try clear hk)
                   (try clear hi)
                   refine hK.out _ _ ⟨(AK BK313.out 0).trans rfl,(AK BK313.out 1).trans rfl,(AK BK314.out 0).trans rfl,(yC HB.out hw325_0),(yC HB.out hw325_1),(yC HB.out hw325_2),(yC HB.out hw325_3),(yC HB.out hw326_0),(yC HB.out hw326_1)⟩ (fun hHeld=> ?_)
                   clear hK K
                   refine Bq (a':= ?_) ?_ ?_; rotate_left; show Act.put _ (some 64) _=_; exact yB
                   refine AX (i:=14) (N:=some 65) (v:= ?_) (a':= ?_) #[true,true,true,true,true,true,true,true,true,true,true,true,true,true,true,false,false,false] rfl rfl (AQ HT_.out zE) (fun _ _ _ h=>h) (Or.inl ⟨by rfl,?_⟩) ?_ ?_; rotate_left; intro w'; go_simp; with_reducible rfl; rotate_left; exact yB
                   refine one_ (i:=15) (N:=some 66) #[true,true,true,true,true,true,true,true,true,true,true,true,true,true,true,true,false,false] rfl rfl (Bi HT_.out zE) zA2 (fun K hK=> ?_)
                   refine FL (w1:= ?_) (v:= ?_) (by rfl) rfl ?_ ?_
                   rotate_left 2
                   ·go_simp
                    constructor
                    ·rfl
                    ·rfl
                   refine hK.out _ _ ⟨(AK (AF BK313.out _) 0).trans rfl,(AK (AF BK313.out _) 1).trans rfl,(AK (AF BK314.out _) 0).trans rfl,(World.cell?_alloc_lt _ _ _ (World.block_lt_of_cell? _ _ ((yC HB.out hw325_0)))).trans ((yC HB.out hw325_0)),(World.cell?_alloc_lt _ _ _ (World.block_lt_of_cell? _ _ ((yC HB.out hw325_1)))).trans ((yC HB.out hw325_1)),(World.cell?_alloc_lt _ _ _ (World.block_lt_of_cell? _ _ ((yC HB.out hw325_2)))).trans ((yC HB.out hw325_2)),(World.cell?_alloc_lt _ _ _ (World.block_lt_of_cell? _ _ ((yC HB.out hw325_3)))).trans ((yC HB.out hw325_3)),(World.cell?_alloc_lt _ _ _ (World.block_lt_of_cell? _ _ ((yC HB.out hw326_0)))).trans ((yC HB.out hw326_0)),(World.cell?_alloc_lt _ _ _ (World.block_lt_of_cell? _ _ ((yC HB.out hw326_1)))).trans ((yC HB.out hw326_1))⟩ (fun hHeld=> ?_)
                   clear hK K
                   refine Bq (a':= ?_) ?_ ?_; rotate_left; show Act.put _ (some 66) _=_; exact yB
                   refine one_ (i:=16) (N:=some 67) #[true,true,true,true,true,true,true,true,true,true,true,true,true,true,true,true,true,false] rfl rfl (Bi HT_.out zE) zA2 (fun K hK=> ?_)
                   refine Kd.R_append_step Kd.string (w0:=w) w.heap.size (by rfl) (.tmp 51) (.tmp 66) 38 9 (.string ⟨#[]⟩) 16 rfl Tryd.underlying38 info9 rfl zA2 zI u12 x12_3 ((((AM l0_1 (rd t321 x47_3)).f0)++(⟨#[64]⟩:ByteArray))++t327) [.string ((((AM l0_1 (rd t321 x47_3)).f0)++(⟨#[64]⟩:ByteArray))++t327)] (fun k_=>some k_≠(u7:Value).ownBlock) (fun _=>False) rfl rfl ?aP (fun _ hk=>hk.elim) ?aF ?aO ?aB ?aS ?aL ?_
                   (case aP=>exact rfl)
                   (case aB=>exact zS)
                   (case aF=>exact (fun k_ hk=>Kd.fresh' (Kd.R_lt zY) k_ hk))
                   (case aO=>exact (by (with_reducible repeat (first|apply Kd.R_alloc|apply Kd.R_drewN|apply Kd.R_drew)); exact HO_12.out))
                   (case aS=>exact (AT zS))
                   (case aL=>have:=LMc44.out; omega)
                   intro v329 w47 ho hb hg hat
                   rw [←Ny328.out] at ho
                   have n0_:=yA (Kd.R_after (ok:=(fun _=>True)) (by (with_reducible repeat (first|apply Kd.R_alloc|apply Kd.R_drewN|apply Kd.R_drew)); exact Kd.R_mono HO_7.out (fun _ hk=>⟨trivial,hk⟩)) hg hat)
                   have n1_:=yA (Kd.R_over' (by (with_reducible repeat (first|apply Kd.R_alloc|apply Kd.R_drewN|apply Kd.R_drew)); exact HO_45.out) (Kd.R_typed (by (with_reducible repeat (first|apply Kd.R_alloc|apply Kd.R_drewN|apply Kd.R_drew)); exact HO_12.out)) zA2 hg)
                   have n2_:=yA (BP (g:=gb313) (o:= .cells #[.int .i64 A8,.slice (some ad325) l0_1.length c0_1] 33 (0,0)) zV hg (Kd.R_ne HO_12.out BK313.out zA2))
                   have n3_:=yA (BP (g:=gb314) (o:= .cells #[.slice (some ad326) l1.length c1] 35 (0,0)) zA1 hg (Kd.R_ne HO_12.out BK314.out zA2))
                   have n4_:=yA (hb)
                   have n5_:=yA (ho)
                   clear HO_7
                   clear HO_45
                   clear BK313
                   clear BK314
                   clear HB
                   clear HO_12
                   have HO_7:=n0_
                   have HO_45:=n1_
                   have BK313:=n2_
                   have BK314:=n3_
                   have HB:=n4_
                   have HO330:=n5_
                   clear n0_ n1_ n2_ n3_ n4_ n5_
                   clear ho hb hg hat
                   refine hK.out _ _ ⟨(AK BK313.out 0).trans rfl,(AK BK313.out 1).trans rfl,(AK BK314.out 0).trans rfl,(yC HB.out hw325_0),(yC HB.out hw325_1),(yC HB.out hw325_2),(yC HB.out hw325_3),(yC HB.out hw326_0),(yC HB.out hw326_1)⟩ (fun hHeld=> ?_)
                   clear hK K
                   refine Bq (a':= ?_) ?_ ?_; rotate_left; show Act.put _ (some 67) _=_; exact yB
                   refine AX (i:=17) (N:=some 12) (v:= ?_) (a':= ?_) #[true,true,true,true,true,true,true,true,true,true,true,true,true,true,true,true,true,true] rfl rfl (AQ HT_.out zE) (fun _ _ _ h=>h) (Or.inl ⟨by rfl,?_⟩) ?_ ?_; rotate_left; intro w'; go_simp; with_reducible rfl; rotate_left; exact yB
                   refine C7 (Bm HT_.out zE) ?_
                   try go_wp2
                   go_roundg k3
                   case measure=>have:=HK1.out; have:=HK2.out; have:=HK3.out; omega
                   case rel=>exact ⟨(y328),(wrap64 (x47_3+1)),zG,H',⟨by have:=HK1.out; have:=HK2.out; have:=HK3.out; omega⟩,⟨by (with_reducible repeat (first|apply Kd.R_alloc|apply Kd.R_drewN|apply Kd.R_drew)); exact Kd.R_mono HO_7.out (fun _ hk=>hk.2)⟩,⟨by (with_reducible repeat (first|apply Kd.R_alloc|apply Kd.R_drewN|apply Kd.R_drew)); exact HO330.out⟩,⟨by (with_reducible repeat (first|apply Kd.R_alloc|apply Kd.R_drewN|apply Kd.R_drew)); exact HO_45.out⟩,⟨by (with_reducible repeat (first|refine AG ?_ _|refine AH ?_|refine AF ?_ _)); exact BK313.out⟩,⟨by (with_reducible repeat (first|refine AG ?_ _|refine AH ?_|refine AF ?_ _)); exact BK314.out⟩,⟨by repeat (first|(with_reducible first|exact HB.out|apply AE|apply AC|apply AD|refine AI ?_ GE313.out|refine AI ?_ GE314.out)|exact HB.out)⟩⟩
                  ·rw [if_neg c44] at H
                   exact absurd H zA6
                 ·rw [if_neg c43] at H
                  exact absurd H zA6
                ·rw [if_neg c41] at H
                 exact absurd H zA6
               ·rw [if_neg c40] at H
                exact absurd H zA6
              ·rw [if_neg c39] at H
               exact absurd H zA6
             ·rw [if_neg c38] at H
              exact absurd H zA6
            ·rw [if_neg c37] at H
             exact absurd H zA6
           ·rw [if_neg c36] at H
            exact absurd H zA6
          ·rw [if_neg c35] at H
           have c35b0:decide (x47_3<(t321.length:Int))=false:=decide_eq_false c35
           clear c35
           replace H:=Option.bind_eq_some_iff.mp H
           obtain ⟨t331,A480,H⟩:=H
           replace H:(if x7_1.length<8796093022208 then (Af.l0 k3 (x7_1++[t331]) A8 (wrap64 (x23_1+1)) A8 l0_1 l1) else (none))=some (r1,r2):=H
           have A48:=yA A480
           clear A480
           by_cases c49:x7_1.length<8796093022208
           ·rw [if_pos c49] at H
            have LMc49:=yA c49
            clear c49
            obtain ⟨y332,hy332⟩:∃y_:List ByteArray,y_=(x7_1++[t331]):=⟨_,rfl⟩
            replace H:(Af.l0 k3 y332 A8 (wrap64 (x23_1+1)) A8 l0_1 l1)=some (r1,r2):=by first|(rw [hy332]; with_reducible exact H)|(have H2_:=(Option.bind_some _ _).symm.trans H; rw [hy332]; with_reducible exact H2_)|(have H2_:=(Option.bind_some _ _).symm.trans H; with_reducible exact H2_)|with_reducible exact H|(rw [hy332]; exact H)|exact H
            have Ny332:=yA hy332
            clear hy332
            have H':=yA H
            clear H
            obtain ⟨Ao50,co50,eo50⟩:=Kd.R_slice HO_12.out
            subst eo50
            go_wp2_with (first|((with_reducible refine Ah (f:=27) rfl ?_); refine BB (some 71) rfl rfl Tryd.func27 zE rfl #[.slice Ao50 x12_3.length co50,.string (⟨#[32]⟩:ByteArray)] rfl zD ?_; (with_reducible refine (Br.calls _ _ x12_3 (⟨#[32]⟩:ByteArray) t331 _ ?side1 ?side2 A48.out).mono ?_); (case side1=>repeat (first|exact (Kd.R_reads' HO_12.out).2.2|(with_reducible refine Kd.C_alloc ?_ _)|(with_reducible refine Kd.C_drewN ?_ _)|(with_reducible refine Kd.C_drew ?_))); (case side2=>exact (Kd.R_reads' HO_12.out).2.1); rintro e w51 ⟨rfl,hb⟩; refine ⟨_,rfl,?_⟩; have n0_:=yA (Kd.R_below zY hb); have n1_:=yA (Kd.R_below (by (with_reducible repeat (first|apply Kd.R_alloc|apply Kd.R_drewN|apply Kd.R_drew)); exact HO_12.out) hb); have n2_:=yA (Kd.R_below (by (with_reducible repeat (first|apply Kd.R_alloc|apply Kd.R_drewN|apply Kd.R_drew)); exact HO_45.out) hb); have n3_:=yA (AP (g:=gb313) (o:= .cells #[.int .i64 A8,.slice A0_1 l0_1.length c0_1] 33 (0,0)) zV hb); have n4_:=yA (AP (g:=gb314) (o:= .cells #[.slice A1 l1.length c1] 35 (0,0)) zA1 hb); have n5_:=yA (AO zS hb); clear HO_7; clear HO_12; clear HO_45; clear BK313; clear BK314; clear HB; have HO_7:=n0_; have HO_12:=n1_; have HO_45:=n2_; have BK313:=n3_; have BK314:=n4_; have HB:=n5_; clear n0_ n1_ n2_ n3_ n4_ n5_; (try clear hb); (try clear hb2); (try clear hk); (try clear hi))|((with_reducible refine Bs (b:= .append) (xs:= #[.tmp 69,.tmp 72]) rfl ?_); at_builtin; refine Kd.R_append Kd.string (w0:=w) w.heap.size rfl (.tmp 69) (.tmp 72) 38 9 (.string ⟨#[]⟩) 16 rfl Tryd.underlying38 info9 rfl zA2 zI u7 x7_1 t331 [.string t331] (fun k_=>some k_≠(.slice Ao50 x12_3.length co50:Value).ownBlock) (fun _=>False) rfl rfl ?aP (fun _ hk=>hk.elim) ?aF ?aO ?aB ?aS ?aL ?_; (case aP=>exact rfl); (case aB=>exact zS); (case aF=>exact (fun k_ hk=>Kd.fresh' (Kd.R_lt (by (with_reducible repeat (first|apply Kd.R_alloc|apply Kd.R_drewN|apply Kd.R_drew)); exact HO_12.out)) k_ hk)); (case aO=>exact zY); (case aS=>exact (AT zS)); (case aL=>have:=LMc49.out; omega); intro v333 w52 ho hb hg hat; rw [←Ny332.out] at ho; have n0_:=yA (Kd.R_after (ok:=(fun _=>True)) (by (with_reducible repeat (first|apply Kd.R_alloc|apply Kd.R_drewN|apply Kd.R_drew)); exact Kd.R_mono HO_12.out (fun _ hk=>⟨trivial,hk⟩)) hg hat); have n1_:=yA (Kd.R_over' (by (with_reducible repeat (first|apply Kd.R_alloc|apply Kd.R_drewN|apply Kd.R_drew)); exact HO_45.out) (Kd.R_typed zY) zA2 hg); have n2_:=yA (BP (g:=gb313) (o:= .cells #[.int .i64 A8,.slice A0_1 l0_1.length c0_1] 33 (0,0)) zV hg (Kd.R_ne HO_7.out BK313.out zA2)); have n3_:=yA (BP (g:=gb314) (o:= .cells #[.slice A1 l1.length c1] 35 (0,0)) zA1 hg (Kd.R_ne HO_7.out BK314.out zA2)); have n4_:=yA (hb); have n5_:=yA (ho); clear HO_12; clear HO_45; clear BK313; clear BK314; clear HB; clear HO_7; have HO_12:=n0_; have HO_45:=n1_; have BK313:=n2_; have BK314:=n3_; have HB:=n4_; have HO334:=n5_; clear n0_ n1_ n2_ n3_ n4_ n5_; clear ho hb hg hat))
            go_roundg k3
            case measure=>have:=HK1.out; have:=HK2.out; have:=HK3.out; omega
            case rel=>exact ⟨(y332),(wrap64 (x23_1+1)),zG,H',⟨by have:=HK1.out; have:=HK2.out; have:=HK3.out; omega⟩,⟨by (with_reducible repeat (first|apply Kd.R_alloc|apply Kd.R_drewN|apply Kd.R_drew)); exact Kd.R_mono HO334.out (fun _ hk=>trivial)⟩,⟨by (with_reducible repeat (first|refine AG ?_ _|refine AH ?_|refine AF ?_ _)); exact BK313.out⟩,⟨by (with_reducible repeat (first|refine AG ?_ _|refine AH ?_|refine AF ?_ _)); exact BK314.out⟩,⟨by repeat (first|(with_reducible first|exact HB.out|apply AE|apply AC|apply AD|refine AI ?_ GE313.out|refine AI ?_ GE314.out)|exact HB.out)⟩⟩
           ·rw [if_neg c49] at H
            exact absurd H zA6
    ·rw [if_neg c12] at H
     have c12b0:decide (x23_1<A8)=false:=decide_eq_false c12
     clear c12
     simp only [Option.some.injEq,Prod.mk.injEq] at H
     obtain ⟨rfl,rfl⟩:=H
     go_wp2
     go_ret2
     exact ⟨_,by first|rfl|(simp [AZ,AY]<;>rfl)|(simp [*,AZ,AY]<;>rfl),by (with_reducible repeat (first|apply Kd.R_alloc|apply Kd.R_drewN|apply Kd.R_drew)); exact HO_7.out,by repeat (first|(with_reducible first|exact HB.out|apply AE|apply AC|apply AD|refine AI ?_ GE313.out|refine AI ?_ GE314.out)|exact HB.out)⟩
 ·rw [if_neg c4] at H
  have c4b0:(t315==0)=false:=beq_eq_false_iff_ne.mpr c4
  have c4b1:(t315 !=0)=true:=bne_iff_ne.mpr c4
  simp only [Option.some.injEq,Prod.mk.injEq] at H
  obtain ⟨rfl,rfl⟩:=H
  go_enter Tryd.func12,Tryd.ntmps12
  go_wp2_with (first|((with_reducible refine Ar (N:=2) rfl ?_); refine Ap ?hg (N:=2) ?hd (cs:= #[.int .i64 A8,.slice A0_1 l0_1.length c0_1]) (t:=33) ?hr ?_; (case hd=>rfl); (case hg=>rfl); (case hr=>first|(go_simp; done)|(go_simp; rfl)); intro gb313 hg w53 hbox hb; have n0_:=yA (AO zB hb); have n1_:=yA (hbox); have n2_:=yA ((by rw [hg]; exact (AT zB):w.heap.size≤gb313)); have n3_:=yA ((by rw [hg]; exact (AT zB):w.heap.size≤gb313)); clear HB; have HB:=n0_; have BK313:=n1_; have GW313:=n2_; have GE313:=n3_; clear n0_ n1_ n2_ n3_; clear hb hbox hg)|((with_reducible refine Ar (N:=3) rfl ?_); refine Ap ?hg (N:=3) ?hd (cs:= #[.slice A1 l1.length c1]) (t:=35) ?hr ?_; (case hd=>rfl); (case hg=>rfl); (case hr=>first|(go_simp; done)|(go_simp; rfl)); intro gb314 hg w54 hbox hb; have n0_:=yA (AP (g:=gb313) (o:= .cells #[.int .i64 A8,.slice A0_1 l0_1.length c0_1] 33 (0,0)) zV hb); have n1_:=yA (AO zB6 hb); have n2_:=yA (hbox); have n3_:=yA ((by rw [hg]; exact (AT zB6):w.heap.size≤gb314)); have n4_:=yA ((by rw [hg]; exact (AT zB6):w.heap.size≤gb314)); have n5_:=yA ((by rw [hg]; exact Nat.ne_of_lt (B0 (g:=gb313) (o:= .cells #[.int .i64 A8,.slice A0_1 l0_1.length c0_1] 33 (0,0)) zV):gb313≠gb314)); have n6_:=yA ((by rw [hg]; exact Nat.ne_of_gt (B0 (g:=gb313) (o:= .cells #[.int .i64 A8,.slice A0_1 l0_1.length c0_1] 33 (0,0)) zV):gb314≠gb313)); clear BK313; clear HB; have BK313:=n0_; have HB:=n1_; have BK314:=n2_; have GW314:=n3_; have GE314:=n4_; have NB313_314:=n5_; have NB314_313:=n6_; clear n0_ n1_ n2_ n3_ n4_ n5_ n6_; clear hb hbox hg; have hnb55:=NB313_314.out; have hnc55:=NB314_313.out; have hcz56_0:w54.cell? ⟨gb313,0,none⟩=some (.int .i64 A8):=(AK BK313.out 0).trans rfl; have hcz56_1:w54.cell? ⟨gb313,1,none⟩=some (.slice A0_1 l0_1.length c0_1):=(AK BK313.out 1).trans rfl; have hfz56_0:=AJ BK313.out 0; have hfz56_1:=AJ BK313.out 1; have hcz57_0:w54.cell? ⟨gb314,0,none⟩=some (.slice A1 l1.length c1):=(AK BK314.out 0).trans rfl; have hfz57_0:=AJ BK314.out 0)|((with_reducible refine Ah (f:=16) rfl ?_); refine BB (some 17) rfl rfl Tryd.func16 zE rfl #[.agg #[.int .i64 A8,.slice A0_1 l0_1.length c0_1],.slice A1 l1.length c1] rfl zD ?_; (with_reducible refine (Ab.calls k A8 _ _ l0_1 _ _ l1 t315 _ ?side1 ?side2 ?side3 ?side4 A3.out).mono ?_); (case side1=>repeat (first|exact (Kd.C_below HR0_1.out HB.out)|(with_reducible refine Kd.C_alloc ?_ _)|(with_reducible refine Kd.C_drewN ?_ _)|(with_reducible refine Kd.C_drew ?_))); (case side2=>exact HC0_1.out); (case side3=>repeat (first|exact (Kd.C_below HR1.out HB.out)|(with_reducible refine Kd.C_alloc ?_ _)|(with_reducible refine Kd.C_drewN ?_ _)|(with_reducible refine Kd.C_drew ?_))); (case side4=>exact HC1.out); rintro e w58 ⟨rfl,hb⟩; refine ⟨_,rfl,?_⟩; have n0_:=yA (AP (g:=gb313) (o:= .cells #[.int .i64 A8,.slice A0_1 l0_1.length c0_1] 33 (0,0)) zV hb); have n1_:=yA (AP (g:=gb314) (o:= .cells #[.slice A1 l1.length c1] 35 (0,0)) zA1 hb); have n2_:=yA (AO zS hb); clear BK313; clear BK314; clear HB; have BK313:=n0_; have BK314:=n1_; have HB:=n2_; clear n0_ n1_ n2_; (try clear hb); (try clear hb2); (try clear hk); (try clear hi)))
  go_ret2
  exact ⟨_,by first|rfl|(simp [AZ,AY]<;>rfl)|(simp [*,AZ,AY]<;>rfl),by first|exact Kd.R_nil _ _ _ _ _|exact Kd.N_nil _ _ _ _ _|exact Kd.V_nil _ _ _ _ _|exact Kd.Q_nil _ _ _ _ _|exact Kd.S_nil _ _ _ _ _,by repeat (first|(with_reducible first|exact HB.out|apply AE|apply AC|apply AD|refine AI ?_ GE313.out|refine AI ?_ GE314.out)|exact HB.out)⟩
mutual
def Az.l0:Nat→Int→ByteArray→Option (ByteArray)
 |0,_,_=>none
 |k+1,x0,x3=>if x0>0 then ((some (([(wrap64 (48+(Int.tmod x0 10)))%256]:List Int):List Int)).bind fun y341=>(if (strOfNums y341).size+x3.size≤9223372036854775807 then (Az.l0 k (wrap64 (Int.tdiv x0 10)) ((strOfNums y341)++x3)) else (none))) else (some x3)
def Az.f:Nat→Int→Option (ByteArray)
 |0,_=>none
 |k+1,a0=>if a0<0 then (if a0<(-9) then ((Az.f k (wrap64 (Int.tdiv a0 10))).bind fun t335=>((Az.f k (wrap64 (-(Int.tmod a0 10)))).bind fun t336=>(if t335.size+t336.size≤9223372036854775807 then (some (t335++t336)) else (none)))) else ((Az.f k (wrap64 (-a0))).bind fun t337=>(if 1+t337.size≤9223372036854775807 then (some ((⟨#[45]⟩:ByteArray)++t337)) else (none)))) else (Az.l0 k (wrap64 (Int.tdiv a0 10)) (strOfNums (([(wrap64 (48+(Int.tmod a0 10)))%256]:List Int))))
end
set_option maxHeartbeats 8000000 in
theorem Az.calls (k:Nat):∀(a0:Int) (r:ByteArray) (w:World) (h:Az.f k a0=some r),
  Calls Tryd.prog 28 #[.int .i64 a0] w fun e w'=>e= .returned (.string r)∧Below w.heap.size w w':=by
 induction k using Nat.strongRecOn with
 |_ k ih=>
 intro a0 r w h
 cases k with
 |zero=>exact absurd h (by simp [Az.f])
 |succ k=>
 simp only [Az.f] at h
 have HB:=yA (Below.refl w.heap.size w)
 have H:(if a0<0 then (if a0<(-9) then ((Az.f k (wrap64 (Int.tdiv a0 10))).bind fun t335=>((Az.f k (wrap64 (-(Int.tmod a0 10)))).bind fun t336=>(if t335.size+t336.size≤9223372036854775807 then (some (t335++t336)) else (none)))) else ((Az.f k (wrap64 (-a0))).bind fun t337=>(if 1+t337.size≤9223372036854775807 then (some ((⟨#[45]⟩:ByteArray)++t337)) else (none)))) else (Az.l0 k (wrap64 (Int.tdiv a0 10)) (strOfNums (([(wrap64 (48+(Int.tmod a0 10)))%256]:List Int)))))=some r:=h
 clear h
 by_cases c2:a0<0
 ·rw [if_pos c2] at H
  have c2b0:decide (a0<0)=true:=decide_eq_true c2
  clear c2
  by_cases c3:a0<(-9)
  ·rw [if_pos c3] at H
   have c3b0:decide (a0<(-9))=true:=decide_eq_true c3
   clear c3
   replace H:=Option.bind_eq_some_iff.mp H
   obtain ⟨t335,A40,H⟩:=H
   replace H:((Az.f k (wrap64 (-(Int.tmod a0 10)))).bind fun t336=>(if t335.size+t336.size≤9223372036854775807 then (some (t335++t336)) else (none)))=some r:=H
   have A4:=yA A40
   clear A40
   replace H:=Option.bind_eq_some_iff.mp H
   obtain ⟨t336,A50,H⟩:=H
   replace H:(if t335.size+t336.size≤9223372036854775807 then (some (t335++t336)) else (none))=some r:=H
   have A5:=yA A50
   clear A50
   by_cases c6:t335.size+t336.size≤9223372036854775807
   ·rw [if_pos c6] at H
    have c6b0:=eq_true c6
    have c6b1:decide (t335.size+t336.size≤9223372036854775807)=true:=decide_eq_true c6
    try have c6b2:(9223372036854775807<t335.size+t336.size)=False:=eq_false (Nat.not_lt.2 c6)
    obtain rfl:=Option.some.inj H
    go_enter Tryd.func28,Tryd.ntmps28
    go_wp2_with (first|((with_reducible refine Ah (f:=28) rfl ?_); refine BB (some 10) rfl rfl Tryd.func28 zE rfl #[.int .i64 (wrap64 (Int.tdiv a0 10))] rfl zD ?_; (with_reducible refine (ih k zI (wrap64 (Int.tdiv a0 10)) t335 _ A4.out).mono ?_); rintro e w7 ⟨rfl,hb⟩; refine ⟨_,rfl,?_⟩; have n0_:=yA (AO zB hb); clear HB; have HB:=n0_; clear n0_; (try clear hb); (try clear hb2); (try clear hk); (try clear hi))|((with_reducible refine Ah (f:=28) rfl ?_); refine BB (some 14) rfl rfl Tryd.func28 zE rfl #[.int .i64 (wrap64 (-(Int.tmod a0 10)))] rfl zD ?_; (with_reducible refine (ih k zI (wrap64 (-(Int.tmod a0 10))) t336 _ A5.out).mono ?_); rintro e w8 ⟨rfl,hb⟩; refine ⟨_,rfl,?_⟩; have n0_:=yA (AO zB hb); clear HB; have HB:=n0_; clear n0_; (try clear hb); (try clear hb2); (try clear hk); (try clear hi)))
    go_ret
    exact ⟨by first|rfl|(simp [AZ,AY]<;>rfl)|(simp [*,AZ,AY]<;>rfl),by repeat (first|(with_reducible first|exact HB.out|apply AE|apply AC|apply AD)|exact HB.out)⟩
   ·rw [if_neg c6] at H
    exact absurd H zA6
  ·rw [if_neg c3] at H
   have c3b0:decide (a0<(-9))=false:=decide_eq_false c3
   clear c3
   replace H:=Option.bind_eq_some_iff.mp H
   obtain ⟨t337,A90,H⟩:=H
   replace H:(if 1+t337.size≤9223372036854775807 then (some ((⟨#[45]⟩:ByteArray)++t337)) else (none))=some r:=H
   have A9:=yA A90
   clear A90
   by_cases c10:1+t337.size≤9223372036854775807
   ·rw [if_pos c10] at H
    have c10b0:=eq_true c10
    have c10b1:decide (1+t337.size≤9223372036854775807)=true:=decide_eq_true c10
    try have c10b2:(9223372036854775807<1+t337.size)=False:=eq_false (Nat.not_lt.2 c10)
    obtain rfl:=Option.some.inj H
    go_enter Tryd.func28,Tryd.ntmps28
    go_wp2_with (first|((with_reducible refine Ah (f:=28) rfl ?_); refine BB (some 18) rfl rfl Tryd.func28 zE rfl #[.int .i64 (wrap64 (-a0))] rfl zD ?_; (with_reducible refine (ih k zI (wrap64 (-a0)) t337 _ A9.out).mono ?_); rintro e w11 ⟨rfl,hb⟩; refine ⟨_,rfl,?_⟩; have n0_:=yA (AO zB hb); clear HB; have HB:=n0_; clear n0_; (try clear hb); (try clear hb2); (try clear hk); (try clear hi)))
    go_ret
    exact ⟨by first|rfl|(simp [AZ,AY]<;>rfl)|(simp [*,AZ,AY]<;>rfl),by repeat (first|(with_reducible first|exact HB.out|apply AE|apply AC|apply AD)|exact HB.out)⟩
   ·rw [if_neg c10] at H
    exact absurd H zA6
 ·rw [if_neg c2] at H
  have c2b0:decide (a0<0)=false:=decide_eq_false c2
  clear c2
  obtain ⟨y338,hy338⟩:∃y_:List Int,y_=(([(wrap64 (48+(Int.tmod a0 10)))%256]:List Int)):=⟨_,rfl⟩
  replace H:(Az.l0 k (wrap64 (Int.tdiv a0 10)) (strOfNums y338))=some r:=by first|(rw [hy338]; with_reducible exact H)|(have H2_:=(Option.bind_some _ _).symm.trans H; rw [hy338]; with_reducible exact H2_)|(have H2_:=(Option.bind_some _ _).symm.trans H; with_reducible exact H2_)|with_reducible exact H|(rw [hy338]; exact H)|exact H
  have Ny338:=yA hy338
  clear hy338
  have H':=yA H
  clear H
  go_enter Tryd.func28,Tryd.ntmps28
  go_wp2_with (first|((with_reducible refine Ar (N:=24) rfl ?_); refine Kd.R_lit (Kd.int .u8) _ 5 ?hg (N:=24) ?hd (xs:=([(wrap64 (48+(Int.tmod a0 10)))%256]:List Int)) (inner:=[.int .u8 ((wrap64 (48+(Int.tmod a0 10)))%256)]) (ok:=fun _=>True) (okp:=fun _=>True) ?hr ?hp (fun _ hk=>hk) trivial (Below.refl _ _) (Nat.le_refl _) zA6 ?_; (case hd=>rfl); (case hg=>rfl); (case hr=>first|(go_simp; done)|(go_simp; rfl)); (case hp=>exact (Reps.one (show Kd.M (Kd.int .u8) _ _ _ ((wrap64 (48+(Int.tmod a0 10)))%256) [.int .u8 ((wrap64 (48+(Int.tmod a0 10)))%256)] from rfl) (Reps.none _ _))); intro v339 w12 ho13 hb hg_ hnew_; clear hg_ hnew_; (first|rw [←Ny338.out] at ho13|(simp only [Int.reduceToNat] at ho13; rw [←Ny338.out] at ho13)); have n0_:=yA (Kd.R_lower ho13 (AT zB)); have n1_:=yA (AO zB hb); clear HB; have HO340:=n0_; have HB:=n1_; clear n0_ n1_; clear hb ho13; have hcv14:=DL (P:=Tryd.prog) Tryd.underlying84 Tryd.underlying5 Tryd.underlying9 (Kd.own_of_R HO340.out)))
  go_loopg [0,3] k (fun kq v0 v3 w'=>∃(x0_1:Int) (x3_1:ByteArray),v0= .int .i64 x0_1∧v3= .string x3_1∧Aside0 (Az.l0 kq x0_1 x3_1=some r)∧Aside0 (kq≤k)∧Aside0 (Below w.heap.size w w'))
  case atStart=>exact ⟨(wrap64 (Int.tdiv a0 10)),(strOfNums y338),zG,zG,H',⟨Nat.le_refl _⟩,⟨by repeat (first|(with_reducible first|exact HB.out|apply AE|apply AC|apply AD)|exact HB.out)⟩⟩
  case round=>
   clear H'
   try clear c1
   try clear hcv1
   try clear c2
   try clear c2b0
   try clear p2
   try clear c3
   try clear c3b0
   try clear c6
   try clear c6b0
   try clear c6b1
   try clear c6b2
   try clear p6
   try clear c10
   try clear c10b0
   try clear c10b1
   try clear c10b2
   try clear hcv14
   obtain ⟨x0_1,x3_1,rfl,rfl,HA,HK1,HB⟩:=hrel
   cases gk with
   |zero=>exact absurd HA.out (by simp [Az.l0])
   | succ k1=>
    have H:=HA.out
    clear HA
    simp only [Az.l0] at H
    by_cases c15:x0_1>0
    ·rw [if_pos c15] at H
     have c15b0:decide (0<x0_1)=true:=decide_eq_true c15
     clear c15
     obtain ⟨y341,hy341⟩:∃y_:List Int,y_=(([(wrap64 (48+(Int.tmod x0_1 10)))%256]:List Int)):=⟨_,rfl⟩
     replace H:(if (strOfNums y341).size+x3_1.size≤9223372036854775807 then (Az.l0 k1 (wrap64 (Int.tdiv x0_1 10)) ((strOfNums y341)++x3_1)) else (none))=some r:=by first|(rw [hy341]; with_reducible exact H)|(have H2_:=(Option.bind_some _ _).symm.trans H; rw [hy341]; with_reducible exact H2_)|(have H2_:=(Option.bind_some _ _).symm.trans H; with_reducible exact H2_)|with_reducible exact H|(rw [hy341]; exact H)|exact H
     have Ny341:=yA hy341
     clear hy341
     by_cases c16:(strOfNums y341).size+x3_1.size≤9223372036854775807
     ·rw [if_pos c16] at H
      have c16b0:=eq_true c16
      have c16b1:decide ((strOfNums y341).size+x3_1.size≤9223372036854775807)=true:=decide_eq_true c16
      try have c16b2:(9223372036854775807<(strOfNums y341).size+x3_1.size)=False:=eq_false (Nat.not_lt.2 c16)
      have H':=yA H
      clear H
      go_wp2_with (first|((with_reducible refine Ar (N:=36) rfl ?_); refine Kd.R_lit (Kd.int .u8) _ 5 ?hg (N:=36) ?hd (xs:=([(wrap64 (48+(Int.tmod x0_1 10)))%256]:List Int)) (inner:=[.int .u8 ((wrap64 (48+(Int.tmod x0_1 10)))%256)]) (ok:=fun _=>True) (okp:=fun _=>True) ?hr ?hp (fun _ hk=>hk) trivial (Below.refl _ _) (Nat.le_refl _) zA6 ?_; (case hd=>rfl); (case hg=>rfl); (case hr=>first|(go_simp; done)|(go_simp; rfl)); (case hp=>exact (Reps.one (show Kd.M (Kd.int .u8) _ _ _ ((wrap64 (48+(Int.tmod x0_1 10)))%256) [.int .u8 ((wrap64 (48+(Int.tmod x0_1 10)))%256)] from rfl) (Reps.none _ _))); intro v342 w17 ho18 hb hg_ hnew_; clear hg_ hnew_; (first|rw [←Ny341.out] at ho18|(simp only [Int.reduceToNat] at ho18; rw [←Ny341.out] at ho18)); have n0_:=yA (Kd.R_lower ho18 (AT zB)); have n1_:=yA (AO zB hb); clear HB; have HO343:=n0_; have HB:=n1_; clear n0_ n1_; clear hb ho18; have hcv19:=DL (P:=Tryd.prog) Tryd.underlying84 Tryd.underlying5 Tryd.underlying9 (Kd.own_of_R HO343.out)))
      go_roundg k1
      case measure=>have:=HK1.out; omega
      case rel=>exact ⟨(wrap64 (Int.tdiv x0_1 10)),((strOfNums y341)++x3_1),zG,zG,H',⟨by have:=HK1.out; omega⟩,⟨by repeat (first|(with_reducible first|exact HB.out|apply AE|apply AC|apply AD)|exact HB.out)⟩⟩
     ·rw [if_neg c16] at H
      exact absurd H zA6
    ·rw [if_neg c15] at H
     have c15b0:decide (0<x0_1)=false:=decide_eq_false c15
     clear c15
     obtain rfl:=Option.some.inj H
     go_wp2
     go_ret
     exact ⟨by first|rfl|(simp [AZ,AY]<;>rfl)|(simp [*,AZ,AY]<;>rfl),by repeat (first|(with_reducible first|exact HB.out|apply AE|apply AC|apply AD)|exact HB.out)⟩
end Go.Proofs.YtdadecjefafflaaDoor.PChk
end
