/- A part of what the law's proof leans on. PACKED BY pack.py of this repo. -/
import Derived.Test.YtdadecjefafflaaU0
set_option linter.unusedVariables false
set_option linter.unusedSimpArgs false
set_option linter.defProp false
set_option linter.unusedSectionVars false
section
namespace Go.Proofs.Ytdadecjefafflaa.PLst
set_option maxRecDepth 100000
open Go.RowKit Go.Proofs.YtdadecjefafflaaW.PrintWords Go.Proofs.YtdadecjefafflaaW.PrintLast Go.Proofs.YtdadecjefafflaaW.PrintMore
attribute [local go_sem] BP BN Bb Ba BG BF BO BM
mutual
def Ac.l0:Nat→List Int→List (S64)→Int→Int→Option (List Int×Int)
 |0,_,_,_,_=>none
 |k+1,x4,x14,x15,x16=>if x16<x15 then (if 0≤x16 then (if x16<(x14.length:Int) then (Ac.l1 k x4 0 x14 x15 x16 ((AL x14 x16).f3) (((AL x14 x16).f3).length:Int) 0 ((AL x14 x16).f0) ((AL x14 x16).f1) ((AL x14 x16).f2) ((AL x14 x16).f3)) else (none)) else (none)) else (some (x4,0))
def Ac.l1:Nat→List Int→Int→List (S64)→Int→Int→List Int→Int→Int→ByteArray→Int→Int→List Int→Option (List Int×Int)
 |0,_,_,_,_,_,_,_,_,_,_,_,_=>none
 |k+1,x4,x7,x14,x15,x16,x21,x22,x23,x118000,x118001,x118002,x118003=>if x23<x22 then (if 0≤x23 then (if x23<(x21.length:Int) then (if 0≤(rd x21 x23) then (if (rd x21 x23)<(x4.length:Int) then (Ac.l1 k x4 (mx x7 (rd x4 (rd x21 x23))) x14 x15 x16 x21 x22 (wrap64 (x23+1)) x118000 x118001 x118002 x118003) else (none)) else (none)) else (none)) else (none)) else (if x4.length<17592186044416 then (Ac.l0 k (x4++[wrap64 (x7+x118001)]) x14 x15 (wrap64 (x16+1))) else (none))
end
def Ac.f (k:Nat) (A8:Int) (l0_1:List (S64)):Option (List Int×Int):=(AM.f k A8 l0_1).bind fun t115=>(if t115=true then (Ac.l0 k ([]:List Int) l0_1 (l0_1.length:Int) 0) else (some (([]:List Int),1)))
theorem Ac.mono_l:∀k,(∀y0 y1 y2 y3,LeO (Ac.l0 k y0 y1 y2 y3) (Ac.l0 (k+1) y0 y1 y2 y3))∧(∀y0 y1 y2 y3 y4 y5 y6 y7 y8 y9 y10 y11,LeO (Ac.l1 k y0 y1 y2 y3 y4 y5 y6 y7 y8 y9 y10 y11) (Ac.l1 (k+1) y0 y1 y2 y3 y4 y5 y6 y7 y8 y9 y10 y11))
 |0=>⟨fun _ _ _ _ r h=>by simp [Ac.l0] at h,fun _ _ _ _ _ _ _ _ _ _ _ _ r h=>by simp [Ac.l1] at h⟩
 | k +1=>by
  obtain ⟨ih0,ih1⟩:=Ac.mono_l k
  refine ⟨?_,?_⟩
  ·intro y0 y1 y2 y3
   unfold Ac.l0
   repeat' first
   |(with_reducible exact ih0 _ _ _ _)
   |(with_reducible exact ih1 _ _ _ _ _ _ _ _ _ _ _ _)
   |(with_reducible exact AM.mono _ _ _)
   |(with_reducible exact LeO.refl _)
   |(with_reducible exact LeO.none _)
   |(with_reducible refine LeO.ite ?_ ?_)
   |(with_reducible refine LeO.bind ?_ (fun _=> ?_))
   |exact ih0 _ _ _ _
   |exact ih1 _ _ _ _ _ _ _ _ _ _ _ _
   |exact AM.mono _ _ _
   |exact LeO.none _
   |refine LeO.ite ?_ ?_
   |refine LeO.bind ?_ (fun _=> ?_)
  ·intro y0 y1 y2 y3 y4 y5 y6 y7 y8 y9 y10 y11
   unfold Ac.l1
   repeat' first
   |(with_reducible exact ih0 _ _ _ _)
   |(with_reducible exact ih1 _ _ _ _ _ _ _ _ _ _ _ _)
   |(with_reducible exact AM.mono _ _ _)
   |(with_reducible exact LeO.refl _)
   |(with_reducible exact LeO.none _)
   |(with_reducible refine LeO.ite ?_ ?_)
   |(with_reducible refine LeO.bind ?_ (fun _=> ?_))
   |exact ih0 _ _ _ _
   |exact ih1 _ _ _ _ _ _ _ _ _ _ _ _
   |exact AM.mono _ _ _
   |exact LeO.none _
   |refine LeO.ite ?_ ?_
   |refine LeO.bind ?_ (fun _=> ?_)
theorem Ac.mono:∀a0 a1 k,LeO (Ac.f k a0 a1) (Ac.f (k+1) a0 a1):=by
 intro a0 a1 k
 obtain ⟨ih0,ih1⟩:=Ac.mono_l k
 unfold Ac.f
 repeat' first
  |(with_reducible exact ih0 _ _ _ _)
  |(with_reducible exact ih1 _ _ _ _ _ _ _ _ _ _ _ _)
  |(with_reducible exact AM.mono _ _ _)
  |(with_reducible exact LeO.refl _)
  |(with_reducible exact LeO.none _)
  |(with_reducible refine LeO.ite ?_ ?_)
  |(with_reducible refine LeO.bind ?_ (fun _=> ?_))
  |exact ih0 _ _ _ _
  |exact ih1 _ _ _ _ _ _ _ _ _ _ _ _
  |exact AM.mono _ _ _
  |exact LeO.none _
  |refine LeO.ite ?_ ?_
  |refine LeO.bind ?_ (fun _=> ?_)
set_option maxHeartbeats 8000000 in
theorem Ac.calls (k:Nat) (A8:Int) (A0_1:Option Addr) (c0_1:Nat) (l0_1:List (S64)) (r1:List Int) (r2:Int) (w:World) (hr0_1:Kd.C k64 w A0_1 l0_1.length l0_1) (hc0_1:l0_1.length≤c0_1) (h:Ac.f k A8 l0_1=some (r1,r2)):
  Calls Try.prog 16 #[.agg #[.int .i64 A8,.slice A0_1 l0_1.length c0_1]] w fun e w'=>∃v0_:Value,e= .returned (.tuple #[v0_,.int .i64 r2])∧Kd.R (Kd.int .i64) 3 w' w.heap.size (fun _=>True) v0_ r1∧Below w.heap.size w w':=by
 have hu34:=Try.underlying34
 have hu64:=Try.underlying64
 have HR0_1:=Aside0.mk hr0_1
 have HC0_1:=Aside0.mk hc0_1
 clear hr0_1 hc0_1
 have HB:=Aside0.mk (Below.refl w.heap.size w)
 have H:((AM.f k A8 l0_1).bind fun t115=>(if t115=true then (Ac.l0 k ([]:List Int) l0_1 (l0_1.length:Int) 0) else (some (([]:List Int),1))))=some (r1,r2):=h
 clear h
 replace H:=Option.bind_eq_some_iff.mp H
 obtain ⟨t115,A20,H⟩:=H
 replace H:(if t115=true then (Ac.l0 k ([]:List Int) l0_1 (l0_1.length:Int) 0) else (some (([]:List Int),1)))=some (r1,r2):=H
 have A2:=Aside0.mk A20
 clear A20
 by_cases c3:t115=true
 ·subst c3
  have H1:(Ac.l0 k ([]:List Int) l0_1 (l0_1.length:Int) 0)=some (r1,r2):=by rw [if_pos rfl] at H; exact H
  clear H
  have H:=H1
  clear H1
  have H':=Aside0.mk H
  clear H
  go_enter Try.func16,Try.ntmps16
  go_wp2_with (first|((with_reducible refine Am (N:=1) rfl ?_); refine Ak ?hg (N:=1) ?hd (cs:= #[.int .i64 A8,.slice A0_1 l0_1.length c0_1]) (t:=34) ?hr ?_; (case hd=>rfl); (case hg=>rfl); (case hr=>first|(go_simp; done)|(go_simp; rfl)); intro gb114 hg w4 hbox hb; have n0_:=Aside0.mk (AO zA hb); have n1_:=Aside0.mk (hbox); have n2_:=Aside0.mk ((by rw [hg]; exact (AP zA):w.heap.size≤gb114)); have n3_:=Aside0.mk ((by rw [hg]; exact (AP zA):w.heap.size≤gb114)); clear HB; have HB:=n0_; have BK114:=n1_; have GW114:=n2_; have GE114:=n3_; clear n0_ n1_ n2_ n3_; clear hb hbox hg; have hcz5_0:w4.cell? ⟨gb114,0,none⟩=some (.int .i64 A8):=(AK BK114.out 0).trans rfl; have hcz5_1:w4.cell? ⟨gb114,1,none⟩=some (.slice A0_1 l0_1.length c0_1):=(AK BK114.out 1).trans rfl; have hfz5_0:=AJ BK114.out 0; have hfz5_1:=AJ BK114.out 1)|((with_reducible refine Ad (f:=29) rfl ?_); refine Ax (some 11) rfl rfl Try.func29 zF rfl #[.agg #[.int .i64 A8,.slice A0_1 l0_1.length c0_1]] rfl zB ?_; (with_reducible refine (AM.calls k A8 _ _ l0_1 true _ ?side1 ?side2 A2.out).mono ?_); (case side1=>repeat (first|exact (Kd.C_below HR0_1.out HB.out)|(with_reducible refine Kd.C_alloc ?_ _)|(with_reducible refine Kd.C_drewN ?_ _)|(with_reducible refine Kd.C_drew ?_))); (case side2=>exact HC0_1.out); rintro e w6 ⟨rfl,hb⟩; refine ⟨_,rfl,?_⟩; have n0_:=Aside0.mk (AN (g:=gb114) (o:= .cells #[.int .i64 A8,.slice A0_1 l0_1.length c0_1] 34 (0,0)) zB2 hb); have n1_:=Aside0.mk (AO zB4 hb); clear BK114; clear HB; have BK114:=n0_; have HB:=n1_; clear n0_ n1_; (try clear hb); (try clear hb2); (try clear hk); (try clear hi); have hcz7_0:w6.cell? ⟨gb114,0,none⟩=some (.int .i64 A8):=(AK BK114.out 0).trans rfl; have hcz7_1:w6.cell? ⟨gb114,1,none⟩=some (.slice A0_1 l0_1.length c0_1):=(AK BK114.out 1).trans rfl; have hfz7_0:=AJ BK114.out 0; have hfz7_1:=AJ BK114.out 1))
  go_loopg [4,16] k (fun kq v4 v16 w'=>∃(x4_1:List Int) (x16_1:Int),v16= .int .i64 x16_1∧Aside0 (Ac.l0 kq x4_1 l0_1 (l0_1.length:Int) x16_1=some (r1,r2))∧Aside0 (kq≤k)∧Aside0 (Kd.R (Kd.int .i64) 3 w' w.heap.size (fun _=>True) v4 x4_1)∧Aside0 (w'.heap[gb114]? =some (.cells #[.int .i64 A8,(.slice A0_1 l0_1.length c0_1)] 34 (0,0)))∧Aside0 (Below w.heap.size w w'))
  case atStart=>exact ⟨(([]:List Int)),(0),zH,H',⟨Nat.le_refl _⟩,⟨by first|exact Kd.R_nil _ _ _ _ _|exact Kd.N_nil _ _ _ _ _|exact Kd.V_nil _ _ _ _ _|exact Kd.Q_nil _ _ _ _ _|exact Kd.S_nil _ _ _ _ _⟩,⟨by (with_reducible repeat (first|refine AF ?_ _|refine AI ?_|refine AG ?_ _)); exact BK114.out⟩,⟨by repeat (first|(with_reducible first|exact HB.out|apply AE|apply AC|apply AD|refine AH ?_ GE114.out)|exact HB.out)⟩⟩
  case round=>
   clear H'
   try clear c1
   try clear c2
   try clear p2
   try clear c3
   try clear hcz5_0
   try clear hcz5_1
   try clear hcz7_0
   try clear hcz7_1
   try clear hfz5_0
   try clear hfz5_1
   try clear hfz7_0
   try clear hfz7_1
   obtain ⟨x4_1,x16_1,rfl,HA,HK1,HO_4,BK114,HB⟩:=hrel
   cases gk with
   |zero=>exact absurd HA.out (by simp [Ac.l0])
   | succ k1 =>
    have H:=HA.out
    clear HA
    simp only [Ac.l0] at H
    by_cases c8:x16_1<(l0_1.length:Int)
    ·rw [if_pos c8] at H
     have c8b0:decide (x16_1<(l0_1.length:Int))=true:=decide_eq_true c8
     clear c8
     by_cases c9:0≤x16_1
     ·rw [if_pos c9] at H
      have c9b0:decide (0≤x16_1)=true:=decide_eq_true c9
      clear c9
      by_cases c10:x16_1<(l0_1.length:Int)
      ·rw [if_pos c10] at H
       have c10b0:decide (x16_1<(l0_1.length:Int))=true:=decide_eq_true c10
       clear c10
       have H':=Aside0.mk H
       clear H
       have p116:0≤(x16_1:Int):=of_decide_eq_true zC
       have q116:x16_1<(l0_1.length:Int):=of_decide_eq_true zC
       obtain ⟨ad116,A116_3,c116_3,e116,hx116_0,hx116_1,hx116_2,hx116_3,hl116_3,hi116_3⟩:=Bi HR0_1.out x16_1 p116 q116
       cases e116
       replace hx116_0:=(HB.out.cell (World.block_lt_of_cell? w _ hx116_0)).trans hx116_0
       replace hx116_1:=(HB.out.cell (World.block_lt_of_cell? w _ hx116_1)).trans hx116_1
       replace hx116_2:=(HB.out.cell (World.block_lt_of_cell? w _ hx116_2)).trans hx116_2
       replace hx116_3:=(HB.out.cell (World.block_lt_of_cell? w _ hx116_3)).trans hx116_3
       have HR116_3:=Aside0.mk hi116_3
       have HC116_3:=Aside0.mk hl116_3
       clear hi116_3 hl116_3
       replace p116:=eq_true p116
       replace q116:=eq_true q116
       go_wp2_with (first|((with_reducible refine Am (N:=6) rfl ?_); refine Ak ?hg (N:=6) ?hd (cs:= #[.string (⟨#[]⟩:ByteArray),.int .i64 0,.int .i64 0,.slice none 0 0]) (t:=64) ?hr ?_; (case hd=>rfl); (case hg=>rfl); (case hr=>first|(go_simp; done)|(go_simp; rfl)); intro gb117 hg w11 hbox hb; have n0_:=Aside0.mk (Kd.R_below zA3 hb); have n1_:=Aside0.mk (AN (g:=gb114) (o:= .cells #[.int .i64 A8,.slice (some ad116) l0_1.length c0_1] 34 (0,0)) zB2 hb); have n2_:=Aside0.mk (AO zB4 hb); have n3_:=Aside0.mk (hbox); have n4_:=Aside0.mk ((by rw [hg]; exact (AP zB4):w.heap.size≤gb117)); have n5_:=Aside0.mk ((by rw [hg]; exact (AP zB4):w.heap.size≤gb117)); have n6_:=Aside0.mk ((by rw [hg]; exact Nat.ne_of_lt (Ar (g:=gb114) (o:= .cells #[.int .i64 A8,.slice (some ad116) l0_1.length c0_1] 34 (0,0)) zB2):gb114≠gb117)); have n7_:=Aside0.mk ((by rw [hg]; exact Nat.ne_of_gt (Ar (g:=gb114) (o:= .cells #[.int .i64 A8,.slice (some ad116) l0_1.length c0_1] 34 (0,0)) zB2):gb117≠gb114)); clear HO_4; clear BK114; clear HB; have HO_4:=n0_; have BK114:=n1_; have HB:=n2_; have BK117:=n3_; have GW117:=n4_; have GE117:=n5_; have NB114_117:=n6_; have NB117_114:=n7_; clear n0_ n1_ n2_ n3_ n4_ n5_ n6_ n7_; clear hb hbox hg; have hnb12:=NB117_114.out; have hnc12:=NB114_117.out; have hcz13_0:w11.cell? ⟨gb117,0,none⟩=some (.string (⟨#[]⟩:ByteArray)):=(AK BK117.out 0).trans rfl; have hcz13_1:w11.cell? ⟨gb117,1,none⟩=some (.int .i64 0):=(AK BK117.out 1).trans rfl; have hcz13_2:w11.cell? ⟨gb117,2,none⟩=some (.int .i64 0):=(AK BK117.out 2).trans rfl; have hcz13_3:w11.cell? ⟨gb117,3,none⟩=some (.slice none 0 0):=(AK BK117.out 3).trans rfl; have hfz13_0:=AJ BK117.out 0; have hfz13_1:=AJ BK117.out 1; have hfz13_2:=AJ BK117.out 2; have hfz13_3:=AJ BK117.out 3))
       go_loopg [7,23] k1 (fun kq v7 v23 w'=>∃(x7_2:Int) (x23_2:Int),v7= .int .i64 x7_2∧v23= .int .i64 x23_2∧Aside0 (Ac.l1 kq x4_1 x7_2 l0_1 (l0_1.length:Int) x16_1 ((AL l0_1 x16_1).f3) (((AL l0_1 x16_1).f3).length:Int) x23_2 ((AL l0_1 x16_1).f0) ((AL l0_1 x16_1).f1) ((AL l0_1 x16_1).f2) ((AL l0_1 x16_1).f3)=some (r1,r2))∧Aside0 (kq≤k1)∧Aside0 (Kd.R (Kd.int .i64) 3 w' w.heap.size (fun _=>True) u4 x4_1)∧Aside0 (w'.heap[gb114]? =some (.cells #[.int .i64 A8,(.slice (some ad116) l0_1.length c0_1)] 34 (0,0)))∧Aside0 (w'.heap[gb117]? =some (.cells #[.string ((AL l0_1 x16_1).f0),.int .i64 ((AL l0_1 x16_1).f1),.int .i64 ((AL l0_1 x16_1).f2),(.slice A116_3 ((AL l0_1 x16_1).f3).length c116_3)] 64 (0,0)))∧Aside0 (Below w.heap.size w w'))
       case atStart=>exact ⟨(0),(0),zH,zH,H',⟨Nat.le_refl _⟩,⟨by (with_reducible repeat (first|apply Kd.R_alloc|apply Kd.R_drewN|apply Kd.R_drew)); exact Kd.R_mono (Kd.R_far (p:=⟨gb117,3,none⟩) (Kd.R_far (p:=⟨gb117,2,none⟩) (Kd.R_far (p:=⟨gb117,1,none⟩) (Kd.R_far (p:=⟨gb117,0,none⟩) (Kd.R_types HO_4.out BK117.out zX) (fun _ hk=>hk.2) (.string ((AL l0_1 x16_1).f0))) (fun _ hk=>hk.2) (.int .i64 ((AL l0_1 x16_1).f1))) (fun _ hk=>hk.2) (.int .i64 ((AL l0_1 x16_1).f2))) (fun _ hk=>hk.2) (.slice A116_3 ((AL l0_1 x16_1).f3).length c116_3)) (fun _ hk=>trivial)⟩,⟨by (with_reducible repeat (first|refine AF ?_ _|refine AI ?_|refine AG ?_ _)); refine AV ?_ NB114_117.out _; (with_reducible repeat (first|refine AF ?_ _|refine AI ?_|refine AG ?_ _)); refine AV ?_ NB114_117.out _; (with_reducible repeat (first|refine AF ?_ _|refine AI ?_|refine AG ?_ _)); refine AV ?_ NB114_117.out _; (with_reducible repeat (first|refine AF ?_ _|refine AI ?_|refine AG ?_ _)); refine AV ?_ NB114_117.out _; (with_reducible repeat (first|refine AF ?_ _|refine AI ?_|refine AG ?_ _)); exact BK114.out⟩,⟨by (with_reducible repeat (first|refine AF ?_ _|refine AI ?_|refine AG ?_ _)); refine At (cs:= #[.string ((AL l0_1 x16_1).f0),.int .i64 ((AL l0_1 x16_1).f1),.int .i64 ((AL l0_1 x16_1).f2),.slice none 0 0]) ?_ 3 _ rfl; (with_reducible repeat (first|refine AF ?_ _|refine AI ?_|refine AG ?_ _)); refine At (cs:= #[.string ((AL l0_1 x16_1).f0),.int .i64 ((AL l0_1 x16_1).f1),.int .i64 0,.slice none 0 0]) ?_ 2 _ rfl; (with_reducible repeat (first|refine AF ?_ _|refine AI ?_|refine AG ?_ _)); refine At (cs:= #[.string ((AL l0_1 x16_1).f0),.int .i64 0,.int .i64 0,.slice none 0 0]) ?_ 1 _ rfl; (with_reducible repeat (first|refine AF ?_ _|refine AI ?_|refine AG ?_ _)); refine At (cs:= #[.string (⟨#[]⟩:ByteArray),.int .i64 0,.int .i64 0,.slice none 0 0]) ?_ 0 _ rfl; (with_reducible repeat (first|refine AF ?_ _|refine AI ?_|refine AG ?_ _)); exact BK117.out⟩,⟨by repeat (first|(with_reducible first|exact HB.out|apply AE|apply AC|apply AD|refine AH ?_ GE114.out|refine AH ?_ GE117.out)|exact HB.out)⟩⟩
       case round=>
        clear H'
        try clear c1
        try clear p1
        try clear q1
        try clear hx1
        try clear c2
        try clear p2
        try clear c3
        try clear c8
        try clear c8b0
        try clear c9
        try clear c9b0
        try clear c10
        try clear c10b0
        try clear c11
        try clear p11
        try clear q11
        try clear hx11
        try clear c12
        try clear hcz13_0
        try clear hcz13_1
        try clear hcz13_2
        try clear hcz13_3
        try clear hcz5_0
        try clear hcz5_1
        try clear hcz7_0
        try clear hcz7_1
        try clear hfz13_0
        try clear hfz13_1
        try clear hfz13_2
        try clear hfz13_3
        try clear hfz5_0
        try clear hfz5_1
        try clear hfz7_0
        try clear hfz7_1
        try clear hx116_0
        try clear hx116_1
        try clear hx116_2
        try clear hx116_3
        try clear p116
        try clear p2
        try clear q116
        obtain ⟨x7_2,x23_2,rfl,rfl,HA,HK2,HO_4,BK114,BK117,HB⟩:=hrel
        cases gk with
        |zero=>exact absurd HA.out (by simp [Ac.l1])
        | succ k2 =>
         have H:=HA.out
         clear HA
         simp only [Ac.l1] at H
         by_cases c14:x23_2<(((AL l0_1 x16_1).f3).length:Int)
         ·rw [if_pos c14] at H
          have c14b0:decide (x23_2<(((AL l0_1 x16_1).f3).length:Int))=true:=decide_eq_true c14
          clear c14
          by_cases c15:0≤x23_2
          ·rw [if_pos c15] at H
           have c15b0:decide (0≤x23_2)=true:=decide_eq_true c15
           clear c15
           by_cases c16:x23_2<(((AL l0_1 x16_1).f3).length:Int)
           ·rw [if_pos c16] at H
            have c16b0:decide (x23_2<(((AL l0_1 x16_1).f3).length:Int))=true:=decide_eq_true c16
            clear c16
            by_cases c17:0≤(rd ((AL l0_1 x16_1).f3) x23_2)
            ·rw [if_pos c17] at H
             have c17b0:decide (0≤(rd ((AL l0_1 x16_1).f3) x23_2))=true:=decide_eq_true c17
             clear c17
             by_cases c18:(rd ((AL l0_1 x16_1).f3) x23_2)<(x4_1.length:Int)
             ·rw [if_pos c18] at H
              have c18b0:decide ((rd ((AL l0_1 x16_1).f3) x23_2)<(x4_1.length:Int))=true:=decide_eq_true c18
              clear c18
              obtain ⟨ji19,hji19⟩:∃j_:Int,(mx x7_2 (rd x4_1 (rd ((AL l0_1 x16_1).f3) x23_2)))=j_:=⟨_,rfl⟩
              replace H:(Ac.l1 k2 x4_1 ji19 l0_1 (l0_1.length:Int) x16_1 ((AL l0_1 x16_1).f3) (((AL l0_1 x16_1).f3).length:Int) (wrap64 (x23_2+1)) ((AL l0_1 x16_1).f0) ((AL l0_1 x16_1).f1) ((AL l0_1 x16_1).f2) ((AL l0_1 x16_1).f3))=some (r1,r2):=by first|(rw [hji19] at H; exact H)|(simp only [hji19] at H ⊢; exact H)
              have hji19_:(if x7_2<(rd x4_1 (rd ((AL l0_1 x16_1).f3) x23_2)) then (rd x4_1 (rd ((AL l0_1 x16_1).f3) x23_2)) else x7_2)=ji19:=hji19
              have H':=Aside0.mk H
              clear H
              have p118:0≤(x23_2:Int):=of_decide_eq_true zC
              have q118:x23_2<(((AL l0_1 x16_1).f3).length:Int):=of_decide_eq_true zC
              obtain ⟨ad118,e118,hx118_0⟩:=Kd.at_int HR116_3.out x23_2 p118 q118
              cases e118
              replace hx118_0:=(HB.out.cell (World.block_lt_of_cell? w _ hx118_0)).trans hx118_0
              replace p118:=eq_true p118
              replace q118:=eq_true q118
              obtain ⟨Ao20,co20,eo20⟩:=Kd.R_slice HO_4.out
              subst eo20
              have p119:0≤((rd ((AL l0_1 x16_1).f3) x23_2):Int):=of_decide_eq_true zC
              have q119:(rd ((AL l0_1 x16_1).f3) x23_2)<(x4_1.length:Int):=of_decide_eq_true zC
              obtain ⟨ad119,e119,hx119_0⟩:=Kd.at_int (Kd.R_reads' HO_4.out).2.2 (rd ((AL l0_1 x16_1).f3) x23_2) p119 q119
              cases e119
              replace p119:=eq_true p119
              replace q119:=eq_true q119
              go_wp2
              go_roundg k2
              case measure=>have:=HK1.out; have:=HK2.out; omega
              case rel=>exact ⟨(ji19),(wrap64 (x23_2+1)),(by first|rfl|(simp; done)|(simp only [←hji19]<;>(first|rfl|simp))|(simp [*]; done)),zH,H',⟨by have:=HK1.out; have:=HK2.out; omega⟩,⟨by (with_reducible repeat (first|apply Kd.R_alloc|apply Kd.R_drewN|apply Kd.R_drew)); exact HO_4.out⟩,⟨by (with_reducible repeat (first|refine AF ?_ _|refine AI ?_|refine AG ?_ _)); exact BK114.out⟩,⟨by (with_reducible repeat (first|refine AF ?_ _|refine AI ?_|refine AG ?_ _)); exact BK117.out⟩,⟨by repeat (first|(with_reducible first|exact HB.out|apply AE|apply AC|apply AD|refine AH ?_ GE114.out|refine AH ?_ GE117.out)|exact HB.out)⟩⟩
             ·rw [if_neg c18] at H
              exact absurd H zA1
            ·rw [if_neg c17] at H
             exact absurd H zA1
           ·rw [if_neg c16] at H
            exact absurd H zA1
          ·rw [if_neg c15] at H
           exact absurd H zA1
         ·rw [if_neg c14] at H
          have c14b0:decide (x23_2<(((AL l0_1 x16_1).f3).length:Int))=false:=decide_eq_false c14
          clear c14
          by_cases c21:x4_1.length<17592186044416
          ·rw [if_pos c21] at H
           have LMc21:=Aside0.mk c21
           clear c21
           obtain ⟨y120,hy120⟩:∃y_:List Int,y_=(x4_1++[wrap64 (x7_2+((AL l0_1 x16_1).f1))]):=⟨_,rfl⟩
           replace H:(Ac.l0 k2 y120 l0_1 (l0_1.length:Int) (wrap64 (x16_1+1)))=some (r1,r2):=by first|(rw [hy120]; with_reducible exact H)|(have H2_:=(Option.bind_some _ _).symm.trans H; rw [hy120]; with_reducible exact H2_)|(have H2_:=(Option.bind_some _ _).symm.trans H; with_reducible exact H2_)|with_reducible exact H|(rw [hy120]; exact H)|exact H
           have Ny120:=Aside0.mk hy120
           clear hy120
           have H':=Aside0.mk H
           clear H
           have hnb22:=NB117_114.out
           have hnc22:=NB114_117.out
           have hcz23_0:wr.cell? ⟨gb117,0,none⟩=some (.string ((AL l0_1 x16_1).f0)):=(AK BK117.out 0).trans rfl
           have hcz23_1:wr.cell? ⟨gb117,1,none⟩=some (.int .i64 ((AL l0_1 x16_1).f1)):=(AK BK117.out 1).trans rfl
           have hcz23_2:wr.cell? ⟨gb117,2,none⟩=some (.int .i64 ((AL l0_1 x16_1).f2)):=(AK BK117.out 2).trans rfl
           have hcz23_3:wr.cell? ⟨gb117,3,none⟩=some (.slice A116_3 ((AL l0_1 x16_1).f3).length c116_3):=(AK BK117.out 3).trans rfl
           have hfz23_0:=AJ BK117.out 0
           have hfz23_1:=AJ BK117.out 1
           have hfz23_2:=AJ BK117.out 2
           have hfz23_3:=AJ BK117.out 3
           go_wp2_with (first|((with_reducible refine Bm (b:= .append) (xs:= #[.tmp 34,.tmp 39]) rfl ?_); at_builtin; refine Kd.R_append (Kd.int .i64) (w0:=w) w.heap.size rfl (.tmp 34) (.tmp 39) 26 3 (.int .i64 0) 8 rfl Try.underlying26 info3 rfl zX zD u4 x4_1 (wrap64 (x7_2+((AL l0_1 x16_1).f1))) [.int .i64 (wrap64 (x7_2+((AL l0_1 x16_1).f1)))] (fun _=>True) (fun _=>False) rfl rfl ?aP (fun _ hk=>hk.elim) ?aF ?aO ?aB ?aS ?aL ?_; (case aP=>exact rfl); (case aB=>exact (by repeat (first|(with_reducible first|exact HB.out|apply AE|apply AC|apply AD|refine AH ?_ GE114.out|refine AH ?_ GE117.out)|exact HB.out))); (case aF=>exact (fun _ _=>trivial)); (case aO=>exact zA3); (case aS=>exact (AP (by repeat (first|(with_reducible first|exact HB.out|apply AE|apply AC|apply AD|refine AH ?_ GE114.out|refine AH ?_ GE117.out)|exact HB.out)))); (case aL=>have:=LMc21.out; omega); intro v121 w24 ho hb hg hat; rw [←Ny120.out] at ho; have n0_:=Aside0.mk (BC (g:=gb114) (o:= .cells #[.int .i64 A8,.slice (some ad116) l0_1.length c0_1] 34 (0,0)) zB2 hg (Kd.R_ne HO_4.out BK114.out zX)); have n1_:=Aside0.mk (BC (g:=gb117) (o:= .cells #[.string ((AL l0_1 x16_1).f0),.int .i64 ((AL l0_1 x16_1).f1),.int .i64 ((AL l0_1 x16_1).f2),.slice A116_3 ((AL l0_1 x16_1).f3).length c116_3] 64 (0,0)) (by (with_reducible repeat (first|refine AF ?_ _|refine AI ?_|refine AG ?_ _)); exact BK117.out) hg (Kd.R_ne HO_4.out BK117.out zX)); have n2_:=Aside0.mk (hb); have n3_:=Aside0.mk (ho); clear BK114; clear BK117; clear HB; clear HO_4; have BK114:=n0_; have BK117:=n1_; have HB:=n2_; have HO122:=n3_; clear n0_ n1_ n2_ n3_; clear ho hb hg hat))
           go_roundg k2
           case measure=>have:=HK1.out; have:=HK2.out; omega
           case rel=>exact ⟨(y120),(wrap64 (x16_1+1)),zH,H',⟨by have:=HK1.out; have:=HK2.out; omega⟩,⟨by (with_reducible repeat (first|apply Kd.R_alloc|apply Kd.R_drewN|apply Kd.R_drew)); exact HO122.out⟩,⟨by (with_reducible repeat (first|refine AF ?_ _|refine AI ?_|refine AG ?_ _)); exact BK114.out⟩,⟨by repeat (first|(with_reducible first|exact HB.out|apply AE|apply AC|apply AD|refine AH ?_ GE114.out|refine AH ?_ GE117.out)|exact HB.out)⟩⟩
          ·rw [if_neg c21] at H
           exact absurd H zA1
      ·rw [if_neg c10] at H
       exact absurd H zA1
     ·rw [if_neg c9] at H
      exact absurd H zA1
    ·rw [if_neg c8] at H
     have c8b0:decide (x16_1<(l0_1.length:Int))=false:=decide_eq_false c8
     clear c8
     simp only [Option.some.injEq,Prod.mk.injEq] at H
     obtain ⟨rfl,rfl⟩:=H
     go_wp2
     go_ret2
     exact ⟨_,by first|rfl|(simp [AY,AX]<;>rfl)|(simp [*,AY,AX]<;>rfl),by (with_reducible repeat (first|apply Kd.R_alloc|apply Kd.R_drewN|apply Kd.R_drew)); exact HO_4.out,by repeat (first|(with_reducible first|exact HB.out|apply AE|apply AC|apply AD|refine AH ?_ GE114.out)|exact HB.out)⟩
 ·replace c3:=Bool.eq_false_iff.mpr c3
  subst c3
  have H1:(some (([]:List Int),1))=some (r1,r2):=by rw [if_neg (show ¬(false=true) by decide)] at H; exact H
  clear H
  have H:=H1
  clear H1
  simp only [Option.some.injEq,Prod.mk.injEq] at H
  obtain ⟨rfl,rfl⟩:=H
  go_enter Try.func16,Try.ntmps16
  go_wp2_with (first|((with_reducible refine Am (N:=1) rfl ?_); refine Ak ?hg (N:=1) ?hd (cs:= #[.int .i64 A8,.slice A0_1 l0_1.length c0_1]) (t:=34) ?hr ?_; (case hd=>rfl); (case hg=>rfl); (case hr=>first|(go_simp; done)|(go_simp; rfl)); intro gb114 hg w25 hbox hb; have n0_:=Aside0.mk (AO zA hb); have n1_:=Aside0.mk (hbox); have n2_:=Aside0.mk ((by rw [hg]; exact (AP zA):w.heap.size≤gb114)); have n3_:=Aside0.mk ((by rw [hg]; exact (AP zA):w.heap.size≤gb114)); clear HB; have HB:=n0_; have BK114:=n1_; have GW114:=n2_; have GE114:=n3_; clear n0_ n1_ n2_ n3_; clear hb hbox hg; have hcz26_0:w25.cell? ⟨gb114,0,none⟩=some (.int .i64 A8):=(AK BK114.out 0).trans rfl; have hcz26_1:w25.cell? ⟨gb114,1,none⟩=some (.slice A0_1 l0_1.length c0_1):=(AK BK114.out 1).trans rfl; have hfz26_0:=AJ BK114.out 0; have hfz26_1:=AJ BK114.out 1)|((with_reducible refine Ad (f:=29) rfl ?_); refine Ax (some 11) rfl rfl Try.func29 zF rfl #[.agg #[.int .i64 A8,.slice A0_1 l0_1.length c0_1]] rfl zB ?_; (with_reducible refine (AM.calls k A8 _ _ l0_1 false _ ?side1 ?side2 A2.out).mono ?_); (case side1=>repeat (first|exact (Kd.C_below HR0_1.out HB.out)|(with_reducible refine Kd.C_alloc ?_ _)|(with_reducible refine Kd.C_drewN ?_ _)|(with_reducible refine Kd.C_drew ?_))); (case side2=>exact HC0_1.out); rintro e w27 ⟨rfl,hb⟩; refine ⟨_,rfl,?_⟩; have n0_:=Aside0.mk (AN (g:=gb114) (o:= .cells #[.int .i64 A8,.slice A0_1 l0_1.length c0_1] 34 (0,0)) zB2 hb); have n1_:=Aside0.mk (AO zB4 hb); clear BK114; clear HB; have BK114:=n0_; have HB:=n1_; clear n0_ n1_; (try clear hb); (try clear hb2); (try clear hk); (try clear hi)))
  go_ret2
  exact ⟨_,by first|rfl|(simp [AY,AX]<;>rfl)|(simp [*,AY,AX]<;>rfl),by first|exact Kd.R_nil _ _ _ _ _|exact Kd.N_nil _ _ _ _ _|exact Kd.V_nil _ _ _ _ _|exact Kd.Q_nil _ _ _ _ _|exact Kd.S_nil _ _ _ _ _,by repeat (first|(with_reducible first|exact HB.out|apply AE|apply AC|apply AD|refine AH ?_ GE114.out)|exact HB.out)⟩
def Al.l0:Nat→List Int→Int→Int→List (S64)→Int→Int→Int→List (S64)→Option (Int×Int)
 |0,_,_,_,_,_,_,_,_=>none
 |k+1,x4,x6,x7,x19,x20,x21,x124000,x124001=>if x21<x20 then (if 0≤x21 then (if x21<(x19.length:Int) then (if x21<(x4.length:Int) then (Al.l0 k x4 (wrap64 (x6+((AL x19 x21).f1))) (mx x7 (rd x4 x21)) x19 x20 (wrap64 (x21+1)) x124000 x124001) else (none)) else (none)) else (none)) else (if x124000=0 then (none) else (some (mx x7 (wrap64 (Int.tdiv (wrap64 ((wrap64 (x6+x124000))-1)) x124000)),0)))
def Al.f (k:Nat) (A8:Int) (l0_1:List (S64)):Option (Int×Int):=(Ac.f k A8 l0_1).bind fun bt124=>(if bt124.2=0 then (Al.l0 k bt124.1 0 0 l0_1 (l0_1.length:Int) 0 A8 l0_1) else (some (0,bt124.2)))
theorem Al.mono_l:∀k,(∀y0 y1 y2 y3 y4 y5 y6 y7,LeO (Al.l0 k y0 y1 y2 y3 y4 y5 y6 y7) (Al.l0 (k+1) y0 y1 y2 y3 y4 y5 y6 y7))
 |0=>fun _ _ _ _ _ _ _ _ r h=>by simp [Al.l0] at h
 | k +1=>by
  have ih0:=Al.mono_l k
  ·intro y0 y1 y2 y3 y4 y5 y6 y7
   unfold Al.l0
   repeat' first
   |(with_reducible exact ih0 _ _ _ _ _ _ _ _)
   |(with_reducible exact Ac.mono _ _ _)
   |(with_reducible exact LeO.refl _)
   |(with_reducible exact LeO.none _)
   |(with_reducible refine LeO.ite ?_ ?_)
   |(with_reducible refine LeO.bind ?_ (fun _=> ?_))
   |exact ih0 _ _ _ _ _ _ _ _
   |exact Ac.mono _ _ _
   |exact LeO.none _
   |refine LeO.ite ?_ ?_
   |refine LeO.bind ?_ (fun _=> ?_)
theorem Al.mono:∀a0 a1 k,LeO (Al.f k a0 a1) (Al.f (k+1) a0 a1):=by
 intro a0 a1 k
 have ih0:=Al.mono_l k
 unfold Al.f
 repeat' first
  |(with_reducible exact ih0 _ _ _ _ _ _ _ _)
  |(with_reducible exact Ac.mono _ _ _)
  |(with_reducible exact LeO.refl _)
  |(with_reducible exact LeO.none _)
  |(with_reducible refine LeO.ite ?_ ?_)
  |(with_reducible refine LeO.bind ?_ (fun _=> ?_))
  |exact ih0 _ _ _ _ _ _ _ _
  |exact Ac.mono _ _ _
  |exact LeO.none _
  |refine LeO.ite ?_ ?_
  |refine LeO.bind ?_ (fun _=> ?_)
set_option maxHeartbeats 8000000 in
theorem Al.calls (k:Nat) (A8:Int) (A0_1:Option Addr) (c0_1:Nat) (l0_1:List (S64)) (r1:Int) (r2:Int) (w:World) (hr0_1:Kd.C k64 w A0_1 l0_1.length l0_1) (hc0_1:l0_1.length≤c0_1) (h:Al.f k A8 l0_1=some (r1,r2)):
  Calls Try.prog 11 #[.agg #[.int .i64 A8,.slice A0_1 l0_1.length c0_1]] w fun e w'=>e= .returned (.tuple #[.int .i64 r1,.int .i64 r2])∧Below w.heap.size w w':=by
 have hu34:=Try.underlying34
 have hu64:=Try.underlying64
 have HR0_1:=Aside0.mk hr0_1
 have HC0_1:=Aside0.mk hc0_1
 clear hr0_1 hc0_1
 have HB:=Aside0.mk (Below.refl w.heap.size w)
 have H:((Ac.f k A8 l0_1).bind fun bt124=>(if bt124.2=0 then (Al.l0 k bt124.1 0 0 l0_1 (l0_1.length:Int) 0 A8 l0_1) else (some (0,bt124.2))))=some (r1,r2):=h
 clear h
 replace H:=Option.bind_eq_some_iff.mp H
 obtain ⟨⟨t124,t127⟩,A20,H⟩:=H
 replace H:(if t127=0 then (Al.l0 k t124 0 0 l0_1 (l0_1.length:Int) 0 A8 l0_1) else (some (0,t127)))=some (r1,r2):=H
 have A2:=Aside0.mk A20
 clear A20
 by_cases c3:t127=0
 ·rw [if_pos c3] at H
  have c3b0:(t127==0)=true:=beq_iff_eq.mpr c3
  have c3b1:(t127 !=0)=false:=bne_eq_false_iff_eq.mpr c3
  clear c3
  have H':=Aside0.mk H
  clear H
  go_enter Try.func11,Try.ntmps11
  go_wp2_with (first|((with_reducible refine Am (N:=1) rfl ?_); refine Ak ?hg (N:=1) ?hd (cs:= #[.int .i64 A8,.slice A0_1 l0_1.length c0_1]) (t:=34) ?hr ?_; (case hd=>rfl); (case hg=>rfl); (case hr=>first|(go_simp; done)|(go_simp; rfl)); intro gb123 hg w4 hbox hb; have n0_:=Aside0.mk (AO zA hb); have n1_:=Aside0.mk (hbox); have n2_:=Aside0.mk ((by rw [hg]; exact (AP zA):w.heap.size≤gb123)); have n3_:=Aside0.mk ((by rw [hg]; exact (AP zA):w.heap.size≤gb123)); clear HB; have HB:=n0_; have BK123:=n1_; have GW123:=n2_; have GE123:=n3_; clear n0_ n1_ n2_ n3_; clear hb hbox hg; have hcz5_0:w4.cell? ⟨gb123,0,none⟩=some (.int .i64 A8):=(AK BK123.out 0).trans rfl; have hcz5_1:w4.cell? ⟨gb123,1,none⟩=some (.slice A0_1 l0_1.length c0_1):=(AK BK123.out 1).trans rfl; have hfz5_0:=AJ BK123.out 0; have hfz5_1:=AJ BK123.out 1)|(go_at_call 16; (with_reducible refine (Ac.calls k A8 _ _ l0_1 t124 t127 _ ?side1 ?side2 A2.out).mono ?_); (case side1=>repeat (first|exact (Kd.C_below HR0_1.out HB.out)|(with_reducible refine Kd.C_alloc ?_ _)|(with_reducible refine Kd.C_drewN ?_ _)|(with_reducible refine Kd.C_drew ?_))); (case side2=>exact HC0_1.out); rintro e w6 ⟨v125,rfl,ho0,hb⟩; have n0_:=Aside0.mk (Kd.R_lower ho0 (AP zI)); have n1_:=Aside0.mk (AN (g:=gb123) (o:= .cells #[.int .i64 A8,.slice A0_1 l0_1.length c0_1] 34 (0,0)) zP hb); have n2_:=Aside0.mk (AO zI hb); clear BK123; clear HB; have HO126:=n0_; have BK123:=n1_; have HB:=n2_; clear n0_ n1_ n2_; (try clear hb); (try clear hb2); (try clear hk); (try clear hi); (try clear ho0); have hcz7_0:w6.cell? ⟨gb123,0,none⟩=some (.int .i64 A8):=(AK BK123.out 0).trans rfl; have hcz7_1:w6.cell? ⟨gb123,1,none⟩=some (.slice A0_1 l0_1.length c0_1):=(AK BK123.out 1).trans rfl; have hfz7_0:=AJ BK123.out 0; have hfz7_1:=AJ BK123.out 1))
  repeat (go_quiet (first|((with_reducible refine Am (N:=1) rfl ?_); refine Ak ?hg (N:=1) ?hd (cs:= #[.int .i64 A8,.slice A0_1 l0_1.length c0_1]) (t:=34) ?hr ?_; (case hd=>rfl); (case hg=>rfl); (case hr=>first|(go_simp; done)|(go_simp; rfl)); intro gb123 hg w4 hbox hb; have n0_:=Aside0.mk (AO zA hb); have n1_:=Aside0.mk (hbox); have n2_:=Aside0.mk ((by rw [hg]; exact (AP zA):w.heap.size≤gb123)); have n3_:=Aside0.mk ((by rw [hg]; exact (AP zA):w.heap.size≤gb123)); clear HB; have HB:=n0_; have BK123:=n1_; have GW123:=n2_; have GE123:=n3_; clear n0_ n1_ n2_ n3_; clear hb hbox hg; have hcz5_0:w4.cell? ⟨gb123,0,none⟩=some (.int .i64 A8):=(AK BK123.out 0).trans rfl; have hcz5_1:w4.cell? ⟨gb123,1,none⟩=some (.slice A0_1 l0_1.length c0_1):=(AK BK123.out 1).trans rfl; have hfz5_0:=AJ BK123.out 0; have hfz5_1:=AJ BK123.out 1)|(go_at_call 16; (with_reducible refine (Ac.calls k A8 _ _ l0_1 t124 t127 _ ?side1 ?side2 A2.out).mono ?_); (case side1=>repeat (first|exact (Kd.C_below HR0_1.out HB.out)|(with_reducible refine Kd.C_alloc ?_ _)|(with_reducible refine Kd.C_drewN ?_ _)|(with_reducible refine Kd.C_drew ?_))); (case side2=>exact HC0_1.out); rintro e w6 ⟨v125,rfl,ho0,hb⟩; have n0_:=Aside0.mk (Kd.R_lower ho0 (AP zI)); have n1_:=Aside0.mk (AN (g:=gb123) (o:= .cells #[.int .i64 A8,.slice A0_1 l0_1.length c0_1] 34 (0,0)) zP hb); have n2_:=Aside0.mk (AO zI hb); clear BK123; clear HB; have HO126:=n0_; have BK123:=n1_; have HB:=n2_; clear n0_ n1_ n2_; (try clear hb); (try clear hb2); (try clear hk); (try clear hi); (try clear ho0); have hcz7_0:w6.cell? ⟨gb123,0,none⟩=some (.int .i64 A8):=(AK BK123.out 0).trans rfl; have hcz7_1:w6.cell? ⟨gb123,1,none⟩=some (.slice A0_1 l0_1.length c0_1):=(AK BK123.out 1).trans rfl; have hfz7_0:=AJ BK123.out 0; have hfz7_1:=AJ BK123.out 1; clear A2)); try go_wp2_with (first|((with_reducible refine Am (N:=1) rfl ?_); refine Ak ?hg (N:=1) ?hd (cs:= #[.int .i64 A8,.slice A0_1 l0_1.length c0_1]) (t:=34) ?hr ?_; (case hd=>rfl); (case hg=>rfl); (case hr=>first|(go_simp; done)|(go_simp; rfl)); intro gb123 hg w4 hbox hb; have n0_:=Aside0.mk (AO zA hb); have n1_:=Aside0.mk (hbox); have n2_:=Aside0.mk ((by rw [hg]; exact (AP zA):w.heap.size≤gb123)); have n3_:=Aside0.mk ((by rw [hg]; exact (AP zA):w.heap.size≤gb123)); clear HB; have HB:=n0_; have BK123:=n1_; have GW123:=n2_; have GE123:=n3_; clear n0_ n1_ n2_ n3_; clear hb hbox hg; have hcz5_0:w4.cell? ⟨gb123,0,none⟩=some (.int .i64 A8):=(AK BK123.out 0).trans rfl; have hcz5_1:w4.cell? ⟨gb123,1,none⟩=some (.slice A0_1 l0_1.length c0_1):=(AK BK123.out 1).trans rfl; have hfz5_0:=AJ BK123.out 0; have hfz5_1:=AJ BK123.out 1)|(go_at_call 16; (with_reducible refine (Ac.calls k A8 _ _ l0_1 t124 t127 _ ?side1 ?side2 A2.out).mono ?_); (case side1=>repeat (first|exact (Kd.C_below HR0_1.out HB.out)|(with_reducible refine Kd.C_alloc ?_ _)|(with_reducible refine Kd.C_drewN ?_ _)|(with_reducible refine Kd.C_drew ?_))); (case side2=>exact HC0_1.out); rintro e w6 ⟨v125,rfl,ho0,hb⟩; have n0_:=Aside0.mk (Kd.R_lower ho0 (AP zI)); have n1_:=Aside0.mk (AN (g:=gb123) (o:= .cells #[.int .i64 A8,.slice A0_1 l0_1.length c0_1] 34 (0,0)) zP hb); have n2_:=Aside0.mk (AO zI hb); clear BK123; clear HB; have HO126:=n0_; have BK123:=n1_; have HB:=n2_; clear n0_ n1_ n2_; (try clear hb); (try clear hb2); (try clear hk); (try clear hi); (try clear ho0); have hcz7_0:w6.cell? ⟨gb123,0,none⟩=some (.int .i64 A8):=(AK BK123.out 0).trans rfl; have hcz7_1:w6.cell? ⟨gb123,1,none⟩=some (.slice A0_1 l0_1.length c0_1):=(AK BK123.out 1).trans rfl; have hfz7_0:=AJ BK123.out 0; have hfz7_1:=AJ BK123.out 1; clear A2)))
  go_loopg [6,7,21] k (fun kq v6 v7 v21 w'=>∃(x6_1:Int) (x7_1:Int) (x21_1:Int),v6= .int .i64 x6_1∧v7= .int .i64 x7_1∧v21= .int .i64 x21_1∧Aside0 (Al.l0 kq t124 x6_1 x7_1 l0_1 (l0_1.length:Int) x21_1 A8 l0_1=some (r1,r2))∧Aside0 (kq≤k)∧Aside0 (Kd.R (Kd.int .i64) 3 w' w.heap.size (fun _=>True) v125 t124)∧Aside0 (w'.heap[gb123]? =some (.cells #[.int .i64 A8,(.slice A0_1 l0_1.length c0_1)] 34 (0,0)))∧Aside0 (Below w.heap.size w w'))
  case atStart=>exact ⟨(0),(0),(0),zH,zH,zH,H',⟨Nat.le_refl _⟩,⟨by (with_reducible repeat (first|apply Kd.R_alloc|apply Kd.R_drewN|apply Kd.R_drew)); exact HO126.out⟩,⟨by (with_reducible repeat (first|refine AF ?_ _|refine AI ?_|refine AG ?_ _)); exact BK123.out⟩,⟨by repeat (first|(with_reducible first|exact HB.out|apply AE|apply AC|apply AD|refine AH ?_ GE123.out)|exact HB.out)⟩⟩
  case round=>
   clear H'
   try clear c1
   try clear p2
   try clear c3
   try clear c3b0
   try clear c3b1
   try clear hcz5_0
   try clear hcz5_1
   try clear hcz7_0
   try clear hcz7_1
   try clear hfz5_0
   try clear hfz5_1
   try clear hfz7_0
   try clear hfz7_1
   obtain ⟨x6_1,x7_1,x21_1,rfl,rfl,rfl,HA,HK1,HO_4,BK123,HB⟩:=hrel
   cases gk with
   |zero=>exact absurd HA.out (by simp [Al.l0])
   | succ k1 =>
    have H:=HA.out
    clear HA
    simp only [Al.l0] at H
    by_cases c8:x21_1<(l0_1.length:Int)
    ·rw [if_pos c8] at H
     have c8b0:decide (x21_1<(l0_1.length:Int))=true:=decide_eq_true c8
     clear c8
     by_cases c9:0≤x21_1
     ·rw [if_pos c9] at H
      have c9b0:decide (0≤x21_1)=true:=decide_eq_true c9
      clear c9
      by_cases c10:x21_1<(l0_1.length:Int)
      ·rw [if_pos c10] at H
       have c10b0:decide (x21_1<(l0_1.length:Int))=true:=decide_eq_true c10
       clear c10
       by_cases c11:x21_1<(t124.length:Int)
       ·rw [if_pos c11] at H
        have c11b0:decide (x21_1<(t124.length:Int))=true:=decide_eq_true c11
        clear c11
        obtain ⟨ji12,hji12⟩:∃j_:Int,(mx x7_1 (rd t124 x21_1))=j_:=⟨_,rfl⟩
        replace H:(Al.l0 k1 t124 (wrap64 (x6_1+((AL l0_1 x21_1).f1))) ji12 l0_1 (l0_1.length:Int) (wrap64 (x21_1+1)) A8 l0_1)=some (r1,r2):=by first|(rw [hji12] at H; exact H)|(simp only [hji12] at H ⊢; exact H)
        have hji12_:(if x7_1<(rd t124 x21_1) then (rd t124 x21_1) else x7_1)=ji12:=hji12
        have H':=Aside0.mk H
        clear H
        have p128:0≤(x21_1:Int):=of_decide_eq_true zC
        have q128:x21_1<(l0_1.length:Int):=of_decide_eq_true zC
        obtain ⟨ad128,A128_3,c128_3,e128,hx128_0,hx128_1,hx128_2,hx128_3,hl128_3,hi128_3⟩:=Bi HR0_1.out x21_1 p128 q128
        cases e128
        replace hx128_0:=(HB.out.cell (World.block_lt_of_cell? w _ hx128_0)).trans hx128_0
        replace hx128_1:=(HB.out.cell (World.block_lt_of_cell? w _ hx128_1)).trans hx128_1
        replace hx128_2:=(HB.out.cell (World.block_lt_of_cell? w _ hx128_2)).trans hx128_2
        replace hx128_3:=(HB.out.cell (World.block_lt_of_cell? w _ hx128_3)).trans hx128_3
        have HR128_3:=Aside0.mk hi128_3
        have HC128_3:=Aside0.mk hl128_3
        clear hi128_3 hl128_3
        replace p128:=eq_true p128
        replace q128:=eq_true q128
        go_wp2_with (first|((with_reducible refine Am (N:=9) rfl ?_); refine Ak ?hg (N:=9) ?hd (cs:= #[.string (⟨#[]⟩:ByteArray),.int .i64 0,.int .i64 0,.slice none 0 0]) (t:=64) ?hr ?_; (case hd=>rfl); (case hg=>rfl); (case hr=>first|(go_simp; done)|(go_simp; rfl)); intro gb129 hg w13 hbox hb; have n0_:=Aside0.mk (Kd.R_below zA3 hb); have n1_:=Aside0.mk (AN (g:=gb123) (o:= .cells #[.int .i64 A8,.slice (some ad128) l0_1.length c0_1] 34 (0,0)) zP hb); have n2_:=Aside0.mk (AO zI hb); have n3_:=Aside0.mk (hbox); have n4_:=Aside0.mk ((by rw [hg]; exact (AP zI):w.heap.size≤gb129)); have n5_:=Aside0.mk ((by rw [hg]; exact (AP zI):w.heap.size≤gb129)); have n6_:=Aside0.mk ((by rw [hg]; exact Nat.ne_of_lt (Ar (g:=gb123) (o:= .cells #[.int .i64 A8,.slice (some ad128) l0_1.length c0_1] 34 (0,0)) zP):gb123≠gb129)); have n7_:=Aside0.mk ((by rw [hg]; exact Nat.ne_of_gt (Ar (g:=gb123) (o:= .cells #[.int .i64 A8,.slice (some ad128) l0_1.length c0_1] 34 (0,0)) zP):gb129≠gb123)); clear HO_4; clear BK123; clear HB; have HO_4:=n0_; have BK123:=n1_; have HB:=n2_; have BK129:=n3_; have GW129:=n4_; have GE129:=n5_; have NB123_129:=n6_; have NB129_123:=n7_; clear n0_ n1_ n2_ n3_ n4_ n5_ n6_ n7_; clear hb hbox hg; have hnb14:=NB129_123.out; have hnc14:=NB123_129.out; have hcz15_0:w13.cell? ⟨gb129,0,none⟩=some (.string (⟨#[]⟩:ByteArray)):=(AK BK129.out 0).trans rfl; have hcz15_1:w13.cell? ⟨gb129,1,none⟩=some (.int .i64 0):=(AK BK129.out 1).trans rfl; have hcz15_2:w13.cell? ⟨gb129,2,none⟩=some (.int .i64 0):=(AK BK129.out 2).trans rfl; have hcz15_3:w13.cell? ⟨gb129,3,none⟩=some (.slice none 0 0):=(AK BK129.out 3).trans rfl; have hfz15_0:=AJ BK129.out 0; have hfz15_1:=AJ BK129.out 1; have hfz15_2:=AJ BK129.out 2; have hfz15_3:=AJ BK129.out 3; obtain ⟨Ao16,co16,eo16⟩:=Kd.R_slice HO_4.out; subst eo16; have p130:0≤(x21_1:Int):=of_decide_eq_true zC; have q130:x21_1<(t124.length:Int):=of_decide_eq_true zC; obtain ⟨ad130,e130,hx130_0⟩:=Kd.at_int (Kd.R_reads' HO_4.out).2.2 x21_1 p130 q130; cases e130; have hn130_0:ad130.block≠gb129:=Kd.own_blk (Kd.R_ne HO_4.out BK129.out zX); have hn130_1:ad130.block≠gb129:=Kd.own_blk (Kd.R_ne HO_4.out BK129.out zX); have hn130_2:ad130.block≠gb129:=Kd.own_blk (Kd.R_ne HO_4.out BK129.out zX); have hn130_3:ad130.block≠gb129:=Kd.own_blk (Kd.R_ne HO_4.out BK129.out zX); replace hx130_0:=(BW (p:=⟨gb129,0,none⟩) (by first|(rw [B2]; exact hn130_0)|(show (Addr.add _ _).block≠_; rw [B2]; exact hn130_0)|exact hn130_0) (.string ((AL l0_1 x21_1).f0))).trans hx130_0; replace hx130_0:=(BW (p:=⟨gb129,1,none⟩) (by first|(rw [B2]; exact hn130_1)|(show (Addr.add _ _).block≠_; rw [B2]; exact hn130_1)|exact hn130_1) (.int .i64 ((AL l0_1 x21_1).f1))).trans hx130_0; replace hx130_0:=(BW (p:=⟨gb129,2,none⟩) (by first|(rw [B2]; exact hn130_2)|(show (Addr.add _ _).block≠_; rw [B2]; exact hn130_2)|exact hn130_2) (.int .i64 ((AL l0_1 x21_1).f2))).trans hx130_0; replace hx130_0:=(BW (p:=⟨gb129,3,none⟩) (by first|(rw [B2]; exact hn130_3)|(show (Addr.add _ _).block≠_; rw [B2]; exact hn130_3)|exact hn130_3) (.slice A128_3 ((AL l0_1 x21_1).f3).length c128_3)).trans hx130_0; (try have hy130_0:=fun (n_:Nat)=>(show ((((((w13.drewN n_).setCell ⟨gb129,0,none⟩ (.string ((AL l0_1 x21_1).f0))).setCell ⟨gb129,1,none⟩ (.int .i64 ((AL l0_1 x21_1).f1))).setCell ⟨gb129,2,none⟩ (.int .i64 ((AL l0_1 x21_1).f2))).setCell ⟨gb129,3,none⟩ (.slice A128_3 ((AL l0_1 x21_1).f3).length c128_3))).cell? _=some _ from hx130_0)); clear hn130_0; clear hn130_1; clear hn130_2; clear hn130_3; replace p130:=eq_true p130; replace q130:=eq_true q130))
        repeat (go_quiet (first|((with_reducible refine Am (N:=9) rfl ?_); refine Ak ?hg (N:=9) ?hd (cs:= #[.string (⟨#[]⟩:ByteArray),.int .i64 0,.int .i64 0,.slice none 0 0]) (t:=64) ?hr ?_; (case hd=>rfl); (case hg=>rfl); (case hr=>first|(go_simp; done)|(go_simp; rfl)); intro gb129 hg w13 hbox hb; have n0_:=Aside0.mk (Kd.R_below zA3 hb); have n1_:=Aside0.mk (AN (g:=gb123) (o:= .cells #[.int .i64 A8,.slice (some ad128) l0_1.length c0_1] 34 (0,0)) zP hb); have n2_:=Aside0.mk (AO zI hb); have n3_:=Aside0.mk (hbox); have n4_:=Aside0.mk ((by rw [hg]; exact (AP zI):w.heap.size≤gb129)); have n5_:=Aside0.mk ((by rw [hg]; exact (AP zI):w.heap.size≤gb129)); have n6_:=Aside0.mk ((by rw [hg]; exact Nat.ne_of_lt (Ar (g:=gb123) (o:= .cells #[.int .i64 A8,.slice (some ad128) l0_1.length c0_1] 34 (0,0)) zP):gb123≠gb129)); have n7_:=Aside0.mk ((by rw [hg]; exact Nat.ne_of_gt (Ar (g:=gb123) (o:= .cells #[.int .i64 A8,.slice (some ad128) l0_1.length c0_1] 34 (0,0)) zP):gb129≠gb123)); clear HO_4; clear BK123; clear HB; have HO_4:=n0_; have BK123:=n1_; have HB:=n2_; have BK129:=n3_; have GW129:=n4_; have GE129:=n5_; have NB123_129:=n6_; have NB129_123:=n7_; clear n0_ n1_ n2_ n3_ n4_ n5_ n6_ n7_; clear hb hbox hg; have hnb14:=NB129_123.out; have hnc14:=NB123_129.out; have hcz15_0:w13.cell? ⟨gb129,0,none⟩=some (.string (⟨#[]⟩:ByteArray)):=(AK BK129.out 0).trans rfl; have hcz15_1:w13.cell? ⟨gb129,1,none⟩=some (.int .i64 0):=(AK BK129.out 1).trans rfl; have hcz15_2:w13.cell? ⟨gb129,2,none⟩=some (.int .i64 0):=(AK BK129.out 2).trans rfl; have hcz15_3:w13.cell? ⟨gb129,3,none⟩=some (.slice none 0 0):=(AK BK129.out 3).trans rfl; have hfz15_0:=AJ BK129.out 0; have hfz15_1:=AJ BK129.out 1; have hfz15_2:=AJ BK129.out 2; have hfz15_3:=AJ BK129.out 3; obtain ⟨Ao16,co16,eo16⟩:=Kd.R_slice HO_4.out; subst eo16; have p130:0≤(x21_1:Int):=of_decide_eq_true zC; have q130:x21_1<(t124.length:Int):=of_decide_eq_true zC; obtain ⟨ad130,e130,hx130_0⟩:=Kd.at_int (Kd.R_reads' HO_4.out).2.2 x21_1 p130 q130; cases e130; have hn130_0:ad130.block≠gb129:=Kd.own_blk (Kd.R_ne HO_4.out BK129.out zX); have hn130_1:ad130.block≠gb129:=Kd.own_blk (Kd.R_ne HO_4.out BK129.out zX); have hn130_2:ad130.block≠gb129:=Kd.own_blk (Kd.R_ne HO_4.out BK129.out zX); have hn130_3:ad130.block≠gb129:=Kd.own_blk (Kd.R_ne HO_4.out BK129.out zX); replace hx130_0:=(BW (p:=⟨gb129,0,none⟩) (by first|(rw [B2]; exact hn130_0)|(show (Addr.add _ _).block≠_; rw [B2]; exact hn130_0)|exact hn130_0) (.string ((AL l0_1 x21_1).f0))).trans hx130_0; replace hx130_0:=(BW (p:=⟨gb129,1,none⟩) (by first|(rw [B2]; exact hn130_1)|(show (Addr.add _ _).block≠_; rw [B2]; exact hn130_1)|exact hn130_1) (.int .i64 ((AL l0_1 x21_1).f1))).trans hx130_0; replace hx130_0:=(BW (p:=⟨gb129,2,none⟩) (by first|(rw [B2]; exact hn130_2)|(show (Addr.add _ _).block≠_; rw [B2]; exact hn130_2)|exact hn130_2) (.int .i64 ((AL l0_1 x21_1).f2))).trans hx130_0; replace hx130_0:=(BW (p:=⟨gb129,3,none⟩) (by first|(rw [B2]; exact hn130_3)|(show (Addr.add _ _).block≠_; rw [B2]; exact hn130_3)|exact hn130_3) (.slice A128_3 ((AL l0_1 x21_1).f3).length c128_3)).trans hx130_0; (try have hy130_0:=fun (n_:Nat)=>(show ((((((w13.drewN n_).setCell ⟨gb129,0,none⟩ (.string ((AL l0_1 x21_1).f0))).setCell ⟨gb129,1,none⟩ (.int .i64 ((AL l0_1 x21_1).f1))).setCell ⟨gb129,2,none⟩ (.int .i64 ((AL l0_1 x21_1).f2))).setCell ⟨gb129,3,none⟩ (.slice A128_3 ((AL l0_1 x21_1).f3).length c128_3))).cell? _=some _ from hx130_0)); clear hn130_0; clear hn130_1; clear hn130_2; clear hn130_3; replace p130:=eq_true p130; replace q130:=eq_true q130)); try go_wp2_with (first|((with_reducible refine Am (N:=9) rfl ?_); refine Ak ?hg (N:=9) ?hd (cs:= #[.string (⟨#[]⟩:ByteArray),.int .i64 0,.int .i64 0,.slice none 0 0]) (t:=64) ?hr ?_; (case hd=>rfl); (case hg=>rfl); (case hr=>first|(go_simp; done)|(go_simp; rfl)); intro gb129 hg w13 hbox hb; have n0_:=Aside0.mk (Kd.R_below zA3 hb); have n1_:=Aside0.mk (AN (g:=gb123) (o:= .cells #[.int .i64 A8,.slice (some ad128) l0_1.length c0_1] 34 (0,0)) zP hb); have n2_:=Aside0.mk (AO zI hb); have n3_:=Aside0.mk (hbox); have n4_:=Aside0.mk ((by rw [hg]; exact (AP zI):w.heap.size≤gb129)); have n5_:=Aside0.mk ((by rw [hg]; exact (AP zI):w.heap.size≤gb129)); have n6_:=Aside0.mk ((by rw [hg]; exact Nat.ne_of_lt (Ar (g:=gb123) (o:= .cells #[.int .i64 A8,.slice (some ad128) l0_1.length c0_1] 34 (0,0)) zP):gb123≠gb129)); have n7_:=Aside0.mk ((by rw [hg]; exact Nat.ne_of_gt (Ar (g:=gb123) (o:= .cells #[.int .i64 A8,.slice (some ad128) l0_1.length c0_1] 34 (0,0)) zP):gb129≠gb123)); clear HO_4; clear BK123; clear HB; have HO_4:=n0_; have BK123:=n1_; have HB:=n2_; have BK129:=n3_; have GW129:=n4_; have GE129:=n5_; have NB123_129:=n6_; have NB129_123:=n7_; clear n0_ n1_ n2_ n3_ n4_ n5_ n6_ n7_; clear hb hbox hg; have hnb14:=NB129_123.out; have hnc14:=NB123_129.out; have hcz15_0:w13.cell? ⟨gb129,0,none⟩=some (.string (⟨#[]⟩:ByteArray)):=(AK BK129.out 0).trans rfl; have hcz15_1:w13.cell? ⟨gb129,1,none⟩=some (.int .i64 0):=(AK BK129.out 1).trans rfl; have hcz15_2:w13.cell? ⟨gb129,2,none⟩=some (.int .i64 0):=(AK BK129.out 2).trans rfl; have hcz15_3:w13.cell? ⟨gb129,3,none⟩=some (.slice none 0 0):=(AK BK129.out 3).trans rfl; have hfz15_0:=AJ BK129.out 0; have hfz15_1:=AJ BK129.out 1; have hfz15_2:=AJ BK129.out 2; have hfz15_3:=AJ BK129.out 3; obtain ⟨Ao16,co16,eo16⟩:=Kd.R_slice HO_4.out; subst eo16; have p130:0≤(x21_1:Int):=of_decide_eq_true zC; have q130:x21_1<(t124.length:Int):=of_decide_eq_true zC; obtain ⟨ad130,e130,hx130_0⟩:=Kd.at_int (Kd.R_reads' HO_4.out).2.2 x21_1 p130 q130; cases e130; have hn130_0:ad130.block≠gb129:=Kd.own_blk (Kd.R_ne HO_4.out BK129.out zX); have hn130_1:ad130.block≠gb129:=Kd.own_blk (Kd.R_ne HO_4.out BK129.out zX); have hn130_2:ad130.block≠gb129:=Kd.own_blk (Kd.R_ne HO_4.out BK129.out zX); have hn130_3:ad130.block≠gb129:=Kd.own_blk (Kd.R_ne HO_4.out BK129.out zX); replace hx130_0:=(BW (p:=⟨gb129,0,none⟩) (by first|(rw [B2]; exact hn130_0)|(show (Addr.add _ _).block≠_; rw [B2]; exact hn130_0)|exact hn130_0) (.string ((AL l0_1 x21_1).f0))).trans hx130_0; replace hx130_0:=(BW (p:=⟨gb129,1,none⟩) (by first|(rw [B2]; exact hn130_1)|(show (Addr.add _ _).block≠_; rw [B2]; exact hn130_1)|exact hn130_1) (.int .i64 ((AL l0_1 x21_1).f1))).trans hx130_0; replace hx130_0:=(BW (p:=⟨gb129,2,none⟩) (by first|(rw [B2]; exact hn130_2)|(show (Addr.add _ _).block≠_; rw [B2]; exact hn130_2)|exact hn130_2) (.int .i64 ((AL l0_1 x21_1).f2))).trans hx130_0; replace hx130_0:=(BW (p:=⟨gb129,3,none⟩) (by first|(rw [B2]; exact hn130_3)|(show (Addr.add _ _).block≠_; rw [B2]; exact hn130_3)|exact hn130_3) (.slice A128_3 ((AL l0_1 x21_1).f3).length c128_3)).trans hx130_0; (try have hy130_0:=fun (n_:Nat)=>(show ((((((w13.drewN n_).setCell ⟨gb129,0,none⟩ (.string ((AL l0_1 x21_1).f0))).setCell ⟨gb129,1,none⟩ (.int .i64 ((AL l0_1 x21_1).f1))).setCell ⟨gb129,2,none⟩ (.int .i64 ((AL l0_1 x21_1).f2))).setCell ⟨gb129,3,none⟩ (.slice A128_3 ((AL l0_1 x21_1).f3).length c128_3))).cell? _=some _ from hx130_0)); clear hn130_0; clear hn130_1; clear hn130_2; clear hn130_3; replace p130:=eq_true p130; replace q130:=eq_true q130)))
        go_roundg k1
        case measure=>have:=HK1.out; omega
        case rel=>exact ⟨(wrap64 (x6_1+((AL l0_1 x21_1).f1))),(ji12),(wrap64 (x21_1+1)),zH,(by first|rfl|(simp; done)|(simp only [←hji12]<;>(first|rfl|simp))|(simp [*]; done)),zH,H',⟨by have:=HK1.out; omega⟩,⟨by (with_reducible repeat (first|apply Kd.R_alloc|apply Kd.R_drewN|apply Kd.R_drew)); exact Kd.R_mono (Kd.R_far (p:=⟨gb129,3,none⟩) (Kd.R_far (p:=⟨gb129,2,none⟩) (Kd.R_far (p:=⟨gb129,1,none⟩) (Kd.R_far (p:=⟨gb129,0,none⟩) (Kd.R_types HO_4.out BK129.out zX) (fun _ hk=>hk.2) (.string ((AL l0_1 x21_1).f0))) (fun _ hk=>hk.2) (.int .i64 ((AL l0_1 x21_1).f1))) (fun _ hk=>hk.2) (.int .i64 ((AL l0_1 x21_1).f2))) (fun _ hk=>hk.2) (.slice A128_3 ((AL l0_1 x21_1).f3).length c128_3)) (fun _ hk=>trivial)⟩,⟨by (with_reducible repeat (first|refine AF ?_ _|refine AI ?_|refine AG ?_ _)); refine AV ?_ NB123_129.out _; (with_reducible repeat (first|refine AF ?_ _|refine AI ?_|refine AG ?_ _)); refine AV ?_ NB123_129.out _; (with_reducible repeat (first|refine AF ?_ _|refine AI ?_|refine AG ?_ _)); refine AV ?_ NB123_129.out _; (with_reducible repeat (first|refine AF ?_ _|refine AI ?_|refine AG ?_ _)); refine AV ?_ NB123_129.out _; (with_reducible repeat (first|refine AF ?_ _|refine AI ?_|refine AG ?_ _)); exact BK123.out⟩,⟨by repeat (first|(with_reducible first|exact HB.out|apply AE|apply AC|apply AD|refine AH ?_ GE123.out|refine AH ?_ GE129.out)|exact HB.out)⟩⟩
       ·rw [if_neg c11] at H
        exact absurd H zA1
      ·rw [if_neg c10] at H
       exact absurd H zA1
     ·rw [if_neg c9] at H
      exact absurd H zA1
    ·rw [if_neg c8] at H
     have c8b0:decide (x21_1<(l0_1.length:Int))=false:=decide_eq_false c8
     clear c8
     by_cases c17:A8=0
     ·rw [if_pos c17] at H
      exact absurd H zA1
     ·rw [if_neg c17] at H
      have c17b0:(A8==0)=false:=beq_eq_false_iff_ne.mpr c17
      have c17b1:(A8 !=0)=true:=bne_iff_ne.mpr c17
      obtain ⟨ji18,hji18⟩:∃j_:Int,(mx x7_1 (wrap64 (Int.tdiv (wrap64 ((wrap64 (x6_1+A8))-1)) A8)))=j_:=⟨_,rfl⟩
      replace H:(some (ji18,0))=some (r1,r2):=by first|(rw [hji18] at H; exact H)|(simp only [hji18] at H ⊢; exact H)
      have hji18_:(if x7_1<(wrap64 (Int.tdiv (wrap64 ((wrap64 (x6_1+A8))-1)) A8)) then (wrap64 (Int.tdiv (wrap64 ((wrap64 (x6_1+A8))-1)) A8)) else x7_1)=ji18:=hji18
      simp only [Option.some.injEq,Prod.mk.injEq] at H
      obtain ⟨rfl,rfl⟩:=H
      have hcz19_0:wr.cell? ⟨gb123,0,none⟩=some (.int .i64 A8):=(AK BK123.out 0).trans rfl
      have hcz19_1:wr.cell? ⟨gb123,1,none⟩=some (.slice A0_1 l0_1.length c0_1):=(AK BK123.out 1).trans rfl
      have hfz19_0:=AJ BK123.out 0
      have hfz19_1:=AJ BK123.out 1
      go_wp2
      repeat (go_quiet (fail); try go_wp2)
      go_ret2
      exact ⟨by first|rfl|(simp [AY,AX]<;>rfl)|(simp only [←hji18]; first|rfl|(simp [AY,AX]<;>rfl))|(simp [*,AY,AX]<;>rfl),by repeat (first|(with_reducible first|exact HB.out|apply AE|apply AC|apply AD|refine AH ?_ GE123.out)|exact HB.out)⟩
 ·rw [if_neg c3] at H
  have c3b0:(t127==0)=false:=beq_eq_false_iff_ne.mpr c3
  have c3b1:(t127 !=0)=true:=bne_iff_ne.mpr c3
  simp only [Option.some.injEq,Prod.mk.injEq] at H
  obtain ⟨rfl,rfl⟩:=H
  go_enter Try.func11,Try.ntmps11
  go_wp2_with (first|((with_reducible refine Am (N:=1) rfl ?_); refine Ak ?hg (N:=1) ?hd (cs:= #[.int .i64 A8,.slice A0_1 l0_1.length c0_1]) (t:=34) ?hr ?_; (case hd=>rfl); (case hg=>rfl); (case hr=>first|(go_simp; done)|(go_simp; rfl)); intro gb123 hg w20 hbox hb; have n0_:=Aside0.mk (AO zA hb); have n1_:=Aside0.mk (hbox); have n2_:=Aside0.mk ((by rw [hg]; exact (AP zA):w.heap.size≤gb123)); have n3_:=Aside0.mk ((by rw [hg]; exact (AP zA):w.heap.size≤gb123)); clear HB; have HB:=n0_; have BK123:=n1_; have GW123:=n2_; have GE123:=n3_; clear n0_ n1_ n2_ n3_; clear hb hbox hg; have hcz21_0:w20.cell? ⟨gb123,0,none⟩=some (.int .i64 A8):=(AK BK123.out 0).trans rfl; have hcz21_1:w20.cell? ⟨gb123,1,none⟩=some (.slice A0_1 l0_1.length c0_1):=(AK BK123.out 1).trans rfl; have hfz21_0:=AJ BK123.out 0; have hfz21_1:=AJ BK123.out 1)|(go_at_call 16; (with_reducible refine (Ac.calls k A8 _ _ l0_1 t124 t127 _ ?side1 ?side2 A2.out).mono ?_); (case side1=>repeat (first|exact (Kd.C_below HR0_1.out HB.out)|(with_reducible refine Kd.C_alloc ?_ _)|(with_reducible refine Kd.C_drewN ?_ _)|(with_reducible refine Kd.C_drew ?_))); (case side2=>exact HC0_1.out); rintro e w22 ⟨v125,rfl,ho0,hb⟩; have n0_:=Aside0.mk (Kd.R_lower ho0 (AP zI)); have n1_:=Aside0.mk (AN (g:=gb123) (o:= .cells #[.int .i64 A8,.slice A0_1 l0_1.length c0_1] 34 (0,0)) zP hb); have n2_:=Aside0.mk (AO zI hb); clear BK123; clear HB; have HO126:=n0_; have BK123:=n1_; have HB:=n2_; clear n0_ n1_ n2_; (try clear hb); (try clear hb2); (try clear hk); (try clear hi); (try clear ho0)))
  repeat (go_quiet (first|((with_reducible refine Am (N:=1) rfl ?_); refine Ak ?hg (N:=1) ?hd (cs:= #[.int .i64 A8,.slice A0_1 l0_1.length c0_1]) (t:=34) ?hr ?_; (case hd=>rfl); (case hg=>rfl); (case hr=>first|(go_simp; done)|(go_simp; rfl)); intro gb123 hg w20 hbox hb; have n0_:=Aside0.mk (AO zA hb); have n1_:=Aside0.mk (hbox); have n2_:=Aside0.mk ((by rw [hg]; exact (AP zA):w.heap.size≤gb123)); have n3_:=Aside0.mk ((by rw [hg]; exact (AP zA):w.heap.size≤gb123)); clear HB; have HB:=n0_; have BK123:=n1_; have GW123:=n2_; have GE123:=n3_; clear n0_ n1_ n2_ n3_; clear hb hbox hg; have hcz21_0:w20.cell? ⟨gb123,0,none⟩=some (.int .i64 A8):=(AK BK123.out 0).trans rfl; have hcz21_1:w20.cell? ⟨gb123,1,none⟩=some (.slice A0_1 l0_1.length c0_1):=(AK BK123.out 1).trans rfl; have hfz21_0:=AJ BK123.out 0; have hfz21_1:=AJ BK123.out 1)|(go_at_call 16; (with_reducible refine (Ac.calls k A8 _ _ l0_1 t124 t127 _ ?side1 ?side2 A2.out).mono ?_); (case side1=>repeat (first|exact (Kd.C_below HR0_1.out HB.out)|(with_reducible refine Kd.C_alloc ?_ _)|(with_reducible refine Kd.C_drewN ?_ _)|(with_reducible refine Kd.C_drew ?_))); (case side2=>exact HC0_1.out); rintro e w22 ⟨v125,rfl,ho0,hb⟩; have n0_:=Aside0.mk (Kd.R_lower ho0 (AP zI)); have n1_:=Aside0.mk (AN (g:=gb123) (o:= .cells #[.int .i64 A8,.slice A0_1 l0_1.length c0_1] 34 (0,0)) zP hb); have n2_:=Aside0.mk (AO zI hb); clear BK123; clear HB; have HO126:=n0_; have BK123:=n1_; have HB:=n2_; clear n0_ n1_ n2_; (try clear hb); (try clear hb2); (try clear hk); (try clear hi); (try clear ho0); clear A2)); try go_wp2_with (first|((with_reducible refine Am (N:=1) rfl ?_); refine Ak ?hg (N:=1) ?hd (cs:= #[.int .i64 A8,.slice A0_1 l0_1.length c0_1]) (t:=34) ?hr ?_; (case hd=>rfl); (case hg=>rfl); (case hr=>first|(go_simp; done)|(go_simp; rfl)); intro gb123 hg w20 hbox hb; have n0_:=Aside0.mk (AO zA hb); have n1_:=Aside0.mk (hbox); have n2_:=Aside0.mk ((by rw [hg]; exact (AP zA):w.heap.size≤gb123)); have n3_:=Aside0.mk ((by rw [hg]; exact (AP zA):w.heap.size≤gb123)); clear HB; have HB:=n0_; have BK123:=n1_; have GW123:=n2_; have GE123:=n3_; clear n0_ n1_ n2_ n3_; clear hb hbox hg; have hcz21_0:w20.cell? ⟨gb123,0,none⟩=some (.int .i64 A8):=(AK BK123.out 0).trans rfl; have hcz21_1:w20.cell? ⟨gb123,1,none⟩=some (.slice A0_1 l0_1.length c0_1):=(AK BK123.out 1).trans rfl; have hfz21_0:=AJ BK123.out 0; have hfz21_1:=AJ BK123.out 1)|(go_at_call 16; (with_reducible refine (Ac.calls k A8 _ _ l0_1 t124 t127 _ ?side1 ?side2 A2.out).mono ?_); (case side1=>repeat (first|exact (Kd.C_below HR0_1.out HB.out)|(with_reducible refine Kd.C_alloc ?_ _)|(with_reducible refine Kd.C_drewN ?_ _)|(with_reducible refine Kd.C_drew ?_))); (case side2=>exact HC0_1.out); rintro e w22 ⟨v125,rfl,ho0,hb⟩; have n0_:=Aside0.mk (Kd.R_lower ho0 (AP zI)); have n1_:=Aside0.mk (AN (g:=gb123) (o:= .cells #[.int .i64 A8,.slice A0_1 l0_1.length c0_1] 34 (0,0)) zP hb); have n2_:=Aside0.mk (AO zI hb); clear BK123; clear HB; have HO126:=n0_; have BK123:=n1_; have HB:=n2_; clear n0_ n1_ n2_; (try clear hb); (try clear hb2); (try clear hk); (try clear hi); (try clear ho0); clear A2)))
  go_ret2
  exact ⟨by first|rfl|(simp [AY,AX]<;>rfl)|(simp [*,AY,AX]<;>rfl),by repeat (first|(with_reducible first|exact HB.out|apply AE|apply AC|apply AD|refine AH ?_ GE123.out)|exact HB.out)⟩
def Au.f (A8:Int) (l0_1:List (S64)) (l1:List (S47)) (a2:Int):Option (Int):=if 0≤a2 then (if a2<(l1.length:Int) then (if a2<(l0_1.length:Int) then (some (wrap64 (((Ae l1 a2).f1)+((AL l0_1 a2).f1)))) else (none)) else (none)) else (none)
set_option maxHeartbeats 8000000 in
theorem Au.calls (A8:Int) (A0_1:Option Addr) (c0_1:Nat) (l0_1:List (S64)) (A1:Option Addr) (c1:Nat) (l1:List (S47)) (a2:Int) (r:Int) (w:World) (hr0_1:Kd.C k64 w A0_1 l0_1.length l0_1) (hc0_1:l0_1.length≤c0_1) (hr1:Kd.C k47 w A1 l1.length l1) (hc1:l1.length≤c1) (h:Au.f A8 l0_1 l1 a2=some r):
  Calls Try.prog 30 #[.agg #[.int .i64 A8,.slice A0_1 l0_1.length c0_1],.slice A1 l1.length c1,.int .i64 a2] w fun e w'=>e= .returned (.int .i64 r)∧Below w.heap.size w w':=by
 have hu34:=Try.underlying34
 have HR0_1:=Aside0.mk hr0_1
 have HC0_1:=Aside0.mk hc0_1
 clear hr0_1 hc0_1
 have HR1:=Aside0.mk hr1
 have HC1:=Aside0.mk hc1
 clear hr1 hc1
 have HB:=Aside0.mk (Below.refl w.heap.size w)
 have H:(if 0≤a2 then (if a2<(l1.length:Int) then (if a2<(l0_1.length:Int) then (some (wrap64 (((Ae l1 a2).f1)+((AL l0_1 a2).f1)))) else (none)) else (none)) else (none))=some r:=h
 clear h
 by_cases c4:0≤a2
 ·rw [if_pos c4] at H
  have c4b0:decide (0≤a2)=true:=decide_eq_true c4
  clear c4
  by_cases c5:a2<(l1.length:Int)
  ·rw [if_pos c5] at H
   have c5b0:decide (a2<(l1.length:Int))=true:=decide_eq_true c5
   clear c5
   by_cases c6:a2<(l0_1.length:Int)
   ·rw [if_pos c6] at H
    have c6b0:decide (a2<(l0_1.length:Int))=true:=decide_eq_true c6
    clear c6
    obtain rfl:=Option.some.inj H
    go_enter Try.func30,Try.ntmps30
    go_wp2_with (first|((with_reducible refine Am (N:=3) rfl ?_); refine Ak ?hg (N:=3) ?hd (cs:= #[.int .i64 A8,.slice A0_1 l0_1.length c0_1]) (t:=34) ?hr ?_; (case hd=>rfl); (case hg=>rfl); (case hr=>first|(go_simp; done)|(go_simp; rfl)); intro gb131 hg w7 hbox hb; have n0_:=Aside0.mk (AO zA hb); have n1_:=Aside0.mk (hbox); have n2_:=Aside0.mk ((by rw [hg]; exact (AP zA):w.heap.size≤gb131)); have n3_:=Aside0.mk ((by rw [hg]; exact (AP zA):w.heap.size≤gb131)); clear HB; have HB:=n0_; have BK131:=n1_; have GW131:=n2_; have GE131:=n3_; clear n0_ n1_ n2_ n3_; clear hb hbox hg; have p132:0≤(a2:Int):=of_decide_eq_true zC; have q132:a2<(l1.length:Int):=of_decide_eq_true zC; obtain ⟨ad132,e132,hx132_0,hx132_1⟩:=BV HR1.out a2 p132 q132; cases e132; replace hx132_0:=(HB.out.cell (World.block_lt_of_cell? w _ hx132_0)).trans hx132_0; replace hx132_1:=(HB.out.cell (World.block_lt_of_cell? w _ hx132_1)).trans hx132_1; replace p132:=eq_true p132; replace q132:=eq_true q132; have hcz8_0:w7.cell? ⟨gb131,0,none⟩=some (.int .i64 A8):=(AK BK131.out 0).trans rfl; have hcz8_1:w7.cell? ⟨gb131,1,none⟩=some (.slice A0_1 l0_1.length c0_1):=(AK BK131.out 1).trans rfl; have hfz8_0:=AJ BK131.out 0; have hfz8_1:=AJ BK131.out 1; have p133:0≤(a2:Int):=of_decide_eq_true zC; have q133:a2<(l0_1.length:Int):=of_decide_eq_true zC; obtain ⟨ad133,A133_3,c133_3,e133,hx133_0,hx133_1,hx133_2,hx133_3,hl133_3,hi133_3⟩:=Bi HR0_1.out a2 p133 q133; cases e133; replace hx133_0:=(HB.out.cell (World.block_lt_of_cell? w _ hx133_0)).trans hx133_0; replace hx133_1:=(HB.out.cell (World.block_lt_of_cell? w _ hx133_1)).trans hx133_1; replace hx133_2:=(HB.out.cell (World.block_lt_of_cell? w _ hx133_2)).trans hx133_2; replace hx133_3:=(HB.out.cell (World.block_lt_of_cell? w _ hx133_3)).trans hx133_3; have HR133_3:=Aside0.mk hi133_3; have HC133_3:=Aside0.mk hl133_3; clear hi133_3 hl133_3; replace p133:=eq_true p133; replace q133:=eq_true q133))
    repeat (go_quiet (first|((with_reducible refine Am (N:=3) rfl ?_); refine Ak ?hg (N:=3) ?hd (cs:= #[.int .i64 A8,.slice A0_1 l0_1.length c0_1]) (t:=34) ?hr ?_; (case hd=>rfl); (case hg=>rfl); (case hr=>first|(go_simp; done)|(go_simp; rfl)); intro gb131 hg w7 hbox hb; have n0_:=Aside0.mk (AO zA hb); have n1_:=Aside0.mk (hbox); have n2_:=Aside0.mk ((by rw [hg]; exact (AP zA):w.heap.size≤gb131)); have n3_:=Aside0.mk ((by rw [hg]; exact (AP zA):w.heap.size≤gb131)); clear HB; have HB:=n0_; have BK131:=n1_; have GW131:=n2_; have GE131:=n3_; clear n0_ n1_ n2_ n3_; clear hb hbox hg; have p132:0≤(a2:Int):=of_decide_eq_true zC; have q132:a2<(l1.length:Int):=of_decide_eq_true zC; obtain ⟨ad132,e132,hx132_0,hx132_1⟩:=BV HR1.out a2 p132 q132; cases e132; replace hx132_0:=(HB.out.cell (World.block_lt_of_cell? w _ hx132_0)).trans hx132_0; replace hx132_1:=(HB.out.cell (World.block_lt_of_cell? w _ hx132_1)).trans hx132_1; replace p132:=eq_true p132; replace q132:=eq_true q132; have hcz8_0:w7.cell? ⟨gb131,0,none⟩=some (.int .i64 A8):=(AK BK131.out 0).trans rfl; have hcz8_1:w7.cell? ⟨gb131,1,none⟩=some (.slice A0_1 l0_1.length c0_1):=(AK BK131.out 1).trans rfl; have hfz8_0:=AJ BK131.out 0; have hfz8_1:=AJ BK131.out 1; have p133:0≤(a2:Int):=of_decide_eq_true zC; have q133:a2<(l0_1.length:Int):=of_decide_eq_true zC; obtain ⟨ad133,A133_3,c133_3,e133,hx133_0,hx133_1,hx133_2,hx133_3,hl133_3,hi133_3⟩:=Bi HR0_1.out a2 p133 q133; cases e133; replace hx133_0:=(HB.out.cell (World.block_lt_of_cell? w _ hx133_0)).trans hx133_0; replace hx133_1:=(HB.out.cell (World.block_lt_of_cell? w _ hx133_1)).trans hx133_1; replace hx133_2:=(HB.out.cell (World.block_lt_of_cell? w _ hx133_2)).trans hx133_2; replace hx133_3:=(HB.out.cell (World.block_lt_of_cell? w _ hx133_3)).trans hx133_3; have HR133_3:=Aside0.mk hi133_3; have HC133_3:=Aside0.mk hl133_3; clear hi133_3 hl133_3; replace p133:=eq_true p133; replace q133:=eq_true q133)); try go_wp2_with (first|((with_reducible refine Am (N:=3) rfl ?_); refine Ak ?hg (N:=3) ?hd (cs:= #[.int .i64 A8,.slice A0_1 l0_1.length c0_1]) (t:=34) ?hr ?_; (case hd=>rfl); (case hg=>rfl); (case hr=>first|(go_simp; done)|(go_simp; rfl)); intro gb131 hg w7 hbox hb; have n0_:=Aside0.mk (AO zA hb); have n1_:=Aside0.mk (hbox); have n2_:=Aside0.mk ((by rw [hg]; exact (AP zA):w.heap.size≤gb131)); have n3_:=Aside0.mk ((by rw [hg]; exact (AP zA):w.heap.size≤gb131)); clear HB; have HB:=n0_; have BK131:=n1_; have GW131:=n2_; have GE131:=n3_; clear n0_ n1_ n2_ n3_; clear hb hbox hg; have p132:0≤(a2:Int):=of_decide_eq_true zC; have q132:a2<(l1.length:Int):=of_decide_eq_true zC; obtain ⟨ad132,e132,hx132_0,hx132_1⟩:=BV HR1.out a2 p132 q132; cases e132; replace hx132_0:=(HB.out.cell (World.block_lt_of_cell? w _ hx132_0)).trans hx132_0; replace hx132_1:=(HB.out.cell (World.block_lt_of_cell? w _ hx132_1)).trans hx132_1; replace p132:=eq_true p132; replace q132:=eq_true q132; have hcz8_0:w7.cell? ⟨gb131,0,none⟩=some (.int .i64 A8):=(AK BK131.out 0).trans rfl; have hcz8_1:w7.cell? ⟨gb131,1,none⟩=some (.slice A0_1 l0_1.length c0_1):=(AK BK131.out 1).trans rfl; have hfz8_0:=AJ BK131.out 0; have hfz8_1:=AJ BK131.out 1; have p133:0≤(a2:Int):=of_decide_eq_true zC; have q133:a2<(l0_1.length:Int):=of_decide_eq_true zC; obtain ⟨ad133,A133_3,c133_3,e133,hx133_0,hx133_1,hx133_2,hx133_3,hl133_3,hi133_3⟩:=Bi HR0_1.out a2 p133 q133; cases e133; replace hx133_0:=(HB.out.cell (World.block_lt_of_cell? w _ hx133_0)).trans hx133_0; replace hx133_1:=(HB.out.cell (World.block_lt_of_cell? w _ hx133_1)).trans hx133_1; replace hx133_2:=(HB.out.cell (World.block_lt_of_cell? w _ hx133_2)).trans hx133_2; replace hx133_3:=(HB.out.cell (World.block_lt_of_cell? w _ hx133_3)).trans hx133_3; have HR133_3:=Aside0.mk hi133_3; have HC133_3:=Aside0.mk hl133_3; clear hi133_3 hl133_3; replace p133:=eq_true p133; replace q133:=eq_true q133)))
    go_ret
    exact ⟨by first|rfl|(simp [AY,AX]<;>rfl)|(simp [*,AY,AX]<;>rfl),by repeat (first|(with_reducible first|exact HB.out|apply AE|apply AC|apply AD|refine AH ?_ GE131.out)|exact HB.out)⟩
   ·rw [if_neg c6] at H
    exact absurd H zA1
  ·rw [if_neg c5] at H
   exact absurd H zA1
 ·rw [if_neg c4] at H
  exact absurd H zA1
end Go.Proofs.Ytdadecjefafflaa.PLst
end
section
namespace Go.Proofs.Ytdadecjefafflaa.PLst
set_option maxRecDepth 100000
open Go.RowKit Go.Proofs.YtdadecjefafflaaW.PrintWords Go.Proofs.YtdadecjefafflaaW.PrintLast Go.Proofs.YtdadecjefafflaaW.PrintMore
attribute [local go_sem] BP BN Bb Ba BG BF BO BM
mutual
def AQ.l0:Nat→List (S47)→Int→Int→Int→List (S64)→Option (Bool)
 |0,_,_,_,_,_=>none
 |k+1,x1,x8,x9,x135000,x135001=>if x9<x8 then (AQ.l1 k x1 x9 x8 x9 x9 0 x135000 x135001) else (some false)
def AQ.l1:Nat→List (S47)→Int→Int→Int→Int→Int→Int→List (S64)→Option (Bool)
 |0,_,_,_,_,_,_,_,_=>none
 |k+1,x1,x5,x8,x9,x12,x13,x135000,x135001=>if x13<x12 then (if 0≤x5 then (if x5<(x1.length:Int) then (if 0≤x13 then (if x13<(x1.length:Int) then (if ((Ae x1 x5).f0)=((Ae x1 x13).f0) then ((Au.f x135000 x135001 x1 x13).bind fun t138=>(if ((Ae x1 x5).f1)<t138 then ((Au.f x135000 x135001 x1 x5).bind fun t140=>(if ((Ae x1 x13).f1)<t140 then (some true) else (AQ.l1 k x1 x5 x8 x9 x12 (wrap64 (x13+1)) x135000 x135001))) else (AQ.l1 k x1 x5 x8 x9 x12 (wrap64 (x13+1)) x135000 x135001))) else (AQ.l1 k x1 x5 x8 x9 x12 (wrap64 (x13+1)) x135000 x135001)) else (none)) else (none)) else (none)) else (none)) else (AQ.l0 k x1 x8 (wrap64 (x9+1)) x135000 x135001)
end
def AQ.f (k:Nat) (A8:Int) (l0_1:List (S64)) (l1:List (S47)):Option (Bool):=AQ.l0 k l1 (l1.length:Int) 0 A8 l0_1
theorem AQ.mono_l:∀k,(∀y0 y1 y2 y3 y4,LeO (AQ.l0 k y0 y1 y2 y3 y4) (AQ.l0 (k+1) y0 y1 y2 y3 y4))∧(∀y0 y1 y2 y3 y4 y5 y6 y7,LeO (AQ.l1 k y0 y1 y2 y3 y4 y5 y6 y7) (AQ.l1 (k+1) y0 y1 y2 y3 y4 y5 y6 y7))
 |0=>⟨fun _ _ _ _ _ r h=>by simp [AQ.l0] at h,fun _ _ _ _ _ _ _ _ r h=>by simp [AQ.l1] at h⟩
 | k +1=>by
  obtain ⟨ih0,ih1⟩:=AQ.mono_l k
  refine ⟨?_,?_⟩
  ·intro y0 y1 y2 y3 y4
   unfold AQ.l0
   repeat' first
   |(with_reducible exact ih0 _ _ _ _ _)
   |(with_reducible exact ih1 _ _ _ _ _ _ _ _)
   |(with_reducible exact LeO.refl _)
   |(with_reducible exact LeO.none _)
   |(with_reducible refine LeO.ite ?_ ?_)
   |(with_reducible refine LeO.bind ?_ (fun _=> ?_))
   |exact ih0 _ _ _ _ _
   |exact ih1 _ _ _ _ _ _ _ _
   |exact LeO.none _
   |refine LeO.ite ?_ ?_
   |refine LeO.bind ?_ (fun _=> ?_)
  ·intro y0 y1 y2 y3 y4 y5 y6 y7
   unfold AQ.l1
   repeat' first
   |(with_reducible exact ih0 _ _ _ _ _)
   |(with_reducible exact ih1 _ _ _ _ _ _ _ _)
   |(with_reducible exact LeO.refl _)
   |(with_reducible exact LeO.none _)
   |(with_reducible refine LeO.ite ?_ ?_)
   |(with_reducible refine LeO.bind ?_ (fun _=> ?_))
   |exact ih0 _ _ _ _ _
   |exact ih1 _ _ _ _ _ _ _ _
   |exact LeO.none _
   |refine LeO.ite ?_ ?_
   |refine LeO.bind ?_ (fun _=> ?_)
theorem AQ.mono:∀a0 a1 a2 k,LeO (AQ.f k a0 a1 a2) (AQ.f (k+1) a0 a1 a2):=by
 intro a0 a1 a2 k
 obtain ⟨ih0,ih1⟩:=AQ.mono_l k
 unfold AQ.f
 repeat' first
  |(with_reducible exact ih0 _ _ _ _ _)
  |(with_reducible exact ih1 _ _ _ _ _ _ _ _)
  |(with_reducible exact LeO.refl _)
  |(with_reducible exact LeO.none _)
  |(with_reducible refine LeO.ite ?_ ?_)
  |(with_reducible refine LeO.bind ?_ (fun _=> ?_))
  |exact ih0 _ _ _ _ _
  |exact ih1 _ _ _ _ _ _ _ _
  |exact LeO.none _
  |refine LeO.ite ?_ ?_
  |refine LeO.bind ?_ (fun _=> ?_)
def AQ.T7:Bool×List (List Nat×List Nat):=(true,[([],[]),([],[]),([0,1],[0,1]),([2],[2]),([3],[3]),([],[]),([],[]),([5,6],[5,6]),([7],[7]),([8],[8]),([4,9],[4,9]),([10],[10]),([11],[11]),([11],[11]),([12,13,11],[11,12,13]),([14,11],[11,14]),([15,11],[11,15]),([11],[11]),([11],[11]),([11],[11]),([17,18,19,11,11],[11,17,18,19]),([16,20,11],[11,16,20]),([11,21],[11,21]),([22,20],[22]),([23],[23]),([23],[23]),([24,25,23],[23,24,25]),([26,23],[23,26]),([27,23],[23,27]),([23],[23]),([23],[23]),([23],[23]),([29,30,31,23,23],[23,29,30,31]),([28,32,23],[23,28,32]),([23,33],[23,33])])
def AQ.B7:List Nat:=[0,0,3,7,15,0,0,96,224,480,1023,2047,4095,4095,16383,32767,65535,4095,4095,4095,921599,2097151,4194303,8388607,16777215,16777215,67108863,134217727,268435455,16777215,16777215,16777215,3774873599,8589934591,17179869183]
theorem AQ.tab7:rtab .any (EC Try.f44 7)=AQ.T7:=by kernel_rfl
theorem AQ.bits7:Bs AQ.T7.2 AQ.B7=true:=by kernel_rfl
set_option maxHeartbeats 8000000 in
theorem AQ.calls (k:Nat) (A8:Int) (A0_1:Option Addr) (c0_1:Nat) (l0_1:List (S64)) (A1:Option Addr) (c1:Nat) (l1:List (S47)) (r:Bool) (w:World) (hr0_1:Kd.C k64 w A0_1 l0_1.length l0_1) (hc0_1:l0_1.length≤c0_1) (hr1:Kd.C k47 w A1 l1.length l1) (hc1:l1.length≤c1) (h:AQ.f k A8 l0_1 l1=some r):
  Calls Try.prog 44 #[.agg #[.int .i64 A8,.slice A0_1 l0_1.length c0_1],.slice A1 l1.length c1] w fun e w'=>e= .returned (.bool r)∧Below w.heap.size w w':=by
 have hu34:=Try.underlying34
 have HR0_1:=Aside0.mk hr0_1
 have HC0_1:=Aside0.mk hc0_1
 clear hr0_1 hc0_1
 have HR1:=Aside0.mk hr1
 have HC1:=Aside0.mk hc1
 clear hr1 hc1
 have HB:=Aside0.mk (Below.refl w.heap.size w)
 have H:(AQ.l0 k l1 (l1.length:Int) 0 A8 l0_1)=some r:=h
 clear h
 have H':=Aside0.mk H
 clear H
 go_enter Try.func44,Try.ntmps44
 go_wp2_with (first|((with_reducible refine Am (N:=2) rfl ?_); refine Ak ?hg (N:=2) ?hd (cs:= #[.int .i64 A8,.slice A0_1 l0_1.length c0_1]) (t:=34) ?hr ?_; (case hd=>rfl); (case hg=>rfl); (case hr=>first|(go_simp; done)|(go_simp; rfl)); intro gb134 hg w3 hbox hb; have n0_:=Aside0.mk (AO zA hb); have n1_:=Aside0.mk (hbox); have n2_:=Aside0.mk ((by rw [hg]; exact (AP zA):w.heap.size≤gb134)); have n3_:=Aside0.mk ((by rw [hg]; exact (AP zA):w.heap.size≤gb134)); clear HB; have HB:=n0_; have BK134:=n1_; have GW134:=n2_; have GE134:=n3_; clear n0_ n1_ n2_ n3_; clear hb hbox hg))
 go_loopg [9] k (fun kq v9 w'=>∃(x9_1:Int),v9= .int .i64 x9_1∧Aside0 (AQ.l0 kq l1 (l1.length:Int) x9_1 A8 l0_1=some r)∧Aside0 (kq≤k)∧Aside0 (w'.heap[gb134]? =some (.cells #[.int .i64 A8,(.slice A0_1 l0_1.length c0_1)] 34 (0,0)))∧Aside0 (Below w.heap.size w w'))
 case atStart=>exact ⟨(0),zH,H',⟨Nat.le_refl _⟩,⟨by (with_reducible repeat (first|refine AF ?_ _|refine AI ?_|refine AG ?_ _)); exact BK134.out⟩,⟨by repeat (first|(with_reducible first|exact HB.out|apply AE|apply AC|apply AD|refine AH ?_ GE134.out)|exact HB.out)⟩⟩
 case round=>
  clear H'
  try clear c1
  try clear p2
  obtain ⟨x9_1,rfl,HA,HK1,BK134,HB⟩:=hrel
  cases gk with
  |zero=>exact absurd HA.out (by simp [AQ.l0])
  | succ k1 =>
   have H:=HA.out
   clear HA
   simp only [AQ.l0] at H
   by_cases c4:x9_1<(l1.length:Int)
   ·rw [if_pos c4] at H
    have c4b0:decide (x9_1<(l1.length:Int))=true:=decide_eq_true c4
    clear c4
    have H':=Aside0.mk H
    clear H
    go_wp2
    go_loopg [13] k1 (fun kq v13 w'=>∃(x13_2:Int),v13= .int .i64 x13_2∧Aside0 (AQ.l1 kq l1 x9_1 (l1.length:Int) x9_1 x9_1 x13_2 A8 l0_1=some r)∧Aside0 (kq≤k1)∧Aside0 (w'.heap[gb134]? =some (.cells #[.int .i64 A8,(.slice A0_1 l0_1.length c0_1)] 34 (0,0)))∧Aside0 (Below w.heap.size w w'))
    case atStart=>exact ⟨(0),zH,H',⟨Nat.le_refl _⟩,⟨by (with_reducible repeat (first|refine AF ?_ _|refine AI ?_|refine AG ?_ _)); exact BK134.out⟩,⟨by repeat (first|(with_reducible first|exact HB.out|apply AE|apply AC|apply AD|refine AH ?_ GE134.out)|exact HB.out)⟩⟩
    case round=>
     clear H'
     try clear c1
     try clear p2
     try clear c4
     try clear c4b0
     try clear p2
     obtain ⟨x13_2,rfl,HA,HK2,BK134,HB⟩:=hrel
     cases gk with
     |zero=>exact absurd HA.out (by simp [AQ.l1])
     | succ k2 =>
      have H:=HA.out
      clear HA
      simp only [AQ.l1] at H
      by_cases c5:x13_2<x9_1
      ·rw [if_pos c5] at H
       have c5b0:decide (x13_2<x9_1)=true:=decide_eq_true c5
       clear c5
       by_cases c6:0≤x9_1
       ·rw [if_pos c6] at H
        have c6b0:decide (0≤x9_1)=true:=decide_eq_true c6
        clear c6
        by_cases c7:x9_1<(l1.length:Int)
        ·rw [if_pos c7] at H
         have c7b0:decide (x9_1<(l1.length:Int))=true:=decide_eq_true c7
         clear c7
         by_cases c8:0≤x13_2
         ·rw [if_pos c8] at H
          have c8b0:decide (0≤x13_2)=true:=decide_eq_true c8
          clear c8
          by_cases c9:x13_2<(l1.length:Int)
          ·rw [if_pos c9] at H
           have c9b0:decide (x13_2<(l1.length:Int))=true:=decide_eq_true c9
           clear c9
           by_cases c10:((Ae l1 x9_1).f0)=((Ae l1 x13_2).f0)
           ·rw [if_pos c10] at H
            have c10b0:(((Ae l1 x9_1).f0)==((Ae l1 x13_2).f0))=true:=beq_iff_eq.mpr c10
            have c10b1:(((Ae l1 x9_1).f0) !=((Ae l1 x13_2).f0))=false:=bne_eq_false_iff_eq.mpr c10
            clear c10
            replace H:=Option.bind_eq_some_iff.mp H
            obtain ⟨t138,A110,H⟩:=H
            replace H:(if ((Ae l1 x9_1).f1)<t138 then ((Au.f A8 l0_1 l1 x9_1).bind fun t140=>(if ((Ae l1 x13_2).f1)<t140 then (some true) else (AQ.l1 k2 l1 x9_1 (l1.length:Int) x9_1 x9_1 (wrap64 (x13_2+1)) A8 l0_1))) else (AQ.l1 k2 l1 x9_1 (l1.length:Int) x9_1 x9_1 (wrap64 (x13_2+1)) A8 l0_1))=some r:=H
            have A11:=Aside0.mk A110
            clear A110
            by_cases c12:((Ae l1 x9_1).f1)<t138
            ·rw [if_pos c12] at H
             have c12b0:decide (((Ae l1 x9_1).f1)<t138)=true:=decide_eq_true c12
             clear c12
             replace H:=Option.bind_eq_some_iff.mp H
             obtain ⟨t140,A130,H⟩:=H
             replace H:(if ((Ae l1 x13_2).f1)<t140 then (some true) else (AQ.l1 k2 l1 x9_1 (l1.length:Int) x9_1 x9_1 (wrap64 (x13_2+1)) A8 l0_1))=some r:=H
             have A13:=Aside0.mk A130
             clear A130
             by_cases c14:((Ae l1 x13_2).f1)<t140
             ·rw [if_pos c14] at H
              have c14b0:decide (((Ae l1 x13_2).f1)<t140)=true:=decide_eq_true c14
              clear c14
              obtain rfl:=Option.some.inj H
              try go_wp2
              have n0_:=Aside0.mk (AI BK134.out)
              have n1_:=Aside0.mk (AD HB.out)
              clear BK134
              clear HB
              have BK134:=n0_
              have HB:=n1_
              clear n0_ n1_
              have p135:0≤(x9_1:Int):=of_decide_eq_true zC
              have q135:x9_1<(l1.length:Int):=of_decide_eq_true zC
              obtain ⟨ad135,e135,hx135_0,hx135_1⟩:=BV HR1.out x9_1 p135 q135
              have hw135_1:=hx135_1
              have hw135_0:=hx135_0
              cases e135
              replace hx135_0:=(HB.out.cell (World.block_lt_of_cell? w _ hx135_0)).trans hx135_0
              replace hx135_1:=(HB.out.cell (World.block_lt_of_cell? w _ hx135_1)).trans hx135_1
              replace p135:=eq_true p135
              replace q135:=eq_true q135
              have p136:0≤(x13_2:Int):=of_decide_eq_true zC
              have q136:x13_2<(l1.length:Int):=of_decide_eq_true zC
              obtain ⟨ad136,e136,hx136_0,hx136_1⟩:=BV HR1.out x13_2 p136 q136
              have hw136_1:=hx136_1
              have hw136_0:=hx136_0
              obtain rfl:ad135=ad136:=(by injection e136)
              replace hx136_0:=(HB.out.cell (World.block_lt_of_cell? w _ hx136_0)).trans hx136_0
              replace hx136_1:=(HB.out.cell (World.block_lt_of_cell? w _ hx136_1)).trans hx136_1
              replace p136:=eq_true p136
              replace q136:=eq_true q136
              have p137:0≤(x9_1:Int):=of_decide_eq_true zC
              have q137:x9_1<(l1.length:Int):=of_decide_eq_true zC
              obtain ⟨ad137,e137,hx137_0,hx137_1⟩:=BV HR1.out x9_1 p137 q137
              have hw137_1:=hx137_1
              have hw137_0:=hx137_0
              obtain rfl:ad135=ad137:=(by injection e137)
              replace hx137_0:=(HB.out.cell (World.block_lt_of_cell? w _ hx137_0)).trans hx137_0
              replace hx137_1:=(HB.out.cell (World.block_lt_of_cell? w _ hx137_1)).trans hx137_1
              replace p137:=eq_true p137
              replace q137:=eq_true q137
              have p139:0≤(x13_2:Int):=of_decide_eq_true zC
              have q139:x13_2<(l1.length:Int):=of_decide_eq_true zC
              obtain ⟨ad139,e139,hx139_0,hx139_1⟩:=BV HR1.out x13_2 p139 q139
              have hw139_1:=hx139_1
              have hw139_0:=hx139_0
              obtain rfl:ad135=ad139:=(by injection e139)
              replace hx139_0:=(HB.out.cell (World.block_lt_of_cell? w _ hx139_0)).trans hx139_0
              replace hx139_1:=(HB.out.cell (World.block_lt_of_cell? w _ hx139_1)).trans hx139_1
              replace p139:=eq_true p139
              replace q139:=eq_true q139
              refine Bv (n:=35) (S:=fun w'=>w'.cell? ⟨gb134,0,none⟩=some (.int .i64 A8)∧w'.cell? ⟨gb134,1,none⟩=some (.slice A0_1 l0_1.length c0_1)∧w'.cell? (ad135.add ((x9_1).toNat*2))=some (.int .i64 ((Ae l1 x9_1).f0))∧w'.cell? ⟨(ad135.add ((x9_1).toNat*2)).block,(ad135.add ((x9_1).toNat*2)).off+1,none⟩=some (.int .i64 ((Ae l1 x9_1).f1))∧w'.cell? (ad135.add ((x13_2).toNat*2))=some (.int .i64 ((Ae l1 x13_2).f0))∧w'.cell? ⟨(ad135.add ((x13_2).toNat*2)).block,(ad135.add ((x13_2).toNat*2)).off+1,none⟩=some (.int .i64 ((Ae l1 x13_2).f1))∧w'.cell? (ad135.add ((x9_1).toNat*2))=some (.int .i64 ((Ae l1 x9_1).f0))∧w'.cell? ⟨(ad135.add ((x9_1).toNat*2)).block,(ad135.add ((x9_1).toNat*2)).off+1,none⟩=some (.int .i64 ((Ae l1 x9_1).f1))∧w'.cell? (ad135.add ((x13_2).toNat*2))=some (.int .i64 ((Ae l1 x13_2).f0))∧w'.cell? ⟨(ad135.add ((x13_2).toNat*2)).block,(ad135.add ((x13_2).toNat*2)).off+1,none⟩=some (.int .i64 ((Ae l1 x13_2).f1))) (ds:=[]) #[false,false,false,false,false,false,false,false,false,false,false,false,false,false,false,false,false,false,false,false,false,false,false,false,false,false,false,false,false,false,false,false,false,false,false] zF rfl rfl ⟨(AK BK134.out 0).trans rfl,(AK BK134.out 1).trans rfl,((HB.out.cell (World.block_lt_of_cell? w _ hw135_0)).trans hw135_0),((HB.out.cell (World.block_lt_of_cell? w _ hw135_1)).trans hw135_1),((HB.out.cell (World.block_lt_of_cell? w _ hw136_0)).trans hw136_0),((HB.out.cell (World.block_lt_of_cell? w _ hw136_1)).trans hw136_1),((HB.out.cell (World.block_lt_of_cell? w _ hw137_0)).trans hw137_0),((HB.out.cell (World.block_lt_of_cell? w _ hw137_1)).trans hw137_1),((HB.out.cell (World.block_lt_of_cell? w _ hw139_0)).trans hw139_0),((HB.out.cell (World.block_lt_of_cell? w _ hw139_1)).trans hw139_1)⟩ (fun hHeld=> ?_); refine Bj AQ.tab7 AQ.bits7 (fun HT_ HW_=> ?_)
              generalize wr.drew=w15 at BK134 HB hx135_0 hx135_1 hx136_0 hx136_1 hx137_0 hx137_1 hx139_0 hx139_1 hHeld ⊢
              refine Ah (i:=0) (N:=some 16) (v:= ?_) (a':= ?_) #[true,false,false,false,false,false,false,false,false,false,false,false,false,false,false,false,false,false,false,false,false,false,false,false,false,false,false,false,false,false,false,false,false,false,false] rfl rfl (Ab HT_.out zF) (fun _ _ _ h=>h) (Or.inl ⟨by rfl,?_⟩) ?_ ?_
              rotate_left
              ·intro w'
               go_simp
               with_reducible rfl
              rotate_left
              ·simp only [Act.put,List.setIfInBounds_toArray,List.set_cons_zero,List.set_cons_succ,AZ,Aa]
               rfl
              refine Ah (i:=1) (N:=some 17) (v:= ?_) (a':= ?_) #[true,true,false,false,false,false,false,false,false,false,false,false,false,false,false,false,false,false,false,false,false,false,false,false,false,false,false,false,false,false,false,false,false,false,false] rfl rfl (Ab HT_.out zF) (fun _ _ _ h=>h) (Or.inl ⟨by rfl,?_⟩) ?_ ?_
              rotate_left
              ·intro w'
               go_simp
               with_reducible rfl
              rotate_left
              ·simp only [Act.put,List.setIfInBounds_toArray,List.set_cons_zero,List.set_cons_succ,AZ,Aa]
               rfl
              refine Ah (i:=2) (N:=some 18) (v:= ?_) (a':= ?_) #[true,true,true,false,false,false,false,false,false,false,false,false,false,false,false,false,false,false,false,false,false,false,false,false,false,false,false,false,false,false,false,false,false,false,false] rfl rfl (Ab HT_.out zF) (fun _ _ _ h=>h) (Or.inl ⟨by rfl,?_⟩) ?_ ?_
              rotate_left
              ·intro w'
               go_simp
               with_reducible rfl
              rotate_left
              ·simp only [Act.put,List.setIfInBounds_toArray,List.set_cons_zero,List.set_cons_succ,AZ,Aa]
               rfl
              refine Ah (i:=3) (N:=some 19) (v:= ?_) (a':= ?_) #[true,true,true,true,false,false,false,false,false,false,false,false,false,false,false,false,false,false,false,false,false,false,false,false,false,false,false,false,false,false,false,false,false,false,false] rfl rfl (Ab HT_.out zF) (fun _ _ _ h=>h) (Or.inl ⟨by rfl,?_⟩) ?_ ?_
              rotate_left
              ·intro w'
               go_simp
               with_reducible rfl
              rotate_left
              ·simp only [Act.put,List.setIfInBounds_toArray,List.set_cons_zero,List.set_cons_succ,AZ,Aa]
               rfl
              refine Ah (i:=5) (N:=some 21) (v:= ?_) (a':= ?_) #[true,true,true,true,false,true,false,false,false,false,false,false,false,false,false,false,false,false,false,false,false,false,false,false,false,false,false,false,false,false,false,false,false,false,false] rfl rfl (Ab HT_.out zF) (fun _ _ _ h=>h) (Or.inl ⟨by rfl,?_⟩) ?_ ?_
              rotate_left
              ·intro w'
               go_simp
               with_reducible rfl
              rotate_left
              ·simp only [Act.put,List.setIfInBounds_toArray,List.set_cons_zero,List.set_cons_succ,AZ,Aa]
               rfl
              refine Ah (i:=6) (N:=some 22) (v:= ?_) (a':= ?_) #[true,true,true,true,false,true,true,false,false,false,false,false,false,false,false,false,false,false,false,false,false,false,false,false,false,false,false,false,false,false,false,false,false,false,false] rfl rfl (Ab HT_.out zF) (fun _ _ _ h=>h) (Or.inl ⟨by rfl,?_⟩) ?_ ?_
              rotate_left
              ·intro w'
               go_simp
               with_reducible rfl
              rotate_left
              ·simp only [Act.put,List.setIfInBounds_toArray,List.set_cons_zero,List.set_cons_succ,AZ,Aa]
               rfl
              refine Ah (i:=7) (N:=some 23) (v:= ?_) (a':= ?_) #[true,true,true,true,false,true,true,true,false,false,false,false,false,false,false,false,false,false,false,false,false,false,false,false,false,false,false,false,false,false,false,false,false,false,false] rfl rfl (Ab HT_.out zF) (fun _ _ _ h=>h) (Or.inl ⟨by rfl,?_⟩) ?_ ?_
              rotate_left
              ·intro w'
               go_simp
               with_reducible rfl
              rotate_left
              ·simp only [Act.put,List.setIfInBounds_toArray,List.set_cons_zero,List.set_cons_succ,AZ,Aa]
               rfl
              refine Ah (i:=8) (N:=some 24) (v:= ?_) (a':= ?_) #[true,true,true,true,false,true,true,true,true,false,false,false,false,false,false,false,false,false,false,false,false,false,false,false,false,false,false,false,false,false,false,false,false,false,false] rfl rfl (Ab HT_.out zF) (fun _ _ _ h=>h) (Or.inl ⟨by rfl,?_⟩) ?_ ?_
              rotate_left
              ·intro w'
               go_simp
               with_reducible rfl
              rotate_left
              ·simp only [Act.put,List.setIfInBounds_toArray,List.set_cons_zero,List.set_cons_succ,AZ,Aa]
               rfl
              refine BE (i:=4) (N:=some 20) (v:= ?_) (a':= ?_) #[true,true,true,true,true,true,true,true,true,false,false,false,false,false,false,false,false,false,false,false,false,false,false,false,false,false,false,false,false,false,false,false,false,false,false] rfl rfl (B5 HT_.out HW_.out zF) (fun _ _ _ h=>h) (Or.inl ⟨by rfl,?_⟩) hHeld ?_ ?_
              rotate_left
              ·rintro w' ⟨s0,s1,s2,s3,s4,s5,s6,s7,s8,s9⟩
               go_simp
               with_reducible rfl
              rotate_left
              ·simp only [Act.put,List.setIfInBounds_toArray,List.set_cons_zero,List.set_cons_succ,AZ,Aa]
               rfl
              refine BE (i:=9) (N:=some 25) (v:= ?_) (a':= ?_) #[true,true,true,true,true,true,true,true,true,true,false,false,false,false,false,false,false,false,false,false,false,false,false,false,false,false,false,false,false,false,false,false,false,false,false] rfl rfl (B5 HT_.out HW_.out zF) (fun _ _ _ h=>h) (Or.inl ⟨by rfl,?_⟩) hHeld ?_ ?_
              rotate_left
              ·rintro w' ⟨s0,s1,s2,s3,s4,s5,s6,s7,s8,s9⟩
               go_simp
               with_reducible rfl
              rotate_left
              ·simp only [Act.put,List.setIfInBounds_toArray,List.set_cons_zero,List.set_cons_succ,AZ,Aa]
               rfl
              refine Ah (i:=10) (N:=some 26) (v:= ?_) (a':= ?_) #[true,true,true,true,true,true,true,true,true,true,true,false,false,false,false,false,false,false,false,false,false,false,false,false,false,false,false,false,false,false,false,false,false,false,false] rfl rfl (Ab HT_.out zF) (fun _ _ _ h=>h) (Or.inl ⟨by rfl,?_⟩) ?_ ?_
              rotate_left
              ·intro w'
               go_simp
               with_reducible rfl
              rotate_left
              ·simp only [Act.put,List.setIfInBounds_toArray,List.set_cons_zero,List.set_cons_succ,AZ,Aa]
               rfl
              refine Ah (i:=11) (N:=some 27) (v:= ?_) (a':= ?_) #[true,true,true,true,true,true,true,true,true,true,true,true,false,false,false,false,false,false,false,false,false,false,false,false,false,false,false,false,false,false,false,false,false,false,false] rfl rfl (Ab HT_.out zF) (fun _ _ _ h=>h) (Or.inl ⟨by rfl,?_⟩) ?_ ?_
              rotate_left
              ·intro w'
               go_simp
               with_reducible rfl
              rotate_left
              ·simp only [Act.put,List.setIfInBounds_toArray,List.set_cons_zero,List.set_cons_succ,AZ,Aa]
               rfl
              refine Ah (i:=12) (N:=some 28) (v:= ?_) (a':= ?_) #[true,true,true,true,true,true,true,true,true,true,true,true,true,false,false,false,false,false,false,false,false,false,false,false,false,false,false,false,false,false,false,false,false,false,false] rfl rfl (Ab HT_.out zF) (fun _ _ _ h=>h) (Or.inl ⟨by rfl,?_⟩) ?_ ?_
              rotate_left
              ·intro w'
               go_simp
               with_reducible rfl
              rotate_left
              ·simp only [Act.put,List.setIfInBounds_toArray,List.set_cons_zero,List.set_cons_succ,AZ,Aa]
               rfl
              refine Ah (i:=13) (N:=some 29) (v:= ?_) (a':= ?_) #[true,true,true,true,true,true,true,true,true,true,true,true,true,true,false,false,false,false,false,false,false,false,false,false,false,false,false,false,false,false,false,false,false,false,false] rfl rfl (Ab HT_.out zF) (fun _ _ _ h=>h) (Or.inl ⟨by rfl,?_⟩) ?_ ?_
              rotate_left
              ·intro w'
               go_simp
               with_reducible rfl
              rotate_left
              ·simp only [Act.put,List.setIfInBounds_toArray,List.set_cons_zero,List.set_cons_succ,AZ,Aa]
               rfl
              refine Ah (i:=14) (N:=some 30) (v:= ?_) (a':= ?_) #[true,true,true,true,true,true,true,true,true,true,true,true,true,true,true,false,false,false,false,false,false,false,false,false,false,false,false,false,false,false,false,false,false,false,false] rfl rfl (Ab HT_.out zF) (fun _ _ _ h=>h) (Or.inl ⟨by rfl,?_⟩) ?_ ?_
              rotate_left
              ·intro w'
               go_simp
               with_reducible rfl
              rotate_left
              ·simp only [Act.put,List.setIfInBounds_toArray,List.set_cons_zero,List.set_cons_succ,AZ,Aa]
               rfl
              refine Ah (i:=15) (N:=some 31) (v:= ?_) (a':= ?_) #[true,true,true,true,true,true,true,true,true,true,true,true,true,true,true,true,false,false,false,false,false,false,false,false,false,false,false,false,false,false,false,false,false,false,false] rfl rfl (Ab HT_.out zF) (fun _ _ _ h=>h) (Or.inl ⟨by rfl,?_⟩) ?_ ?_
              rotate_left
              ·intro w'
               go_simp
               with_reducible rfl
              rotate_left
              ·simp only [Act.put,List.setIfInBounds_toArray,List.set_cons_zero,List.set_cons_succ,AZ,Aa]
               rfl
              refine Ah (i:=18) (N:=some 34) (v:= ?_) (a':= ?_) #[true,true,true,true,true,true,true,true,true,true,true,true,true,true,true,true,false,false,true,false,false,false,false,false,false,false,false,false,false,false,false,false,false,false,false] rfl rfl (Ab HT_.out zF) (fun _ _ _ h=>h) (Or.inl ⟨by rfl,?_⟩) ?_ ?_
              rotate_left
              ·intro w'
               go_simp
               with_reducible rfl
              rotate_left
              ·simp only [Act.put,List.setIfInBounds_toArray,List.set_cons_zero,List.set_cons_succ,AZ,Aa]
               rfl
              refine Ah (i:=19) (N:=some 35) (v:= ?_) (a':= ?_) #[true,true,true,true,true,true,true,true,true,true,true,true,true,true,true,true,false,false,true,true,false,false,false,false,false,false,false,false,false,false,false,false,false,false,false] rfl rfl (Ab HT_.out zF) (fun _ _ _ h=>h) (Or.inl ⟨by rfl,?_⟩) ?_ ?_
              rotate_left
              ·intro w'
               go_simp
               with_reducible rfl
              rotate_left
              ·simp only [Act.put,List.setIfInBounds_toArray,List.set_cons_zero,List.set_cons_succ,AZ,Aa]
               rfl
              refine BE (i:=16) (N:=some 32) (v:= ?_) (a':= ?_) #[true,true,true,true,true,true,true,true,true,true,true,true,true,true,true,true,true,false,true,true,false,false,false,false,false,false,false,false,false,false,false,false,false,false,false] rfl rfl (B5 HT_.out HW_.out zF) (fun _ _ _ h=>h) (Or.inl ⟨by rfl,?_⟩) hHeld ?_ ?_
              rotate_left
              ·rintro w' ⟨s0,s1,s2,s3,s4,s5,s6,s7,s8,s9⟩
               go_simp
               with_reducible rfl
              rotate_left
              ·simp only [Act.put,List.setIfInBounds_toArray,List.set_cons_zero,List.set_cons_succ,AZ,Aa]
               rfl
              refine BE (i:=17) (N:=some 33) (v:= ?_) (a':= ?_) #[true,true,true,true,true,true,true,true,true,true,true,true,true,true,true,true,true,true,true,true,false,false,false,false,false,false,false,false,false,false,false,false,false,false,false] rfl rfl (B5 HT_.out HW_.out zF) (fun _ _ _ h=>h) (Or.inl ⟨by rfl,?_⟩) hHeld ?_ ?_
              rotate_left
              ·rintro w' ⟨s0,s1,s2,s3,s4,s5,s6,s7,s8,s9⟩
               go_simp
               with_reducible rfl
              rotate_left
              ·simp only [Act.put,List.setIfInBounds_toArray,List.set_cons_zero,List.set_cons_succ,AZ,Aa]
               rfl
              refine one_ (i:=20) (N:=some 36) #[true,true,true,true,true,true,true,true,true,true,true,true,true,true,true,true,true,true,true,true,true,false,false,false,false,false,false,false,false,false,false,false,false,false,false] rfl rfl (C1 HT_.out zF) zX (fun K hK=> ?_)
              refine CV Try.func30 zF rfl #[.agg #[.int .i64 A8,.slice A0_1 l0_1.length c0_1],.slice (some ad135) l1.length c1,.int .i64 x13_2] (by rfl) rfl rfl zB ?_
              with_reducible refine (Au.calls A8 _ _ l0_1 _ _ l1 x13_2 t138 _ ?side1 ?side2 ?side3 ?side4 A11.out).mono ?_
              (case side1=>repeat (first|exact (Kd.C_below HR0_1.out HB.out)|(with_reducible refine Kd.C_alloc ?_ _)|(with_reducible refine Kd.C_drewN ?_ _)|(with_reducible refine Kd.C_drew ?_)))
              (case side2=>exact HC0_1.out)
              (case side3=>repeat (first|exact (Kd.C_below HR1.out HB.out)|(with_reducible refine Kd.C_alloc ?_ _)|(with_reducible refine Kd.C_drewN ?_ _)|(with_reducible refine Kd.C_drew ?_)))
              (case side4=>exact HC1.out)
              rintro e w16 ⟨rfl,hb⟩
              refine ⟨_,rfl,?_⟩
              have n0_:=Aside0.mk (AN (g:=gb134) (o:= .cells #[.int .i64 A8,.slice A0_1 l0_1.length c0_1] 34 (0,0)) (by (with_reducible repeat (first|refine AF ?_ _|refine AI ?_|refine AG ?_ _)); exact BK134.out) hb)
              have n1_:=Aside0.mk (AO zB5 hb)
              clear BK134
              clear HB
              have BK134:=n0_
              have HB:=n1_
              clear n0_ n1_
              (try clear hb)
              (try clear hb2)
              (try clear hk)
              (try clear hi)
              refine hK.out _ _ ⟨(AK BK134.out 0).trans rfl,(AK BK134.out 1).trans rfl,((HB.out.cell (World.block_lt_of_cell? w _ hw135_0)).trans hw135_0),((HB.out.cell (World.block_lt_of_cell? w _ hw135_1)).trans hw135_1),((HB.out.cell (World.block_lt_of_cell? w _ hw136_0)).trans hw136_0),((HB.out.cell (World.block_lt_of_cell? w _ hw136_1)).trans hw136_1),((HB.out.cell (World.block_lt_of_cell? w _ hw137_0)).trans hw137_0),((HB.out.cell (World.block_lt_of_cell? w _ hw137_1)).trans hw137_1),((HB.out.cell (World.block_lt_of_cell? w _ hw139_0)).trans hw139_0),((HB.out.cell (World.block_lt_of_cell? w _ hw139_1)).trans hw139_1)⟩ (fun hHeld=> ?_)
              clear hK K
              refine C4 (a':= ?_) ?_ ?_
              rotate_left
              ·show Act.put _ (some 36) _=_
               simp only [Act.put,List.setIfInBounds_toArray,List.set_cons_zero,List.set_cons_succ,AZ,Aa]
               rfl
              refine Ah (i:=21) (N:=some 37) (v:= ?_) (a':= ?_) #[true,true,true,true,true,true,true,true,true,true,true,true,true,true,true,true,true,true,true,true,true,true,false,false,false,false,false,false,false,false,false,false,false,false,false] rfl rfl (Ab HT_.out zF) (fun _ _ _ h=>h) (Or.inl ⟨by rfl,?_⟩) ?_ ?_
              rotate_left
              ·intro w'
               go_simp
               with_reducible rfl
              rotate_left
              ·simp only [Act.put,List.setIfInBounds_toArray,List.set_cons_zero,List.set_cons_succ,AZ,Aa]
               rfl
              refine Ah (i:=22) (N:=some 38) (v:= ?_) (a':= ?_) #[true,true,true,true,true,true,true,true,true,true,true,true,true,true,true,true,true,true,true,true,true,true,true,false,false,false,false,false,false,false,false,false,false,false,false] rfl rfl (Ab HT_.out zF) (fun _ _ _ h=>h) (Or.inl ⟨by rfl,?_⟩) ?_ ?_
              rotate_left
              ·intro w'
               go_simp
               with_reducible rfl
              rotate_left
              ·simp only [Act.put,List.setIfInBounds_toArray,List.set_cons_zero,List.set_cons_succ,AZ,Aa]
               rfl
              refine Ah (i:=23) (N:=some 39) (v:= ?_) (a':= ?_) #[true,true,true,true,true,true,true,true,true,true,true,true,true,true,true,true,true,true,true,true,true,true,true,true,false,false,false,false,false,false,false,false,false,false,false] rfl rfl (Ab HT_.out zF) (fun _ _ _ h=>h) (Or.inl ⟨by rfl,?_⟩) ?_ ?_
              rotate_left
              ·intro w'
               go_simp
               with_reducible rfl
              rotate_left
              ·simp only [Act.put,List.setIfInBounds_toArray,List.set_cons_zero,List.set_cons_succ,AZ,Aa]
               rfl
              refine Ah (i:=24) (N:=some 40) (v:= ?_) (a':= ?_) #[true,true,true,true,true,true,true,true,true,true,true,true,true,true,true,true,true,true,true,true,true,true,true,true,true,false,false,false,false,false,false,false,false,false,false] rfl rfl (Ab HT_.out zF) (fun _ _ _ h=>h) (Or.inl ⟨by rfl,?_⟩) ?_ ?_
              rotate_left
              ·intro w'
               go_simp
               with_reducible rfl
              rotate_left
              ·simp only [Act.put,List.setIfInBounds_toArray,List.set_cons_zero,List.set_cons_succ,AZ,Aa]
               rfl
              refine Ah (i:=25) (N:=some 41) (v:= ?_) (a':= ?_) #[true,true,true,true,true,true,true,true,true,true,true,true,true,true,true,true,true,true,true,true,true,true,true,true,true,true,false,false,false,false,false,false,false,false,false] rfl rfl (Ab HT_.out zF) (fun _ _ _ h=>h) (Or.inl ⟨by rfl,?_⟩) ?_ ?_
              rotate_left
              ·intro w'
               go_simp
               with_reducible rfl
              rotate_left
              ·simp only [Act.put,List.setIfInBounds_toArray,List.set_cons_zero,List.set_cons_succ,AZ,Aa]
               rfl
              refine Ah (i:=26) (N:=some 42) (v:= ?_) (a':= ?_) #[true,true,true,true,true,true,true,true,true,true,true,true,true,true,true,true,true,true,true,true,true,true,true,true,true,true,true,false,false,false,false,false,false,false,false] rfl rfl (Ab HT_.out zF) (fun _ _ _ h=>h) (Or.inl ⟨by rfl,?_⟩) ?_ ?_
              rotate_left
              ·intro w'
               go_simp
               with_reducible rfl
              rotate_left
              ·simp only [Act.put,List.setIfInBounds_toArray,List.set_cons_zero,List.set_cons_succ,AZ,Aa]
               rfl
              refine Ah (i:=27) (N:=some 43) (v:= ?_) (a':= ?_) #[true,true,true,true,true,true,true,true,true,true,true,true,true,true,true,true,true,true,true,true,true,true,true,true,true,true,true,true,false,false,false,false,false,false,false] rfl rfl (Ab HT_.out zF) (fun _ _ _ h=>h) (Or.inl ⟨by rfl,?_⟩) ?_ ?_
              rotate_left
              ·intro w'
               go_simp
               with_reducible rfl
              rotate_left
              ·simp only [Act.put,List.setIfInBounds_toArray,List.set_cons_zero,List.set_cons_succ,AZ,Aa]
               rfl
              refine Ah (i:=30) (N:=some 46) (v:= ?_) (a':= ?_) #[true,true,true,true,true,true,true,true,true,true,true,true,true,true,true,true,true,true,true,true,true,true,true,true,true,true,true,true,false,false,true,false,false,false,false] rfl rfl (Ab HT_.out zF) (fun _ _ _ h=>h) (Or.inl ⟨by rfl,?_⟩) ?_ ?_
              rotate_left
              ·intro w'
               go_simp
               with_reducible rfl
              rotate_left
              ·simp only [Act.put,List.setIfInBounds_toArray,List.set_cons_zero,List.set_cons_succ,AZ,Aa]
               rfl
              refine Ah (i:=31) (N:=some 47) (v:= ?_) (a':= ?_) #[true,true,true,true,true,true,true,true,true,true,true,true,true,true,true,true,true,true,true,true,true,true,true,true,true,true,true,true,false,false,true,true,false,false,false] rfl rfl (Ab HT_.out zF) (fun _ _ _ h=>h) (Or.inl ⟨by rfl,?_⟩) ?_ ?_
              rotate_left
              ·intro w'
               go_simp
               with_reducible rfl
              rotate_left
              ·simp only [Act.put,List.setIfInBounds_toArray,List.set_cons_zero,List.set_cons_succ,AZ,Aa]
               rfl
              refine BE (i:=28) (N:=some 44) (v:= ?_) (a':= ?_) #[true,true,true,true,true,true,true,true,true,true,true,true,true,true,true,true,true,true,true,true,true,true,true,true,true,true,true,true,true,false,true,true,false,false,false] rfl rfl (B5 HT_.out HW_.out zF) (fun _ _ _ h=>h) (Or.inl ⟨by rfl,?_⟩) hHeld ?_ ?_
              rotate_left
              ·rintro w' ⟨s0,s1,s2,s3,s4,s5,s6,s7,s8,s9⟩
               go_simp
               with_reducible rfl
              rotate_left
              ·simp only [Act.put,List.setIfInBounds_toArray,List.set_cons_zero,List.set_cons_succ,AZ,Aa]
               rfl
              refine BE (i:=29) (N:=some 45) (v:= ?_) (a':= ?_) #[true,true,true,true,true,true,true,true,true,true,true,true,true,true,true,true,true,true,true,true,true,true,true,true,true,true,true,true,true,true,true,true,false,false,false] rfl rfl (B5 HT_.out HW_.out zF) (fun _ _ _ h=>h) (Or.inl ⟨by rfl,?_⟩) hHeld ?_ ?_
              rotate_left
              ·rintro w' ⟨s0,s1,s2,s3,s4,s5,s6,s7,s8,s9⟩
               go_simp
               with_reducible rfl
              rotate_left
              ·simp only [Act.put,List.setIfInBounds_toArray,List.set_cons_zero,List.set_cons_succ,AZ,Aa]
               rfl
              refine one_ (i:=32) (N:=some 48) #[true,true,true,true,true,true,true,true,true,true,true,true,true,true,true,true,true,true,true,true,true,true,true,true,true,true,true,true,true,true,true,true,true,false,false] rfl rfl (C1 HT_.out zF) zX (fun K hK=> ?_)
              refine CV Try.func30 zF rfl #[.agg #[.int .i64 A8,.slice A0_1 l0_1.length c0_1],.slice (some ad135) l1.length c1,.int .i64 x9_1] (by rfl) rfl rfl zB ?_
              with_reducible refine (Au.calls A8 _ _ l0_1 _ _ l1 x9_1 t140 _ ?side1 ?side2 ?side3 ?side4 A13.out).mono ?_
              (case side1=>repeat (first|exact (Kd.C_below HR0_1.out HB.out)|(with_reducible refine Kd.C_alloc ?_ _)|(with_reducible refine Kd.C_drewN ?_ _)|(with_reducible refine Kd.C_drew ?_)))
              (case side2=>exact HC0_1.out)
              (case side3=>repeat (first|exact (Kd.C_below HR1.out HB.out)|(with_reducible refine Kd.C_alloc ?_ _)|(with_reducible refine Kd.C_drewN ?_ _)|(with_reducible refine Kd.C_drew ?_)))
              (case side4=>exact HC1.out)
              rintro e w17 ⟨rfl,hb⟩
              refine ⟨_,rfl,?_⟩
              have n0_:=Aside0.mk (AN (g:=gb134) (o:= .cells #[.int .i64 A8,.slice A0_1 l0_1.length c0_1] 34 (0,0)) (by (with_reducible repeat (first|refine AF ?_ _|refine AI ?_|refine AG ?_ _)); exact BK134.out) hb)
              have n1_:=Aside0.mk (AO zB5 hb)
              clear BK134
              clear HB
              have BK134:=n0_
              have HB:=n1_
              clear n0_ n1_
              (try clear hb)
              (try clear hb2)
              (try clear hk)
              (try clear hi)
              refine hK.out _ _ ⟨(AK BK134.out 0).trans rfl,(AK BK134.out 1).trans rfl,((HB.out.cell (World.block_lt_of_cell? w _ hw135_0)).trans hw135_0),((HB.out.cell (World.block_lt_of_cell? w _ hw135_1)).trans hw135_1),((HB.out.cell (World.block_lt_of_cell? w _ hw136_0)).trans hw136_0),((HB.out.cell (World.block_lt_of_cell? w _ hw136_1)).trans hw136_1),((HB.out.cell (World.block_lt_of_cell? w _ hw137_0)).trans hw137_0),((HB.out.cell (World.block_lt_of_cell? w _ hw137_1)).trans hw137_1),((HB.out.cell (World.block_lt_of_cell? w _ hw139_0)).trans hw139_0),((HB.out.cell (World.block_lt_of_cell? w _ hw139_1)).trans hw139_1)⟩ (fun hHeld=> ?_)
              clear hK K
              refine C4 (a':= ?_) ?_ ?_
              rotate_left
              ·show Act.put _ (some 48) _=_
               simp only [Act.put,List.setIfInBounds_toArray,List.set_cons_zero,List.set_cons_succ,AZ,Aa]
               rfl
              refine Ah (i:=33) (N:=some 49) (v:= ?_) (a':= ?_) #[true,true,true,true,true,true,true,true,true,true,true,true,true,true,true,true,true,true,true,true,true,true,true,true,true,true,true,true,true,true,true,true,true,true,false] rfl rfl (Ab HT_.out zF) (fun _ _ _ h=>h) (Or.inl ⟨by rfl,?_⟩) ?_ ?_
              rotate_left
              ·intro w'
               go_simp
               with_reducible rfl
              rotate_left
              ·simp only [Act.put,List.setIfInBounds_toArray,List.set_cons_zero,List.set_cons_succ,AZ,Aa]
               rfl
              refine Ah (i:=34) (N:=some 50) (v:= ?_) (a':= ?_) #[true,true,true,true,true,true,true,true,true,true,true,true,true,true,true,true,true,true,true,true,true,true,true,true,true,true,true,true,true,true,true,true,true,true,true] rfl rfl (Ab HT_.out zF) (fun _ _ _ h=>h) (Or.inl ⟨by rfl,?_⟩) ?_ ?_
              rotate_left
              ·intro w'
               go_simp
               with_reducible rfl
              rotate_left
              ·simp only [Act.put,List.setIfInBounds_toArray,List.set_cons_zero,List.set_cons_succ,AZ,Aa]
               rfl
              refine CJ (C0 HT_.out zF) ?_
              try go_wp2
              go_ret
              exact ⟨by first|rfl|(simp [AY,AX]<;>rfl)|(simp [*,AY,AX]<;>rfl),by repeat (first|(with_reducible first|exact HB.out|apply AE|apply AC|apply AD|refine AH ?_ GE134.out)|exact HB.out)⟩
             ·rw [if_neg c14] at H
              have c14b0:decide (((Ae l1 x13_2).f1)<t140)=false:=decide_eq_false c14
              clear c14
              have H':=Aside0.mk H
              clear H
              try go_wp2
              have n0_:=Aside0.mk (AI BK134.out)
              have n1_:=Aside0.mk (AD HB.out)
              clear BK134
              clear HB
              have BK134:=n0_
              have HB:=n1_
              clear n0_ n1_
              have p135:0≤(x9_1:Int):=of_decide_eq_true zC
              have q135:x9_1<(l1.length:Int):=of_decide_eq_true zC
              obtain ⟨ad135,e135,hx135_0,hx135_1⟩:=BV HR1.out x9_1 p135 q135
              have hw135_1:=hx135_1
              have hw135_0:=hx135_0
              cases e135
              replace hx135_0:=(HB.out.cell (World.block_lt_of_cell? w _ hx135_0)).trans hx135_0
              replace hx135_1:=(HB.out.cell (World.block_lt_of_cell? w _ hx135_1)).trans hx135_1
              replace p135:=eq_true p135
              replace q135:=eq_true q135
              have p136:0≤(x13_2:Int):=of_decide_eq_true zC
              have q136:x13_2<(l1.length:Int):=of_decide_eq_true zC
              obtain ⟨ad136,e136,hx136_0,hx136_1⟩:=BV HR1.out x13_2 p136 q136
              have hw136_1:=hx136_1
              have hw136_0:=hx136_0
              obtain rfl:ad135=ad136:=(by injection e136)
              replace hx136_0:=(HB.out.cell (World.block_lt_of_cell? w _ hx136_0)).trans hx136_0
              replace hx136_1:=(HB.out.cell (World.block_lt_of_cell? w _ hx136_1)).trans hx136_1
              replace p136:=eq_true p136
              replace q136:=eq_true q136
              have p137:0≤(x9_1:Int):=of_decide_eq_true zC
              have q137:x9_1<(l1.length:Int):=of_decide_eq_true zC
              obtain ⟨ad137,e137,hx137_0,hx137_1⟩:=BV HR1.out x9_1 p137 q137
              have hw137_1:=hx137_1
              have hw137_0:=hx137_0
              obtain rfl:ad135=ad137:=(by injection e137)
              replace hx137_0:=(HB.out.cell (World.block_lt_of_cell? w _ hx137_0)).trans hx137_0
              replace hx137_1:=(HB.out.cell (World.block_lt_of_cell? w _ hx137_1)).trans hx137_1
              replace p137:=eq_true p137
              replace q137:=eq_true q137
              have p139:0≤(x13_2:Int):=of_decide_eq_true zC
              have q139:x13_2<(l1.length:Int):=of_decide_eq_true zC
              obtain ⟨ad139,e139,hx139_0,hx139_1⟩:=BV HR1.out x13_2 p139 q139
              have hw139_1:=hx139_1
              have hw139_0:=hx139_0
              obtain rfl:ad135=ad139:=(by injection e139)
              replace hx139_0:=(HB.out.cell (World.block_lt_of_cell? w _ hx139_0)).trans hx139_0
              replace hx139_1:=(HB.out.cell (World.block_lt_of_cell? w _ hx139_1)).trans hx139_1
              replace p139:=eq_true p139
              replace q139:=eq_true q139
              refine Bv (n:=35) (S:=fun w'=>w'.cell? ⟨gb134,0,none⟩=some (.int .i64 A8)∧w'.cell? ⟨gb134,1,none⟩=some (.slice A0_1 l0_1.length c0_1)∧w'.cell? (ad135.add ((x9_1).toNat*2))=some (.int .i64 ((Ae l1 x9_1).f0))∧w'.cell? ⟨(ad135.add ((x9_1).toNat*2)).block,(ad135.add ((x9_1).toNat*2)).off+1,none⟩=some (.int .i64 ((Ae l1 x9_1).f1))∧w'.cell? (ad135.add ((x13_2).toNat*2))=some (.int .i64 ((Ae l1 x13_2).f0))∧w'.cell? ⟨(ad135.add ((x13_2).toNat*2)).block,(ad135.add ((x13_2).toNat*2)).off+1,none⟩=some (.int .i64 ((Ae l1 x13_2).f1))∧w'.cell? (ad135.add ((x9_1).toNat*2))=some (.int .i64 ((Ae l1 x9_1).f0))∧w'.cell? ⟨(ad135.add ((x9_1).toNat*2)).block,(ad135.add ((x9_1).toNat*2)).off+1,none⟩=some (.int .i64 ((Ae l1 x9_1).f1))∧w'.cell? (ad135.add ((x13_2).toNat*2))=some (.int .i64 ((Ae l1 x13_2).f0))∧w'.cell? ⟨(ad135.add ((x13_2).toNat*2)).block,(ad135.add ((x13_2).toNat*2)).off+1,none⟩=some (.int .i64 ((Ae l1 x13_2).f1))) (ds:=[]) #[false,false,false,false,false,false,false,false,false,false,false,false,false,false,false,false,false,false,false,false,false,false,false,false,false,false,false,false,false,false,false,false,false,false,false] zF rfl rfl ⟨(AK BK134.out 0).trans rfl,(AK BK134.out 1).trans rfl,((HB.out.cell (World.block_lt_of_cell? w _ hw135_0)).trans hw135_0),((HB.out.cell (World.block_lt_of_cell? w _ hw135_1)).trans hw135_1),((HB.out.cell (World.block_lt_of_cell? w _ hw136_0)).trans hw136_0),((HB.out.cell (World.block_lt_of_cell? w _ hw136_1)).trans hw136_1),((HB.out.cell (World.block_lt_of_cell? w _ hw137_0)).trans hw137_0),((HB.out.cell (World.block_lt_of_cell? w _ hw137_1)).trans hw137_1),((HB.out.cell (World.block_lt_of_cell? w _ hw139_0)).trans hw139_0),((HB.out.cell (World.block_lt_of_cell? w _ hw139_1)).trans hw139_1)⟩ (fun hHeld=> ?_); refine Bj AQ.tab7 AQ.bits7 (fun HT_ HW_=> ?_)
              generalize wr.drew=w18 at BK134 HB hx135_0 hx135_1 hx136_0 hx136_1 hx137_0 hx137_1 hx139_0 hx139_1 hHeld ⊢
              refine Ah (i:=0) (N:=some 16) (v:= ?_) (a':= ?_) #[true,false,false,false,false,false,false,false,false,false,false,false,false,false,false,false,false,false,false,false,false,false,false,false,false,false,false,false,false,false,false,false,false,false,false] rfl rfl (Ab HT_.out zF) (fun _ _ _ h=>h) (Or.inl ⟨by rfl,?_⟩) ?_ ?_
              rotate_left
              ·intro w'
               go_simp
               with_reducible rfl
              rotate_left
              ·simp only [Act.put,List.setIfInBounds_toArray,List.set_cons_zero,List.set_cons_succ,AZ,Aa]
               rfl
              refine Ah (i:=1) (N:=some 17) (v:= ?_) (a':= ?_) #[true,true,false,false,false,false,false,false,false,false,false,false,false,false,false,false,false,false,false,false,false,false,false,false,false,false,false,false,false,false,false,false,false,false,false] rfl rfl (Ab HT_.out zF) (fun _ _ _ h=>h) (Or.inl ⟨by rfl,?_⟩) ?_ ?_
              rotate_left
              ·intro w'
               go_simp
               with_reducible rfl
              rotate_left
              ·simp only [Act.put,List.setIfInBounds_toArray,List.set_cons_zero,List.set_cons_succ,AZ,Aa]
               rfl
              refine Ah (i:=2) (N:=some 18) (v:= ?_) (a':= ?_) #[true,true,true,false,false,false,false,false,false,false,false,false,false,false,false,false,false,false,false,false,false,false,false,false,false,false,false,false,false,false,false,false,false,false,false] rfl rfl (Ab HT_.out zF) (fun _ _ _ h=>h) (Or.inl ⟨by rfl,?_⟩) ?_ ?_
              rotate_left
              ·intro w'
               go_simp
               with_reducible rfl
              rotate_left
              ·simp only [Act.put,List.setIfInBounds_toArray,List.set_cons_zero,List.set_cons_succ,AZ,Aa]
               rfl
              refine Ah (i:=3) (N:=some 19) (v:= ?_) (a':= ?_) #[true,true,true,true,false,false,false,false,false,false,false,false,false,false,false,false,false,false,false,false,false,false,false,false,false,false,false,false,false,false,false,false,false,false,false] rfl rfl (Ab HT_.out zF) (fun _ _ _ h=>h) (Or.inl ⟨by rfl,?_⟩) ?_ ?_
              rotate_left
              ·intro w'
               go_simp
               with_reducible rfl
              rotate_left
              ·simp only [Act.put,List.setIfInBounds_toArray,List.set_cons_zero,List.set_cons_succ,AZ,Aa]
               rfl
              refine Ah (i:=5) (N:=some 21) (v:= ?_) (a':= ?_) #[true,true,true,true,false,true,false,false,false,false,false,false,false,false,false,false,false,false,false,false,false,false,false,false,false,false,false,false,false,false,false,false,false,false,false] rfl rfl (Ab HT_.out zF) (fun _ _ _ h=>h) (Or.inl ⟨by rfl,?_⟩) ?_ ?_
              rotate_left
              ·intro w'
               go_simp
               with_reducible rfl
              rotate_left
              ·simp only [Act.put,List.setIfInBounds_toArray,List.set_cons_zero,List.set_cons_succ,AZ,Aa]
               rfl
              refine Ah (i:=6) (N:=some 22) (v:= ?_) (a':= ?_) #[true,true,true,true,false,true,true,false,false,false,false,false,false,false,false,false,false,false,false,false,false,false,false,false,false,false,false,false,false,false,false,false,false,false,false] rfl rfl (Ab HT_.out zF) (fun _ _ _ h=>h) (Or.inl ⟨by rfl,?_⟩) ?_ ?_
              rotate_left
              ·intro w'
               go_simp
               with_reducible rfl
              rotate_left
              ·simp only [Act.put,List.setIfInBounds_toArray,List.set_cons_zero,List.set_cons_succ,AZ,Aa]
               rfl
              refine Ah (i:=7) (N:=some 23) (v:= ?_) (a':= ?_) #[true,true,true,true,false,true,true,true,false,false,false,false,false,false,false,false,false,false,false,false,false,false,false,false,false,false,false,false,false,false,false,false,false,false,false] rfl rfl (Ab HT_.out zF) (fun _ _ _ h=>h) (Or.inl ⟨by rfl,?_⟩) ?_ ?_
              rotate_left
              ·intro w'
               go_simp
               with_reducible rfl
              rotate_left
              ·simp only [Act.put,List.setIfInBounds_toArray,List.set_cons_zero,List.set_cons_succ,AZ,Aa]
               rfl
              refine Ah (i:=8) (N:=some 24) (v:= ?_) (a':= ?_) #[true,true,true,true,false,true,true,true,true,false,false,false,false,false,false,false,false,false,false,false,false,false,false,false,false,false,false,false,false,false,false,false,false,false,false] rfl rfl (Ab HT_.out zF) (fun _ _ _ h=>h) (Or.inl ⟨by rfl,?_⟩) ?_ ?_
              rotate_left
              ·intro w'
               go_simp
               with_reducible rfl
              rotate_left
              ·simp only [Act.put,List.setIfInBounds_toArray,List.set_cons_zero,List.set_cons_succ,AZ,Aa]
               rfl
              refine BE (i:=4) (N:=some 20) (v:= ?_) (a':= ?_) #[true,true,true,true,true,true,true,true,true,false,false,false,false,false,false,false,false,false,false,false,false,false,false,false,false,false,false,false,false,false,false,false,false,false,false] rfl rfl (B5 HT_.out HW_.out zF) (fun _ _ _ h=>h) (Or.inl ⟨by rfl,?_⟩) hHeld ?_ ?_
              rotate_left
              ·rintro w' ⟨s0,s1,s2,s3,s4,s5,s6,s7,s8,s9⟩
               go_simp
               with_reducible rfl
              rotate_left
              ·simp only [Act.put,List.setIfInBounds_toArray,List.set_cons_zero,List.set_cons_succ,AZ,Aa]
               rfl
              refine BE (i:=9) (N:=some 25) (v:= ?_) (a':= ?_) #[true,true,true,true,true,true,true,true,true,true,false,false,false,false,false,false,false,false,false,false,false,false,false,false,false,false,false,false,false,false,false,false,false,false,false] rfl rfl (B5 HT_.out HW_.out zF) (fun _ _ _ h=>h) (Or.inl ⟨by rfl,?_⟩) hHeld ?_ ?_
              rotate_left
              ·rintro w' ⟨s0,s1,s2,s3,s4,s5,s6,s7,s8,s9⟩
               go_simp
               with_reducible rfl
              rotate_left
              ·simp only [Act.put,List.setIfInBounds_toArray,List.set_cons_zero,List.set_cons_succ,AZ,Aa]
               rfl
              refine Ah (i:=10) (N:=some 26) (v:= ?_) (a':= ?_) #[true,true,true,true,true,true,true,true,true,true,true,false,false,false,false,false,false,false,false,false,false,false,false,false,false,false,false,false,false,false,false,false,false,false,false] rfl rfl (Ab HT_.out zF) (fun _ _ _ h=>h) (Or.inl ⟨by rfl,?_⟩) ?_ ?_
              rotate_left
              ·intro w'
               go_simp
               with_reducible rfl
              rotate_left
              ·simp only [Act.put,List.setIfInBounds_toArray,List.set_cons_zero,List.set_cons_succ,AZ,Aa]
               rfl
              refine Ah (i:=11) (N:=some 27) (v:= ?_) (a':= ?_) #[true,true,true,true,true,true,true,true,true,true,true,true,false,false,false,false,false,false,false,false,false,false,false,false,false,false,false,false,false,false,false,false,false,false,false] rfl rfl (Ab HT_.out zF) (fun _ _ _ h=>h) (Or.inl ⟨by rfl,?_⟩) ?_ ?_
              rotate_left
              ·intro w'
               go_simp
               with_reducible rfl
              rotate_left
              ·simp only [Act.put,List.setIfInBounds_toArray,List.set_cons_zero,List.set_cons_succ,AZ,Aa]
               rfl
              refine Ah (i:=12) (N:=some 28) (v:= ?_) (a':= ?_) #[true,true,true,true,true,true,true,true,true,true,true,true,true,false,false,false,false,false,false,false,false,false,false,false,false,false,false,false,false,false,false,false,false,false,false] rfl rfl (Ab HT_.out zF) (fun _ _ _ h=>h) (Or.inl ⟨by rfl,?_⟩) ?_ ?_
              rotate_left
              ·intro w'
               go_simp
               with_reducible rfl
              rotate_left
              ·simp only [Act.put,List.setIfInBounds_toArray,List.set_cons_zero,List.set_cons_succ,AZ,Aa]
               rfl
              refine Ah (i:=13) (N:=some 29) (v:= ?_) (a':= ?_) #[true,true,true,true,true,true,true,true,true,true,true,true,true,true,false,false,false,false,false,false,false,false,false,false,false,false,false,false,false,false,false,false,false,false,false] rfl rfl (Ab HT_.out zF) (fun _ _ _ h=>h) (Or.inl ⟨by rfl,?_⟩) ?_ ?_
              rotate_left
              ·intro w'
               go_simp
               with_reducible rfl
              rotate_left
              ·simp only [Act.put,List.setIfInBounds_toArray,List.set_cons_zero,List.set_cons_succ,AZ,Aa]
               rfl
              refine Ah (i:=14) (N:=some 30) (v:= ?_) (a':= ?_) #[true,true,true,true,true,true,true,true,true,true,true,true,true,true,true,false,false,false,false,false,false,false,false,false,false,false,false,false,false,false,false,false,false,false,false] rfl rfl (Ab HT_.out zF) (fun _ _ _ h=>h) (Or.inl ⟨by rfl,?_⟩) ?_ ?_
              rotate_left
              ·intro w'
               go_simp
               with_reducible rfl
              rotate_left
              ·simp only [Act.put,List.setIfInBounds_toArray,List.set_cons_zero,List.set_cons_succ,AZ,Aa]
               rfl
              refine Ah (i:=15) (N:=some 31) (v:= ?_) (a':= ?_) #[true,true,true,true,true,true,true,true,true,true,true,true,true,true,true,true,false,false,false,false,false,false,false,false,false,false,false,false,false,false,false,false,false,false,false] rfl rfl (Ab HT_.out zF) (fun _ _ _ h=>h) (Or.inl ⟨by rfl,?_⟩) ?_ ?_
              rotate_left
              ·intro w'
               go_simp
               with_reducible rfl
              rotate_left
              ·simp only [Act.put,List.setIfInBounds_toArray,List.set_cons_zero,List.set_cons_succ,AZ,Aa]
               rfl
              refine Ah (i:=18) (N:=some 34) (v:= ?_) (a':= ?_) #[true,true,true,true,true,true,true,true,true,true,true,true,true,true,true,true,false,false,true,false,false,false,false,false,false,false,false,false,false,false,false,false,false,false,false] rfl rfl (Ab HT_.out zF) (fun _ _ _ h=>h) (Or.inl ⟨by rfl,?_⟩) ?_ ?_
              rotate_left
              ·intro w'
               go_simp
               with_reducible rfl
              rotate_left
              ·simp only [Act.put,List.setIfInBounds_toArray,List.set_cons_zero,List.set_cons_succ,AZ,Aa]
               rfl
              refine Ah (i:=19) (N:=some 35) (v:= ?_) (a':= ?_) #[true,true,true,true,true,true,true,true,true,true,true,true,true,true,true,true,false,false,true,true,false,false,false,false,false,false,false,false,false,false,false,false,false,false,false] rfl rfl (Ab HT_.out zF) (fun _ _ _ h=>h) (Or.inl ⟨by rfl,?_⟩) ?_ ?_
              rotate_left
              ·intro w'
               go_simp
               with_reducible rfl
              rotate_left
              ·simp only [Act.put,List.setIfInBounds_toArray,List.set_cons_zero,List.set_cons_succ,AZ,Aa]
               rfl
              refine BE (i:=16) (N:=some 32) (v:= ?_) (a':= ?_) #[true,true,true,true,true,true,true,true,true,true,true,true,true,true,true,true,true,false,true,true,false,false,false,false,false,false,false,false,false,false,false,false,false,false,false] rfl rfl (B5 HT_.out HW_.out zF) (fun _ _ _ h=>h) (Or.inl ⟨by rfl,?_⟩) hHeld ?_ ?_
              rotate_left
              ·rintro w' ⟨s0,s1,s2,s3,s4,s5,s6,s7,s8,s9⟩
               go_simp
               with_reducible rfl
              rotate_left
              ·simp only [Act.put,List.setIfInBounds_toArray,List.set_cons_zero,List.set_cons_succ,AZ,Aa]
               rfl
              refine BE (i:=17) (N:=some 33) (v:= ?_) (a':= ?_) #[true,true,true,true,true,true,true,true,true,true,true,true,true,true,true,true,true,true,true,true,false,false,false,false,false,false,false,false,false,false,false,false,false,false,false] rfl rfl (B5 HT_.out HW_.out zF) (fun _ _ _ h=>h) (Or.inl ⟨by rfl,?_⟩) hHeld ?_ ?_
              rotate_left
              ·rintro w' ⟨s0,s1,s2,s3,s4,s5,s6,s7,s8,s9⟩
               go_simp
               with_reducible rfl
              rotate_left
              ·simp only [Act.put,List.setIfInBounds_toArray,List.set_cons_zero,List.set_cons_succ,AZ,Aa]
               rfl
              refine one_ (i:=20) (N:=some 36) #[true,true,true,true,true,true,true,true,true,true,true,true,true,true,true,true,true,true,true,true,true,false,false,false,false,false,false,false,false,false,false,false,false,false,false] rfl rfl (C1 HT_.out zF) zX (fun K hK=> ?_)
              refine CV Try.func30 zF rfl #[.agg #[.int .i64 A8,.slice A0_1 l0_1.length c0_1],.slice (some ad135) l1.length c1,.int .i64 x13_2] (by rfl) rfl rfl zB ?_
              with_reducible refine (Au.calls A8 _ _ l0_1 _ _ l1 x13_2 t138 _ ?side1 ?side2 ?side3 ?side4 A11.out).mono ?_
              (case side1=>repeat (first|exact (Kd.C_below HR0_1.out HB.out)|(with_reducible refine Kd.C_alloc ?_ _)|(with_reducible refine Kd.C_drewN ?_ _)|(with_reducible refine Kd.C_drew ?_)))
              (case side2=>exact HC0_1.out)
              (case side3=>repeat (first|exact (Kd.C_below HR1.out HB.out)|(with_reducible refine Kd.C_alloc ?_ _)|(with_reducible refine Kd.C_drewN ?_ _)|(with_reducible refine Kd.C_drew ?_)))
              (case side4=>exact HC1.out)
              rintro e w19 ⟨rfl,hb⟩
              refine ⟨_,rfl,?_⟩
              have n0_:=Aside0.mk (AN (g:=gb134) (o:= .cells #[.int .i64 A8,.slice A0_1 l0_1.length c0_1] 34 (0,0)) (by (with_reducible repeat (first|refine AF ?_ _|refine AI ?_|refine AG ?_ _)); exact BK134.out) hb)
              have n1_:=Aside0.mk (AO zB5 hb)
              clear BK134
              clear HB
              have BK134:=n0_
              have HB:=n1_
              clear n0_ n1_
              (try clear hb)
              (try clear hb2)
              (try clear hk)
              (try clear hi)
              refine hK.out _ _ ⟨(AK BK134.out 0).trans rfl,(AK BK134.out 1).trans rfl,((HB.out.cell (World.block_lt_of_cell? w _ hw135_0)).trans hw135_0),((HB.out.cell (World.block_lt_of_cell? w _ hw135_1)).trans hw135_1),((HB.out.cell (World.block_lt_of_cell? w _ hw136_0)).trans hw136_0),((HB.out.cell (World.block_lt_of_cell? w _ hw136_1)).trans hw136_1),((HB.out.cell (World.block_lt_of_cell? w _ hw137_0)).trans hw137_0),((HB.out.cell (World.block_lt_of_cell? w _ hw137_1)).trans hw137_1),((HB.out.cell (World.block_lt_of_cell? w _ hw139_0)).trans hw139_0),((HB.out.cell (World.block_lt_of_cell? w _ hw139_1)).trans hw139_1)⟩ (fun hHeld=> ?_)
              clear hK K
              refine C4 (a':= ?_) ?_ ?_
              rotate_left
              ·show Act.put _ (some 36) _=_
               simp only [Act.put,List.setIfInBounds_toArray,List.set_cons_zero,List.set_cons_succ,AZ,Aa]
               rfl
              refine Ah (i:=21) (N:=some 37) (v:= ?_) (a':= ?_) #[true,true,true,true,true,true,true,true,true,true,true,true,true,true,true,true,true,true,true,true,true,true,false,false,false,false,false,false,false,false,false,false,false,false,false] rfl rfl (Ab HT_.out zF) (fun _ _ _ h=>h) (Or.inl ⟨by rfl,?_⟩) ?_ ?_
              rotate_left
              ·intro w'
               go_simp
               with_reducible rfl
              rotate_left
              ·simp only [Act.put,List.setIfInBounds_toArray,List.set_cons_zero,List.set_cons_succ,AZ,Aa]
               rfl
              refine Ah (i:=22) (N:=some 38) (v:= ?_) (a':= ?_) #[true,true,true,true,true,true,true,true,true,true,true,true,true,true,true,true,true,true,true,true,true,true,true,false,false,false,false,false,false,false,false,false,false,false,false] rfl rfl (Ab HT_.out zF) (fun _ _ _ h=>h) (Or.inl ⟨by rfl,?_⟩) ?_ ?_
              rotate_left
              ·intro w'
               go_simp
               with_reducible rfl
              rotate_left
              ·simp only [Act.put,List.setIfInBounds_toArray,List.set_cons_zero,List.set_cons_succ,AZ,Aa]
               rfl
              refine Ah (i:=23) (N:=some 39) (v:= ?_) (a':= ?_) #[true,true,true,true,true,true,true,true,true,true,true,true,true,true,true,true,true,true,true,true,true,true,true,true,false,false,false,false,false,false,false,false,false,false,false] rfl rfl (Ab HT_.out zF) (fun _ _ _ h=>h) (Or.inl ⟨by rfl,?_⟩) ?_ ?_
              rotate_left
              ·intro w'
               go_simp
               with_reducible rfl
              rotate_left
              ·simp only [Act.put,List.setIfInBounds_toArray,List.set_cons_zero,List.set_cons_succ,AZ,Aa]
               rfl
              refine Ah (i:=24) (N:=some 40) (v:= ?_) (a':= ?_) #[true,true,true,true,true,true,true,true,true,true,true,true,true,true,true,true,true,true,true,true,true,true,true,true,true,false,false,false,false,false,false,false,false,false,false] rfl rfl (Ab HT_.out zF) (fun _ _ _ h=>h) (Or.inl ⟨by rfl,?_⟩) ?_ ?_
              rotate_left
              ·intro w'
               go_simp
               with_reducible rfl
              rotate_left
              ·simp only [Act.put,List.setIfInBounds_toArray,List.set_cons_zero,List.set_cons_succ,AZ,Aa]
               rfl
              refine Ah (i:=25) (N:=some 41) (v:= ?_) (a':= ?_) #[true,true,true,true,true,true,true,true,true,true,true,true,true,true,true,true,true,true,true,true,true,true,true,true,true,true,false,false,false,false,false,false,false,false,false] rfl rfl (Ab HT_.out zF) (fun _ _ _ h=>h) (Or.inl ⟨by rfl,?_⟩) ?_ ?_
              rotate_left
              ·intro w'
               go_simp
               with_reducible rfl
              rotate_left
              ·simp only [Act.put,List.setIfInBounds_toArray,List.set_cons_zero,List.set_cons_succ,AZ,Aa]
               rfl
              refine Ah (i:=26) (N:=some 42) (v:= ?_) (a':= ?_) #[true,true,true,true,true,true,true,true,true,true,true,true,true,true,true,true,true,true,true,true,true,true,true,true,true,true,true,false,false,false,false,false,false,false,false] rfl rfl (Ab HT_.out zF) (fun _ _ _ h=>h) (Or.inl ⟨by rfl,?_⟩) ?_ ?_
              rotate_left
              ·intro w'
               go_simp
               with_reducible rfl
              rotate_left
              ·simp only [Act.put,List.setIfInBounds_toArray,List.set_cons_zero,List.set_cons_succ,AZ,Aa]
               rfl
              refine Ah (i:=27) (N:=some 43) (v:= ?_) (a':= ?_) #[true,true,true,true,true,true,true,true,true,true,true,true,true,true,true,true,true,true,true,true,true,true,true,true,true,true,true,true,false,false,false,false,false,false,false] rfl rfl (Ab HT_.out zF) (fun _ _ _ h=>h) (Or.inl ⟨by rfl,?_⟩) ?_ ?_
              rotate_left
              ·intro w'
               go_simp
               with_reducible rfl
              rotate_left
              ·simp only [Act.put,List.setIfInBounds_toArray,List.set_cons_zero,List.set_cons_succ,AZ,Aa]
               rfl
              refine Ah (i:=30) (N:=some 46) (v:= ?_) (a':= ?_) #[true,true,true,true,true,true,true,true,true,true,true,true,true,true,true,true,true,true,true,true,true,true,true,true,true,true,true,true,false,false,true,false,false,false,false] rfl rfl (Ab HT_.out zF) (fun _ _ _ h=>h) (Or.inl ⟨by rfl,?_⟩) ?_ ?_
              rotate_left
              ·intro w'
               go_simp
               with_reducible rfl
              rotate_left
              ·simp only [Act.put,List.setIfInBounds_toArray,List.set_cons_zero,List.set_cons_succ,AZ,Aa]
               rfl
              refine Ah (i:=31) (N:=some 47) (v:= ?_) (a':= ?_) #[true,true,true,true,true,true,true,true,true,true,true,true,true,true,true,true,true,true,true,true,true,true,true,true,true,true,true,true,false,false,true,true,false,false,false] rfl rfl (Ab HT_.out zF) (fun _ _ _ h=>h) (Or.inl ⟨by rfl,?_⟩) ?_ ?_
              rotate_left
              ·intro w'
               go_simp
               with_reducible rfl
              rotate_left
              ·simp only [Act.put,List.setIfInBounds_toArray,List.set_cons_zero,List.set_cons_succ,AZ,Aa]
               rfl
              refine BE (i:=28) (N:=some 44) (v:= ?_) (a':= ?_) #[true,true,true,true,true,true,true,true,true,true,true,true,true,true,true,true,true,true,true,true,true,true,true,true,true,true,true,true,true,false,true,true,false,false,false] rfl rfl (B5 HT_.out HW_.out zF) (fun _ _ _ h=>h) (Or.inl ⟨by rfl,?_⟩) hHeld ?_ ?_
              rotate_left
              ·rintro w' ⟨s0,s1,s2,s3,s4,s5,s6,s7,s8,s9⟩
               go_simp
               with_reducible rfl
              rotate_left
              ·simp only [Act.put,List.setIfInBounds_toArray,List.set_cons_zero,List.set_cons_succ,AZ,Aa]
               rfl
              refine BE (i:=29) (N:=some 45) (v:= ?_) (a':= ?_) #[true,true,true,true,true,true,true,true,true,true,true,true,true,true,true,true,true,true,true,true,true,true,true,true,true,true,true,true,true,true,true,true,false,false,false] rfl rfl (B5 HT_.out HW_.out zF) (fun _ _ _ h=>h) (Or.inl ⟨by rfl,?_⟩) hHeld ?_ ?_
              rotate_left
              ·rintro w' ⟨s0,s1,s2,s3,s4,s5,s6,s7,s8,s9⟩
               go_simp
               with_reducible rfl
              rotate_left
              ·simp only [Act.put,List.setIfInBounds_toArray,List.set_cons_zero,List.set_cons_succ,AZ,Aa]
               rfl
              refine one_ (i:=32) (N:=some 48) #[true,true,true,true,true,true,true,true,true,true,true,true,true,true,true,true,true,true,true,true,true,true,true,true,true,true,true,true,true,true,true,true,true,false,false] rfl rfl (C1 HT_.out zF) zX (fun K hK=> ?_)
              refine CV Try.func30 zF rfl #[.agg #[.int .i64 A8,.slice A0_1 l0_1.length c0_1],.slice (some ad135) l1.length c1,.int .i64 x9_1] (by rfl) rfl rfl zB ?_
              with_reducible refine (Au.calls A8 _ _ l0_1 _ _ l1 x9_1 t140 _ ?side1 ?side2 ?side3 ?side4 A13.out).mono ?_
              (case side1=>repeat (first|exact (Kd.C_below HR0_1.out HB.out)|(with_reducible refine Kd.C_alloc ?_ _)|(with_reducible refine Kd.C_drewN ?_ _)|(with_reducible refine Kd.C_drew ?_)))
              (case side2=>exact HC0_1.out)
              (case side3=>repeat (first|exact (Kd.C_below HR1.out HB.out)|(with_reducible refine Kd.C_alloc ?_ _)|(with_reducible refine Kd.C_drewN ?_ _)|(with_reducible refine Kd.C_drew ?_)))
              (case side4=>exact HC1.out)
              rintro e w20 ⟨rfl,hb⟩
              refine ⟨_,rfl,?_⟩
              have n0_:=Aside0.mk (AN (g:=gb134) (o:= .cells #[.int .i64 A8,.slice A0_1 l0_1.length c0_1] 34 (0,0)) (by (with_reducible repeat (first|refine AF ?_ _|refine AI ?_|refine AG ?_ _)); exact BK134.out) hb)
              have n1_:=Aside0.mk (AO zB5 hb)
              clear BK134
              clear HB
              have BK134:=n0_
              have HB:=n1_
              clear n0_ n1_
              (try clear hb)
              (try clear hb2)
              (try clear hk)
              (try clear hi)
              refine hK.out _ _ ⟨(AK BK134.out 0).trans rfl,(AK BK134.out 1).trans rfl,((HB.out.cell (World.block_lt_of_cell? w _ hw135_0)).trans hw135_0),((HB.out.cell (World.block_lt_of_cell? w _ hw135_1)).trans hw135_1),((HB.out.cell (World.block_lt_of_cell? w _ hw136_0)).trans hw136_0),((HB.out.cell (World.block_lt_of_cell? w _ hw136_1)).trans hw136_1),((HB.out.cell (World.block_lt_of_cell? w _ hw137_0)).trans hw137_0),((HB.out.cell (World.block_lt_of_cell? w _ hw137_1)).trans hw137_1),((HB.out.cell (World.block_lt_of_cell? w _ hw139_0)).trans hw139_0),((HB.out.cell (World.block_lt_of_cell? w _ hw139_1)).trans hw139_1)⟩ (fun hHeld=> ?_)
              clear hK K
              refine C4 (a':= ?_) ?_ ?_
              rotate_left
              ·show Act.put _ (some 48) _=_
               simp only [Act.put,List.setIfInBounds_toArray,List.set_cons_zero,List.set_cons_succ,AZ,Aa]
               rfl
              refine Ah (i:=33) (N:=some 49) (v:= ?_) (a':= ?_) #[true,true,true,true,true,true,true,true,true,true,true,true,true,true,true,true,true,true,true,true,true,true,true,true,true,true,true,true,true,true,true,true,true,true,false] rfl rfl (Ab HT_.out zF) (fun _ _ _ h=>h) (Or.inl ⟨by rfl,?_⟩) ?_ ?_
              rotate_left
              ·intro w'
               go_simp
               with_reducible rfl
              rotate_left
              ·simp only [Act.put,List.setIfInBounds_toArray,List.set_cons_zero,List.set_cons_succ,AZ,Aa]
               rfl
              refine Ah (i:=34) (N:=some 50) (v:= ?_) (a':= ?_) #[true,true,true,true,true,true,true,true,true,true,true,true,true,true,true,true,true,true,true,true,true,true,true,true,true,true,true,true,true,true,true,true,true,true,true] rfl rfl (Ab HT_.out zF) (fun _ _ _ h=>h) (Or.inl ⟨by rfl,?_⟩) ?_ ?_
              rotate_left
              ·intro w'
               go_simp
               with_reducible rfl
              rotate_left
              ·simp only [Act.put,List.setIfInBounds_toArray,List.set_cons_zero,List.set_cons_succ,AZ,Aa]
               rfl
              refine CJ (C0 HT_.out zF) ?_
              try go_wp2
              go_roundg k2
              case measure=>have:=HK1.out; have:=HK2.out; omega
              case rel=>exact ⟨(wrap64 (x13_2+1)),zH,H',⟨by have:=HK1.out; have:=HK2.out; omega⟩,⟨by (with_reducible repeat (first|refine AF ?_ _|refine AI ?_|refine AG ?_ _)); exact BK134.out⟩,⟨by repeat (first|(with_reducible first|exact HB.out|apply AE|apply AC|apply AD|refine AH ?_ GE134.out)|exact HB.out)⟩⟩
            ·rw [if_neg c12] at H
             have c12b0:decide (((Ae l1 x9_1).f1)<t138)=false:=decide_eq_false c12
             clear c12
             have H':=Aside0.mk H
             clear H
             try go_wp2
             have n0_:=Aside0.mk (AI BK134.out)
             have n1_:=Aside0.mk (AD HB.out)
             clear BK134
             clear HB
             have BK134:=n0_
             have HB:=n1_
             clear n0_ n1_
             have p135:0≤(x9_1:Int):=of_decide_eq_true zC
             have q135:x9_1<(l1.length:Int):=of_decide_eq_true zC
             obtain ⟨ad135,e135,hx135_0,hx135_1⟩:=BV HR1.out x9_1 p135 q135
             have hw135_1:=hx135_1
             have hw135_0:=hx135_0
             cases e135
             replace hx135_0:=(HB.out.cell (World.block_lt_of_cell? w _ hx135_0)).trans hx135_0
             replace hx135_1:=(HB.out.cell (World.block_lt_of_cell? w _ hx135_1)).trans hx135_1
             replace p135:=eq_true p135
             replace q135:=eq_true q135
             have p136:0≤(x13_2:Int):=of_decide_eq_true zC
             have q136:x13_2<(l1.length:Int):=of_decide_eq_true zC
             obtain ⟨ad136,e136,hx136_0,hx136_1⟩:=BV HR1.out x13_2 p136 q136
             have hw136_1:=hx136_1
             have hw136_0:=hx136_0
             obtain rfl:ad135=ad136:=(by injection e136)
             replace hx136_0:=(HB.out.cell (World.block_lt_of_cell? w _ hx136_0)).trans hx136_0
             replace hx136_1:=(HB.out.cell (World.block_lt_of_cell? w _ hx136_1)).trans hx136_1
             replace p136:=eq_true p136
             replace q136:=eq_true q136
             have p137:0≤(x9_1:Int):=of_decide_eq_true zC
             have q137:x9_1<(l1.length:Int):=of_decide_eq_true zC
             obtain ⟨ad137,e137,hx137_0,hx137_1⟩:=BV HR1.out x9_1 p137 q137
             have hw137_1:=hx137_1
             have hw137_0:=hx137_0
             obtain rfl:ad135=ad137:=(by injection e137)
             replace hx137_0:=(HB.out.cell (World.block_lt_of_cell? w _ hx137_0)).trans hx137_0
             replace hx137_1:=(HB.out.cell (World.block_lt_of_cell? w _ hx137_1)).trans hx137_1
             replace p137:=eq_true p137
             replace q137:=eq_true q137
             refine Bv (n:=35) (S:=fun w'=>w'.cell? ⟨gb134,0,none⟩=some (.int .i64 A8)∧w'.cell? ⟨gb134,1,none⟩=some (.slice A0_1 l0_1.length c0_1)∧w'.cell? (ad135.add ((x9_1).toNat*2))=some (.int .i64 ((Ae l1 x9_1).f0))∧w'.cell? ⟨(ad135.add ((x9_1).toNat*2)).block,(ad135.add ((x9_1).toNat*2)).off+1,none⟩=some (.int .i64 ((Ae l1 x9_1).f1))∧w'.cell? (ad135.add ((x13_2).toNat*2))=some (.int .i64 ((Ae l1 x13_2).f0))∧w'.cell? ⟨(ad135.add ((x13_2).toNat*2)).block,(ad135.add ((x13_2).toNat*2)).off+1,none⟩=some (.int .i64 ((Ae l1 x13_2).f1))∧w'.cell? (ad135.add ((x9_1).toNat*2))=some (.int .i64 ((Ae l1 x9_1).f0))∧w'.cell? ⟨(ad135.add ((x9_1).toNat*2)).block,(ad135.add ((x9_1).toNat*2)).off+1,none⟩=some (.int .i64 ((Ae l1 x9_1).f1))) (ds:=[]) #[false,false,false,false,false,false,false,false,false,false,false,false,false,false,false,false,false,false,false,false,false,false,false,false,false,false,false,false,false,false,false,false,false,false,false] zF rfl rfl ⟨(AK BK134.out 0).trans rfl,(AK BK134.out 1).trans rfl,((HB.out.cell (World.block_lt_of_cell? w _ hw135_0)).trans hw135_0),((HB.out.cell (World.block_lt_of_cell? w _ hw135_1)).trans hw135_1),((HB.out.cell (World.block_lt_of_cell? w _ hw136_0)).trans hw136_0),((HB.out.cell (World.block_lt_of_cell? w _ hw136_1)).trans hw136_1),((HB.out.cell (World.block_lt_of_cell? w _ hw137_0)).trans hw137_0),((HB.out.cell (World.block_lt_of_cell? w _ hw137_1)).trans hw137_1)⟩ (fun hHeld=> ?_); refine Bj AQ.tab7 AQ.bits7 (fun HT_ HW_=> ?_)
             generalize wr.drew=w21 at BK134 HB hx135_0 hx135_1 hx136_0 hx136_1 hx137_0 hx137_1 hHeld ⊢
             refine Ah (i:=0) (N:=some 16) (v:= ?_) (a':= ?_) #[true,false,false,false,false,false,false,false,false,false,false,false,false,false,false,false,false,false,false,false,false,false,false,false,false,false,false,false,false,false,false,false,false,false,false] rfl rfl (Ab HT_.out zF) (fun _ _ _ h=>h) (Or.inl ⟨by rfl,?_⟩) ?_ ?_
             rotate_left
             ·intro w'
              go_simp
              with_reducible rfl
             rotate_left
             ·simp only [Act.put,List.setIfInBounds_toArray,List.set_cons_zero,List.set_cons_succ,AZ,Aa]
              rfl
             refine Ah (i:=1) (N:=some 17) (v:= ?_) (a':= ?_) #[true,true,false,false,false,false,false,false,false,false,false,false,false,false,false,false,false,false,false,false,false,false,false,false,false,false,false,false,false,false,false,false,false,false,false] rfl rfl (Ab HT_.out zF) (fun _ _ _ h=>h) (Or.inl ⟨by rfl,?_⟩) ?_ ?_
             rotate_left
             ·intro w'
              go_simp
              with_reducible rfl
             rotate_left
             ·simp only [Act.put,List.setIfInBounds_toArray,List.set_cons_zero,List.set_cons_succ,AZ,Aa]
              rfl
             refine Ah (i:=2) (N:=some 18) (v:= ?_) (a':= ?_) #[true,true,true,false,false,false,false,false,false,false,false,false,false,false,false,false,false,false,false,false,false,false,false,false,false,false,false,false,false,false,false,false,false,false,false] rfl rfl (Ab HT_.out zF) (fun _ _ _ h=>h) (Or.inl ⟨by rfl,?_⟩) ?_ ?_
             rotate_left
             ·intro w'
              go_simp
              with_reducible rfl
             rotate_left
             ·simp only [Act.put,List.setIfInBounds_toArray,List.set_cons_zero,List.set_cons_succ,AZ,Aa]
              rfl
             refine Ah (i:=3) (N:=some 19) (v:= ?_) (a':= ?_) #[true,true,true,true,false,false,false,false,false,false,false,false,false,false,false,false,false,false,false,false,false,false,false,false,false,false,false,false,false,false,false,false,false,false,false] rfl rfl (Ab HT_.out zF) (fun _ _ _ h=>h) (Or.inl ⟨by rfl,?_⟩) ?_ ?_
             rotate_left
             ·intro w'
              go_simp
              with_reducible rfl
             rotate_left
             ·simp only [Act.put,List.setIfInBounds_toArray,List.set_cons_zero,List.set_cons_succ,AZ,Aa]
              rfl
             refine Ah (i:=5) (N:=some 21) (v:= ?_) (a':= ?_) #[true,true,true,true,false,true,false,false,false,false,false,false,false,false,false,false,false,false,false,false,false,false,false,false,false,false,false,false,false,false,false,false,false,false,false] rfl rfl (Ab HT_.out zF) (fun _ _ _ h=>h) (Or.inl ⟨by rfl,?_⟩) ?_ ?_
             rotate_left
             ·intro w'
              go_simp
              with_reducible rfl
             rotate_left
             ·simp only [Act.put,List.setIfInBounds_toArray,List.set_cons_zero,List.set_cons_succ,AZ,Aa]
              rfl
             refine Ah (i:=6) (N:=some 22) (v:= ?_) (a':= ?_) #[true,true,true,true,false,true,true,false,false,false,false,false,false,false,false,false,false,false,false,false,false,false,false,false,false,false,false,false,false,false,false,false,false,false,false] rfl rfl (Ab HT_.out zF) (fun _ _ _ h=>h) (Or.inl ⟨by rfl,?_⟩) ?_ ?_
             rotate_left
             ·intro w'
              go_simp
              with_reducible rfl
             rotate_left
             ·simp only [Act.put,List.setIfInBounds_toArray,List.set_cons_zero,List.set_cons_succ,AZ,Aa]
              rfl
             refine Ah (i:=7) (N:=some 23) (v:= ?_) (a':= ?_) #[true,true,true,true,false,true,true,true,false,false,false,false,false,false,false,false,false,false,false,false,false,false,false,false,false,false,false,false,false,false,false,false,false,false,false] rfl rfl (Ab HT_.out zF) (fun _ _ _ h=>h) (Or.inl ⟨by rfl,?_⟩) ?_ ?_
             rotate_left
             ·intro w'
              go_simp
              with_reducible rfl
             rotate_left
             ·simp only [Act.put,List.setIfInBounds_toArray,List.set_cons_zero,List.set_cons_succ,AZ,Aa]
              rfl
             refine Ah (i:=8) (N:=some 24) (v:= ?_) (a':= ?_) #[true,true,true,true,false,true,true,true,true,false,false,false,false,false,false,false,false,false,false,false,false,false,false,false,false,false,false,false,false,false,false,false,false,false,false] rfl rfl (Ab HT_.out zF) (fun _ _ _ h=>h) (Or.inl ⟨by rfl,?_⟩) ?_ ?_
             rotate_left
             ·intro w'
              go_simp
              with_reducible rfl
             rotate_left
             ·simp only [Act.put,List.setIfInBounds_toArray,List.set_cons_zero,List.set_cons_succ,AZ,Aa]
              rfl
             refine BE (i:=4) (N:=some 20) (v:= ?_) (a':= ?_) #[true,true,true,true,true,true,true,true,true,false,false,false,false,false,false,false,false,false,false,false,false,false,false,false,false,false,false,false,false,false,false,false,false,false,false] rfl rfl (B5 HT_.out HW_.out zF) (fun _ _ _ h=>h) (Or.inl ⟨by rfl,?_⟩) hHeld ?_ ?_
             rotate_left
             ·rintro w' ⟨s0,s1,s2,s3,s4,s5,s6,s7⟩
              go_simp
              with_reducible rfl
             rotate_left
             ·simp only [Act.put,List.setIfInBounds_toArray,List.set_cons_zero,List.set_cons_succ,AZ,Aa]
              rfl
             refine BE (i:=9) (N:=some 25) (v:= ?_) (a':= ?_) #[true,true,true,true,true,true,true,true,true,true,false,false,false,false,false,false,false,false,false,false,false,false,false,false,false,false,false,false,false,false,false,false,false,false,false] rfl rfl (B5 HT_.out HW_.out zF) (fun _ _ _ h=>h) (Or.inl ⟨by rfl,?_⟩) hHeld ?_ ?_
             rotate_left
             ·rintro w' ⟨s0,s1,s2,s3,s4,s5,s6,s7⟩
              go_simp
              with_reducible rfl
             rotate_left
             ·simp only [Act.put,List.setIfInBounds_toArray,List.set_cons_zero,List.set_cons_succ,AZ,Aa]
              rfl
             refine Ah (i:=10) (N:=some 26) (v:= ?_) (a':= ?_) #[true,true,true,true,true,true,true,true,true,true,true,false,false,false,false,false,false,false,false,false,false,false,false,false,false,false,false,false,false,false,false,false,false,false,false] rfl rfl (Ab HT_.out zF) (fun _ _ _ h=>h) (Or.inl ⟨by rfl,?_⟩) ?_ ?_
             rotate_left
             ·intro w'
              go_simp
              with_reducible rfl
             rotate_left
             ·simp only [Act.put,List.setIfInBounds_toArray,List.set_cons_zero,List.set_cons_succ,AZ,Aa]
              rfl
             refine Ah (i:=11) (N:=some 27) (v:= ?_) (a':= ?_) #[true,true,true,true,true,true,true,true,true,true,true,true,false,false,false,false,false,false,false,false,false,false,false,false,false,false,false,false,false,false,false,false,false,false,false] rfl rfl (Ab HT_.out zF) (fun _ _ _ h=>h) (Or.inl ⟨by rfl,?_⟩) ?_ ?_
             rotate_left
             ·intro w'
              go_simp
              with_reducible rfl
             rotate_left
             ·simp only [Act.put,List.setIfInBounds_toArray,List.set_cons_zero,List.set_cons_succ,AZ,Aa]
              rfl
             refine Ah (i:=12) (N:=some 28) (v:= ?_) (a':= ?_) #[true,true,true,true,true,true,true,true,true,true,true,true,true,false,false,false,false,false,false,false,false,false,false,false,false,false,false,false,false,false,false,false,false,false,false] rfl rfl (Ab HT_.out zF) (fun _ _ _ h=>h) (Or.inl ⟨by rfl,?_⟩) ?_ ?_
             rotate_left
             ·intro w'
              go_simp
              with_reducible rfl
             rotate_left
             ·simp only [Act.put,List.setIfInBounds_toArray,List.set_cons_zero,List.set_cons_succ,AZ,Aa]
              rfl
             refine Ah (i:=13) (N:=some 29) (v:= ?_) (a':= ?_) #[true,true,true,true,true,true,true,true,true,true,true,true,true,true,false,false,false,false,false,false,false,false,false,false,false,false,false,false,false,false,false,false,false,false,false] rfl rfl (Ab HT_.out zF) (fun _ _ _ h=>h) (Or.inl ⟨by rfl,?_⟩) ?_ ?_
             rotate_left
             ·intro w'
              go_simp
              with_reducible rfl
             rotate_left
             ·simp only [Act.put,List.setIfInBounds_toArray,List.set_cons_zero,List.set_cons_succ,AZ,Aa]
              rfl
             refine Ah (i:=14) (N:=some 30) (v:= ?_) (a':= ?_) #[true,true,true,true,true,true,true,true,true,true,true,true,true,true,true,false,false,false,false,false,false,false,false,false,false,false,false,false,false,false,false,false,false,false,false] rfl rfl (Ab HT_.out zF) (fun _ _ _ h=>h) (Or.inl ⟨by rfl,?_⟩) ?_ ?_
             rotate_left
             ·intro w'
              go_simp
              with_reducible rfl
             rotate_left
             ·simp only [Act.put,List.setIfInBounds_toArray,List.set_cons_zero,List.set_cons_succ,AZ,Aa]
              rfl
             refine Ah (i:=15) (N:=some 31) (v:= ?_) (a':= ?_) #[true,true,true,true,true,true,true,true,true,true,true,true,true,true,true,true,false,false,false,false,false,false,false,false,false,false,false,false,false,false,false,false,false,false,false] rfl rfl (Ab HT_.out zF) (fun _ _ _ h=>h) (Or.inl ⟨by rfl,?_⟩) ?_ ?_
             rotate_left
             ·intro w'
              go_simp
              with_reducible rfl
             rotate_left
             ·simp only [Act.put,List.setIfInBounds_toArray,List.set_cons_zero,List.set_cons_succ,AZ,Aa]
              rfl
             refine Ah (i:=18) (N:=some 34) (v:= ?_) (a':= ?_) #[true,true,true,true,true,true,true,true,true,true,true,true,true,true,true,true,false,false,true,false,false,false,false,false,false,false,false,false,false,false,false,false,false,false,false] rfl rfl (Ab HT_.out zF) (fun _ _ _ h=>h) (Or.inl ⟨by rfl,?_⟩) ?_ ?_
             rotate_left
             ·intro w'
              go_simp
              with_reducible rfl
             rotate_left
             ·simp only [Act.put,List.setIfInBounds_toArray,List.set_cons_zero,List.set_cons_succ,AZ,Aa]
              rfl
             refine Ah (i:=19) (N:=some 35) (v:= ?_) (a':= ?_) #[true,true,true,true,true,true,true,true,true,true,true,true,true,true,true,true,false,false,true,true,false,false,false,false,false,false,false,false,false,false,false,false,false,false,false] rfl rfl (Ab HT_.out zF) (fun _ _ _ h=>h) (Or.inl ⟨by rfl,?_⟩) ?_ ?_
             rotate_left
             ·intro w'
              go_simp
              with_reducible rfl
             rotate_left
             ·simp only [Act.put,List.setIfInBounds_toArray,List.set_cons_zero,List.set_cons_succ,AZ,Aa]
              rfl
             refine BE (i:=16) (N:=some 32) (v:= ?_) (a':= ?_) #[true,true,true,true,true,true,true,true,true,true,true,true,true,true,true,true,true,false,true,true,false,false,false,false,false,false,false,false,false,false,false,false,false,false,false] rfl rfl (B5 HT_.out HW_.out zF) (fun _ _ _ h=>h) (Or.inl ⟨by rfl,?_⟩) hHeld ?_ ?_
             rotate_left
             ·rintro w' ⟨s0,s1,s2,s3,s4,s5,s6,s7⟩
              go_simp
              with_reducible rfl
             rotate_left
             ·simp only [Act.put,List.setIfInBounds_toArray,List.set_cons_zero,List.set_cons_succ,AZ,Aa]
              rfl
             refine BE (i:=17) (N:=some 33) (v:= ?_) (a':= ?_) #[true,true,true,true,true,true,true,true,true,true,true,true,true,true,true,true,true,true,true,true,false,false,false,false,false,false,false,false,false,false,false,false,false,false,false] rfl rfl (B5 HT_.out HW_.out zF) (fun _ _ _ h=>h) (Or.inl ⟨by rfl,?_⟩) hHeld ?_ ?_
             rotate_left
             ·rintro w' ⟨s0,s1,s2,s3,s4,s5,s6,s7⟩
              go_simp
              with_reducible rfl
             rotate_left
             ·simp only [Act.put,List.setIfInBounds_toArray,List.set_cons_zero,List.set_cons_succ,AZ,Aa]
              rfl
             refine one_ (i:=20) (N:=some 36) #[true,true,true,true,true,true,true,true,true,true,true,true,true,true,true,true,true,true,true,true,true,false,false,false,false,false,false,false,false,false,false,false,false,false,false] rfl rfl (C1 HT_.out zF) zX (fun K hK=> ?_)
             refine CV Try.func30 zF rfl #[.agg #[.int .i64 A8,.slice A0_1 l0_1.length c0_1],.slice (some ad135) l1.length c1,.int .i64 x13_2] (by rfl) rfl rfl zB ?_
             with_reducible refine (Au.calls A8 _ _ l0_1 _ _ l1 x13_2 t138 _ ?side1 ?side2 ?side3 ?side4 A11.out).mono ?_
             (case side1=>repeat (first|exact (Kd.C_below HR0_1.out HB.out)|(with_reducible refine Kd.C_alloc ?_ _)|(with_reducible refine Kd.C_drewN ?_ _)|(with_reducible refine Kd.C_drew ?_)))
             (case side2=>exact HC0_1.out)
             (case side3=>repeat (first|exact (Kd.C_below HR1.out HB.out)|(with_reducible refine Kd.C_alloc ?_ _)|(with_reducible refine Kd.C_drewN ?_ _)|(with_reducible refine Kd.C_drew ?_)))
             (case side4=>exact HC1.out)
             rintro e w22 ⟨rfl,hb⟩
             refine ⟨_,rfl,?_⟩
             have n0_:=Aside0.mk (AN (g:=gb134) (o:= .cells #[.int .i64 A8,.slice A0_1 l0_1.length c0_1] 34 (0,0)) (by (with_reducible repeat (first|refine AF ?_ _|refine AI ?_|refine AG ?_ _)); exact BK134.out) hb)
             have n1_:=Aside0.mk (AO zB5 hb)
             clear BK134
             clear HB
             have BK134:=n0_
             have HB:=n1_
             clear n0_ n1_
             (try clear hb)
             (try clear hb2)
             (try clear hk)
             (try clear hi)
             refine hK.out _ _ ⟨(AK BK134.out 0).trans rfl,(AK BK134.out 1).trans rfl,((HB.out.cell (World.block_lt_of_cell? w _ hw135_0)).trans hw135_0),((HB.out.cell (World.block_lt_of_cell? w _ hw135_1)).trans hw135_1),((HB.out.cell (World.block_lt_of_cell? w _ hw136_0)).trans hw136_0),((HB.out.cell (World.block_lt_of_cell? w _ hw136_1)).trans hw136_1),((HB.out.cell (World.block_lt_of_cell? w _ hw137_0)).trans hw137_0),((HB.out.cell (World.block_lt_of_cell? w _ hw137_1)).trans hw137_1)⟩ (fun hHeld=> ?_)
             clear hK K
             refine C4 (a':= ?_) ?_ ?_
             rotate_left
             ·show Act.put _ (some 36) _=_
              simp only [Act.put,List.setIfInBounds_toArray,List.set_cons_zero,List.set_cons_succ,AZ,Aa]
              rfl
             refine Ah (i:=21) (N:=some 37) (v:= ?_) (a':= ?_) #[true,true,true,true,true,true,true,true,true,true,true,true,true,true,true,true,true,true,true,true,true,true,false,false,false,false,false,false,false,false,false,false,false,false,false] rfl rfl (Ab HT_.out zF) (fun _ _ _ h=>h) (Or.inl ⟨by rfl,?_⟩) ?_ ?_
             rotate_left
             ·intro w'
              go_simp
              with_reducible rfl
             rotate_left
             ·simp only [Act.put,List.setIfInBounds_toArray,List.set_cons_zero,List.set_cons_succ,AZ,Aa]
              rfl
             refine Ah (i:=22) (N:=some 38) (v:= ?_) (a':= ?_) #[true,true,true,true,true,true,true,true,true,true,true,true,true,true,true,true,true,true,true,true,true,true,true,false,false,false,false,false,false,false,false,false,false,false,false] rfl rfl (Ab HT_.out zF) (fun _ _ _ h=>h) (Or.inl ⟨by rfl,?_⟩) ?_ ?_
             rotate_left
             ·intro w'
              go_simp
              with_reducible rfl
             rotate_left
             ·simp only [Act.put,List.setIfInBounds_toArray,List.set_cons_zero,List.set_cons_succ,AZ,Aa]
              rfl
             refine Ah (i:=23) (N:=some 39) (v:= ?_) (a':= ?_) #[true,true,true,true,true,true,true,true,true,true,true,true,true,true,true,true,true,true,true,true,true,true,true,true,false,false,false,false,false,false,false,false,false,false,false] rfl rfl (Ab HT_.out zF) (fun _ _ _ h=>h) (Or.inl ⟨by rfl,?_⟩) ?_ ?_
             rotate_left
             ·intro w'
              go_simp
              with_reducible rfl
             rotate_left
             ·simp only [Act.put,List.setIfInBounds_toArray,List.set_cons_zero,List.set_cons_succ,AZ,Aa]
              rfl
             refine Ah (i:=24) (N:=some 40) (v:=undef) (a':= ?_) #[true,true,true,true,true,true,true,true,true,true,true,true,true,true,true,true,true,true,true,true,true,true,true,true,true,false,false,false,false,false,false,false,false,false,false] rfl rfl (Ab HT_.out zF) (fun _ _ _ h=>h) (Or.inr ⟨by rfl,rfl⟩) ?_ ?_
             rotate_left
             ·simp only [Act.put,List.setIfInBounds_toArray,List.set_cons_zero,List.set_cons_succ,AZ,Aa]
              rfl
             refine Ah (i:=25) (N:=some 41) (v:=undef) (a':= ?_) #[true,true,true,true,true,true,true,true,true,true,true,true,true,true,true,true,true,true,true,true,true,true,true,true,true,true,false,false,false,false,false,false,false,false,false] rfl rfl (Ab HT_.out zF) (fun _ _ _ h=>h) (Or.inr ⟨by rfl,rfl⟩) ?_ ?_
             rotate_left
             ·simp only [Act.put,List.setIfInBounds_toArray,List.set_cons_zero,List.set_cons_succ,AZ,Aa]
              rfl
             refine Ah (i:=26) (N:=some 42) (v:=undef) (a':= ?_) #[true,true,true,true,true,true,true,true,true,true,true,true,true,true,true,true,true,true,true,true,true,true,true,true,true,true,true,false,false,false,false,false,false,false,false] rfl rfl (Ab HT_.out zF) (fun _ _ _ h=>h) (Or.inr ⟨by rfl,rfl⟩) ?_ ?_
             rotate_left
             ·simp only [Act.put,List.setIfInBounds_toArray,List.set_cons_zero,List.set_cons_succ,AZ,Aa]
              rfl
             refine Ah (i:=27) (N:=some 43) (v:=undef) (a':= ?_) #[true,true,true,true,true,true,true,true,true,true,true,true,true,true,true,true,true,true,true,true,true,true,true,true,true,true,true,true,false,false,false,false,false,false,false] rfl rfl (Ab HT_.out zF) (fun _ _ _ h=>h) (Or.inr ⟨by rfl,rfl⟩) ?_ ?_
             rotate_left
             ·simp only [Act.put,List.setIfInBounds_toArray,List.set_cons_zero,List.set_cons_succ,AZ,Aa]
              rfl
             refine Ah (i:=28) (N:=some 44) (v:=undef) (a':= ?_) #[true,true,true,true,true,true,true,true,true,true,true,true,true,true,true,true,true,true,true,true,true,true,true,true,true,true,true,true,true,false,false,false,false,false,false] rfl rfl (Ab HT_.out zF) (fun _ _ _ h=>h) (Or.inr ⟨by rfl,rfl⟩) ?_ ?_
             rotate_left
             ·simp only [Act.put,List.setIfInBounds_toArray,List.set_cons_zero,List.set_cons_succ,AZ,Aa]
              rfl
             refine Ah (i:=29) (N:=some 45) (v:=undef) (a':= ?_) #[true,true,true,true,true,true,true,true,true,true,true,true,true,true,true,true,true,true,true,true,true,true,true,true,true,true,true,true,true,true,false,false,false,false,false] rfl rfl (Ab HT_.out zF) (fun _ _ _ h=>h) (Or.inr ⟨by rfl,rfl⟩) ?_ ?_
             rotate_left
             ·simp only [Act.put,List.setIfInBounds_toArray,List.set_cons_zero,List.set_cons_succ,AZ,Aa]
              rfl
             refine Ah (i:=30) (N:=some 46) (v:=undef) (a':= ?_) #[true,true,true,true,true,true,true,true,true,true,true,true,true,true,true,true,true,true,true,true,true,true,true,true,true,true,true,true,true,true,true,false,false,false,false] rfl rfl (Ab HT_.out zF) (fun _ _ _ h=>h) (Or.inr ⟨by rfl,rfl⟩) ?_ ?_
             rotate_left
             ·simp only [Act.put,List.setIfInBounds_toArray,List.set_cons_zero,List.set_cons_succ,AZ,Aa]
              rfl
             refine Ah (i:=31) (N:=some 47) (v:=undef) (a':= ?_) #[true,true,true,true,true,true,true,true,true,true,true,true,true,true,true,true,true,true,true,true,true,true,true,true,true,true,true,true,true,true,true,true,false,false,false] rfl rfl (Ab HT_.out zF) (fun _ _ _ h=>h) (Or.inr ⟨by rfl,rfl⟩) ?_ ?_
             rotate_left
             ·simp only [Act.put,List.setIfInBounds_toArray,List.set_cons_zero,List.set_cons_succ,AZ,Aa]
              rfl
             refine Ah (i:=32) (N:=some 48) (v:=undef) (a':= ?_) #[true,true,true,true,true,true,true,true,true,true,true,true,true,true,true,true,true,true,true,true,true,true,true,true,true,true,true,true,true,true,true,true,true,false,false] rfl rfl (Ab HT_.out zF) (fun _ _ _ h=>h) (Or.inr ⟨by rfl,rfl⟩) ?_ ?_
             rotate_left
             ·simp only [Act.put,List.setIfInBounds_toArray,List.set_cons_zero,List.set_cons_succ,AZ,Aa]
              rfl
             refine Ah (i:=33) (N:=some 49) (v:=undef) (a':= ?_) #[true,true,true,true,true,true,true,true,true,true,true,true,true,true,true,true,true,true,true,true,true,true,true,true,true,true,true,true,true,true,true,true,true,true,false] rfl rfl (Ab HT_.out zF) (fun _ _ _ h=>h) (Or.inr ⟨by rfl,rfl⟩) ?_ ?_
             rotate_left
             ·simp only [Act.put,List.setIfInBounds_toArray,List.set_cons_zero,List.set_cons_succ,AZ,Aa]
              rfl
             refine Ah (i:=34) (N:=some 50) (v:= ?_) (a':= ?_) #[true,true,true,true,true,true,true,true,true,true,true,true,true,true,true,true,true,true,true,true,true,true,true,true,true,true,true,true,true,true,true,true,true,true,true] rfl rfl (Ab HT_.out zF) (fun _ _ _ h=>h) (Or.inl ⟨by rfl,?_⟩) ?_ ?_
             rotate_left
             ·intro w'
              go_simp
              with_reducible rfl
             rotate_left
             ·simp only [Act.put,List.setIfInBounds_toArray,List.set_cons_zero,List.set_cons_succ,AZ,Aa]
              rfl
             refine CJ (C0 HT_.out zF) ?_
             try go_wp2
             go_roundg k2
             case measure=>have:=HK1.out; have:=HK2.out; omega
             case rel=>exact ⟨(wrap64 (x13_2+1)),zH,H',⟨by have:=HK1.out; have:=HK2.out; omega⟩,⟨by (with_reducible repeat (first|refine AF ?_ _|refine AI ?_|refine AG ?_ _)); exact BK134.out⟩,⟨by repeat (first|(with_reducible first|exact HB.out|apply AE|apply AC|apply AD|refine AH ?_ GE134.out)|exact HB.out)⟩⟩
           ·rw [if_neg c10] at H
            have c10b0:(((Ae l1 x9_1).f0)==((Ae l1 x13_2).f0))=false:=beq_eq_false_iff_ne.mpr c10
            have c10b1:(((Ae l1 x9_1).f0) !=((Ae l1 x13_2).f0))=true:=bne_iff_ne.mpr c10
            have H':=Aside0.mk H
            clear H
            try go_wp2
            have n0_:=Aside0.mk (AI BK134.out)
            have n1_:=Aside0.mk (AD HB.out)
            clear BK134
            clear HB
            have BK134:=n0_
            have HB:=n1_
            clear n0_ n1_
            have p135:0≤(x9_1:Int):=of_decide_eq_true zC
            have q135:x9_1<(l1.length:Int):=of_decide_eq_true zC
            obtain ⟨ad135,e135,hx135_0,hx135_1⟩:=BV HR1.out x9_1 p135 q135
            have hw135_1:=hx135_1
            have hw135_0:=hx135_0
            cases e135
            replace hx135_0:=(HB.out.cell (World.block_lt_of_cell? w _ hx135_0)).trans hx135_0
            replace hx135_1:=(HB.out.cell (World.block_lt_of_cell? w _ hx135_1)).trans hx135_1
            replace p135:=eq_true p135
            replace q135:=eq_true q135
            have p136:0≤(x13_2:Int):=of_decide_eq_true zC
            have q136:x13_2<(l1.length:Int):=of_decide_eq_true zC
            obtain ⟨ad136,e136,hx136_0,hx136_1⟩:=BV HR1.out x13_2 p136 q136
            have hw136_1:=hx136_1
            have hw136_0:=hx136_0
            obtain rfl:ad135=ad136:=(by injection e136)
            replace hx136_0:=(HB.out.cell (World.block_lt_of_cell? w _ hx136_0)).trans hx136_0
            replace hx136_1:=(HB.out.cell (World.block_lt_of_cell? w _ hx136_1)).trans hx136_1
            replace p136:=eq_true p136
            replace q136:=eq_true q136
            refine Bv (n:=35) (S:=fun w'=>w'.cell? (ad135.add ((x9_1).toNat*2))=some (.int .i64 ((Ae l1 x9_1).f0))∧w'.cell? ⟨(ad135.add ((x9_1).toNat*2)).block,(ad135.add ((x9_1).toNat*2)).off+1,none⟩=some (.int .i64 ((Ae l1 x9_1).f1))∧w'.cell? (ad135.add ((x13_2).toNat*2))=some (.int .i64 ((Ae l1 x13_2).f0))∧w'.cell? ⟨(ad135.add ((x13_2).toNat*2)).block,(ad135.add ((x13_2).toNat*2)).off+1,none⟩=some (.int .i64 ((Ae l1 x13_2).f1))) (ds:=[]) #[false,false,false,false,false,false,false,false,false,false,false,false,false,false,false,false,false,false,false,false,false,false,false,false,false,false,false,false,false,false,false,false,false,false,false] zF rfl rfl ⟨((HB.out.cell (World.block_lt_of_cell? w _ hw135_0)).trans hw135_0),((HB.out.cell (World.block_lt_of_cell? w _ hw135_1)).trans hw135_1),((HB.out.cell (World.block_lt_of_cell? w _ hw136_0)).trans hw136_0),((HB.out.cell (World.block_lt_of_cell? w _ hw136_1)).trans hw136_1)⟩ (fun hHeld=> ?_); refine Bj AQ.tab7 AQ.bits7 (fun HT_ HW_=> ?_)
            generalize wr.drew=w23 at BK134 HB hx135_0 hx135_1 hx136_0 hx136_1 hHeld ⊢
            refine Ah (i:=0) (N:=some 16) (v:= ?_) (a':= ?_) #[true,false,false,false,false,false,false,false,false,false,false,false,false,false,false,false,false,false,false,false,false,false,false,false,false,false,false,false,false,false,false,false,false,false,false] rfl rfl (Ab HT_.out zF) (fun _ _ _ h=>h) (Or.inl ⟨by rfl,?_⟩) ?_ ?_
            rotate_left
            ·intro w'
             go_simp
             with_reducible rfl
            rotate_left
            ·simp only [Act.put,List.setIfInBounds_toArray,List.set_cons_zero,List.set_cons_succ,AZ,Aa]
             rfl
            refine Ah (i:=1) (N:=some 17) (v:= ?_) (a':= ?_) #[true,true,false,false,false,false,false,false,false,false,false,false,false,false,false,false,false,false,false,false,false,false,false,false,false,false,false,false,false,false,false,false,false,false,false] rfl rfl (Ab HT_.out zF) (fun _ _ _ h=>h) (Or.inl ⟨by rfl,?_⟩) ?_ ?_
            rotate_left
            ·intro w'
             go_simp
             with_reducible rfl
            rotate_left
            ·simp only [Act.put,List.setIfInBounds_toArray,List.set_cons_zero,List.set_cons_succ,AZ,Aa]
             rfl
            refine Ah (i:=2) (N:=some 18) (v:= ?_) (a':= ?_) #[true,true,true,false,false,false,false,false,false,false,false,false,false,false,false,false,false,false,false,false,false,false,false,false,false,false,false,false,false,false,false,false,false,false,false] rfl rfl (Ab HT_.out zF) (fun _ _ _ h=>h) (Or.inl ⟨by rfl,?_⟩) ?_ ?_
            rotate_left
            ·intro w'
             go_simp
             with_reducible rfl
            rotate_left
            ·simp only [Act.put,List.setIfInBounds_toArray,List.set_cons_zero,List.set_cons_succ,AZ,Aa]
             rfl
            refine Ah (i:=3) (N:=some 19) (v:= ?_) (a':= ?_) #[true,true,true,true,false,false,false,false,false,false,false,false,false,false,false,false,false,false,false,false,false,false,false,false,false,false,false,false,false,false,false,false,false,false,false] rfl rfl (Ab HT_.out zF) (fun _ _ _ h=>h) (Or.inl ⟨by rfl,?_⟩) ?_ ?_
            rotate_left
            ·intro w'
             go_simp
             with_reducible rfl
            rotate_left
            ·simp only [Act.put,List.setIfInBounds_toArray,List.set_cons_zero,List.set_cons_succ,AZ,Aa]
             rfl
            refine Ah (i:=5) (N:=some 21) (v:= ?_) (a':= ?_) #[true,true,true,true,false,true,false,false,false,false,false,false,false,false,false,false,false,false,false,false,false,false,false,false,false,false,false,false,false,false,false,false,false,false,false] rfl rfl (Ab HT_.out zF) (fun _ _ _ h=>h) (Or.inl ⟨by rfl,?_⟩) ?_ ?_
            rotate_left
            ·intro w'
             go_simp
             with_reducible rfl
            rotate_left
            ·simp only [Act.put,List.setIfInBounds_toArray,List.set_cons_zero,List.set_cons_succ,AZ,Aa]
             rfl
            refine Ah (i:=6) (N:=some 22) (v:= ?_) (a':= ?_) #[true,true,true,true,false,true,true,false,false,false,false,false,false,false,false,false,false,false,false,false,false,false,false,false,false,false,false,false,false,false,false,false,false,false,false] rfl rfl (Ab HT_.out zF) (fun _ _ _ h=>h) (Or.inl ⟨by rfl,?_⟩) ?_ ?_
            rotate_left
            ·intro w'
             go_simp
             with_reducible rfl
            rotate_left
            ·simp only [Act.put,List.setIfInBounds_toArray,List.set_cons_zero,List.set_cons_succ,AZ,Aa]
             rfl
            refine Ah (i:=7) (N:=some 23) (v:= ?_) (a':= ?_) #[true,true,true,true,false,true,true,true,false,false,false,false,false,false,false,false,false,false,false,false,false,false,false,false,false,false,false,false,false,false,false,false,false,false,false] rfl rfl (Ab HT_.out zF) (fun _ _ _ h=>h) (Or.inl ⟨by rfl,?_⟩) ?_ ?_
            rotate_left
            ·intro w'
             go_simp
             with_reducible rfl
            rotate_left
            ·simp only [Act.put,List.setIfInBounds_toArray,List.set_cons_zero,List.set_cons_succ,AZ,Aa]
             rfl
            refine Ah (i:=8) (N:=some 24) (v:= ?_) (a':= ?_) #[true,true,true,true,false,true,true,true,true,false,false,false,false,false,false,false,false,false,false,false,false,false,false,false,false,false,false,false,false,false,false,false,false,false,false] rfl rfl (Ab HT_.out zF) (fun _ _ _ h=>h) (Or.inl ⟨by rfl,?_⟩) ?_ ?_
            rotate_left
            ·intro w'
             go_simp
             with_reducible rfl
            rotate_left
            ·simp only [Act.put,List.setIfInBounds_toArray,List.set_cons_zero,List.set_cons_succ,AZ,Aa]
             rfl
            refine BE (i:=4) (N:=some 20) (v:= ?_) (a':= ?_) #[true,true,true,true,true,true,true,true,true,false,false,false,false,false,false,false,false,false,false,false,false,false,false,false,false,false,false,false,false,false,false,false,false,false,false] rfl rfl (B5 HT_.out HW_.out zF) (fun _ _ _ h=>h) (Or.inl ⟨by rfl,?_⟩) hHeld ?_ ?_
            rotate_left
            ·rintro w' ⟨s0,s1,s2,s3⟩
             go_simp
             with_reducible rfl
            rotate_left
            ·simp only [Act.put,List.setIfInBounds_toArray,List.set_cons_zero,List.set_cons_succ,AZ,Aa]
             rfl
            refine BE (i:=9) (N:=some 25) (v:= ?_) (a':= ?_) #[true,true,true,true,true,true,true,true,true,true,false,false,false,false,false,false,false,false,false,false,false,false,false,false,false,false,false,false,false,false,false,false,false,false,false] rfl rfl (B5 HT_.out HW_.out zF) (fun _ _ _ h=>h) (Or.inl ⟨by rfl,?_⟩) hHeld ?_ ?_
            rotate_left
            ·rintro w' ⟨s0,s1,s2,s3⟩
             go_simp
             with_reducible rfl
            rotate_left
            ·simp only [Act.put,List.setIfInBounds_toArray,List.set_cons_zero,List.set_cons_succ,AZ,Aa]
             rfl
            refine Ah (i:=10) (N:=some 26) (v:= ?_) (a':= ?_) #[true,true,true,true,true,true,true,true,true,true,true,false,false,false,false,false,false,false,false,false,false,false,false,false,false,false,false,false,false,false,false,false,false,false,false] rfl rfl (Ab HT_.out zF) (fun _ _ _ h=>h) (Or.inl ⟨by rfl,?_⟩) ?_ ?_
            rotate_left
            ·intro w'
             go_simp
             with_reducible rfl
            rotate_left
            ·simp only [Act.put,List.setIfInBounds_toArray,List.set_cons_zero,List.set_cons_succ,AZ,Aa]
             rfl
            refine Ah (i:=11) (N:=some 27) (v:= ?_) (a':= ?_) #[true,true,true,true,true,true,true,true,true,true,true,true,false,false,false,false,false,false,false,false,false,false,false,false,false,false,false,false,false,false,false,false,false,false,false] rfl rfl (Ab HT_.out zF) (fun _ _ _ h=>h) (Or.inl ⟨by rfl,?_⟩) ?_ ?_
            rotate_left
            ·intro w'
             go_simp
             with_reducible rfl
            rotate_left
            ·simp only [Act.put,List.setIfInBounds_toArray,List.set_cons_zero,List.set_cons_succ,AZ,Aa]
             rfl
            refine Ah (i:=12) (N:=some 28) (v:=undef) (a':= ?_) #[true,true,true,true,true,true,true,true,true,true,true,true,true,false,false,false,false,false,false,false,false,false,false,false,false,false,false,false,false,false,false,false,false,false,false] rfl rfl (Ab HT_.out zF) (fun _ _ _ h=>h) (Or.inr ⟨by rfl,rfl⟩) ?_ ?_
            rotate_left
            ·simp only [Act.put,List.setIfInBounds_toArray,List.set_cons_zero,List.set_cons_succ,AZ,Aa]
             rfl
            refine Ah (i:=13) (N:=some 29) (v:=undef) (a':= ?_) #[true,true,true,true,true,true,true,true,true,true,true,true,true,true,false,false,false,false,false,false,false,false,false,false,false,false,false,false,false,false,false,false,false,false,false] rfl rfl (Ab HT_.out zF) (fun _ _ _ h=>h) (Or.inr ⟨by rfl,rfl⟩) ?_ ?_
            rotate_left
            ·simp only [Act.put,List.setIfInBounds_toArray,List.set_cons_zero,List.set_cons_succ,AZ,Aa]
             rfl
            refine Ah (i:=14) (N:=some 30) (v:=undef) (a':= ?_) #[true,true,true,true,true,true,true,true,true,true,true,true,true,true,true,false,false,false,false,false,false,false,false,false,false,false,false,false,false,false,false,false,false,false,false] rfl rfl (Ab HT_.out zF) (fun _ _ _ h=>h) (Or.inr ⟨by rfl,rfl⟩) ?_ ?_
            rotate_left
            ·simp only [Act.put,List.setIfInBounds_toArray,List.set_cons_zero,List.set_cons_succ,AZ,Aa]
             rfl
            refine Ah (i:=15) (N:=some 31) (v:=undef) (a':= ?_) #[true,true,true,true,true,true,true,true,true,true,true,true,true,true,true,true,false,false,false,false,false,false,false,false,false,false,false,false,false,false,false,false,false,false,false] rfl rfl (Ab HT_.out zF) (fun _ _ _ h=>h) (Or.inr ⟨by rfl,rfl⟩) ?_ ?_
            rotate_left
            ·simp only [Act.put,List.setIfInBounds_toArray,List.set_cons_zero,List.set_cons_succ,AZ,Aa]
             rfl
            refine Ah (i:=16) (N:=some 32) (v:=undef) (a':= ?_) #[true,true,true,true,true,true,true,true,true,true,true,true,true,true,true,true,true,false,false,false,false,false,false,false,false,false,false,false,false,false,false,false,false,false,false] rfl rfl (Ab HT_.out zF) (fun _ _ _ h=>h) (Or.inr ⟨by rfl,rfl⟩) ?_ ?_
            rotate_left
            ·simp only [Act.put,List.setIfInBounds_toArray,List.set_cons_zero,List.set_cons_succ,AZ,Aa]
             rfl
            refine Ah (i:=17) (N:=some 33) (v:=undef) (a':= ?_) #[true,true,true,true,true,true,true,true,true,true,true,true,true,true,true,true,true,true,false,false,false,false,false,false,false,false,false,false,false,false,false,false,false,false,false] rfl rfl (Ab HT_.out zF) (fun _ _ _ h=>h) (Or.inr ⟨by rfl,rfl⟩) ?_ ?_
            rotate_left
            ·simp only [Act.put,List.setIfInBounds_toArray,List.set_cons_zero,List.set_cons_succ,AZ,Aa]
             rfl
            refine Ah (i:=18) (N:=some 34) (v:=undef) (a':= ?_) #[true,true,true,true,true,true,true,true,true,true,true,true,true,true,true,true,true,true,true,false,false,false,false,false,false,false,false,false,false,false,false,false,false,false,false] rfl rfl (Ab HT_.out zF) (fun _ _ _ h=>h) (Or.inr ⟨by rfl,rfl⟩) ?_ ?_
            rotate_left
            ·simp only [Act.put,List.setIfInBounds_toArray,List.set_cons_zero,List.set_cons_succ,AZ,Aa]
             rfl
            refine Ah (i:=19) (N:=some 35) (v:=undef) (a':= ?_) #[true,true,true,true,true,true,true,true,true,true,true,true,true,true,true,true,true,true,true,true,false,false,false,false,false,false,false,false,false,false,false,false,false,false,false] rfl rfl (Ab HT_.out zF) (fun _ _ _ h=>h) (Or.inr ⟨by rfl,rfl⟩) ?_ ?_
            rotate_left
            ·simp only [Act.put,List.setIfInBounds_toArray,List.set_cons_zero,List.set_cons_succ,AZ,Aa]
             rfl
            refine Ah (i:=20) (N:=some 36) (v:=undef) (a':= ?_) #[true,true,true,true,true,true,true,true,true,true,true,true,true,true,true,true,true,true,true,true,true,false,false,false,false,false,false,false,false,false,false,false,false,false,false] rfl rfl (Ab HT_.out zF) (fun _ _ _ h=>h) (Or.inr ⟨by rfl,rfl⟩) ?_ ?_
            rotate_left
            ·simp only [Act.put,List.setIfInBounds_toArray,List.set_cons_zero,List.set_cons_succ,AZ,Aa]
             rfl
            refine Ah (i:=21) (N:=some 37) (v:=undef) (a':= ?_) #[true,true,true,true,true,true,true,true,true,true,true,true,true,true,true,true,true,true,true,true,true,true,false,false,false,false,false,false,false,false,false,false,false,false,false] rfl rfl (Ab HT_.out zF) (fun _ _ _ h=>h) (Or.inr ⟨by rfl,rfl⟩) ?_ ?_
            rotate_left
            ·simp only [Act.put,List.setIfInBounds_toArray,List.set_cons_zero,List.set_cons_succ,AZ,Aa]
             rfl
            refine Ah (i:=22) (N:=some 38) (v:= ?_) (a':= ?_) #[true,true,true,true,true,true,true,true,true,true,true,true,true,true,true,true,true,true,true,true,true,true,true,false,false,false,false,false,false,false,false,false,false,false,false] rfl rfl (Ab HT_.out zF) (fun _ _ _ h=>h) (Or.inl ⟨by rfl,?_⟩) ?_ ?_
            rotate_left
            ·intro w'
             go_simp
             with_reducible rfl
            rotate_left
            ·simp only [Act.put,List.setIfInBounds_toArray,List.set_cons_zero,List.set_cons_succ,AZ,Aa]
             rfl
            refine Ah (i:=23) (N:=some 39) (v:= ?_) (a':= ?_) #[true,true,true,true,true,true,true,true,true,true,true,true,true,true,true,true,true,true,true,true,true,true,true,true,false,false,false,false,false,false,false,false,false,false,false] rfl rfl (Ab HT_.out zF) (fun _ _ _ h=>h) (Or.inl ⟨by rfl,?_⟩) ?_ ?_
            rotate_left
            ·intro w'
             go_simp
             with_reducible rfl
            rotate_left
            ·simp only [Act.put,List.setIfInBounds_toArray,List.set_cons_zero,List.set_cons_succ,AZ,Aa]
             rfl
            refine Ah (i:=24) (N:=some 40) (v:=undef) (a':= ?_) #[true,true,true,true,true,true,true,true,true,true,true,true,true,true,true,true,true,true,true,true,true,true,true,true,true,false,false,false,false,false,false,false,false,false,false] rfl rfl (Ab HT_.out zF) (fun _ _ _ h=>h) (Or.inr ⟨by rfl,rfl⟩) ?_ ?_
            rotate_left
            ·simp only [Act.put,List.setIfInBounds_toArray,List.set_cons_zero,List.set_cons_succ,AZ,Aa]
             rfl
            refine Ah (i:=25) (N:=some 41) (v:=undef) (a':= ?_) #[true,true,true,true,true,true,true,true,true,true,true,true,true,true,true,true,true,true,true,true,true,true,true,true,true,true,false,false,false,false,false,false,false,false,false] rfl rfl (Ab HT_.out zF) (fun _ _ _ h=>h) (Or.inr ⟨by rfl,rfl⟩) ?_ ?_
            rotate_left
            ·simp only [Act.put,List.setIfInBounds_toArray,List.set_cons_zero,List.set_cons_succ,AZ,Aa]
             rfl
            refine Ah (i:=26) (N:=some 42) (v:=undef) (a':= ?_) #[true,true,true,true,true,true,true,true,true,true,true,true,true,true,true,true,true,true,true,true,true,true,true,true,true,true,true,false,false,false,false,false,false,false,false] rfl rfl (Ab HT_.out zF) (fun _ _ _ h=>h) (Or.inr ⟨by rfl,rfl⟩) ?_ ?_
            rotate_left
            ·simp only [Act.put,List.setIfInBounds_toArray,List.set_cons_zero,List.set_cons_succ,AZ,Aa]
             rfl
            refine Ah (i:=27) (N:=some 43) (v:=undef) (a':= ?_) #[true,true,true,true,true,true,true,true,true,true,true,true,true,true,true,true,true,true,true,true,true,true,true,true,true,true,true,true,false,false,false,false,false,false,false] rfl rfl (Ab HT_.out zF) (fun _ _ _ h=>h) (Or.inr ⟨by rfl,rfl⟩) ?_ ?_
            rotate_left
            ·simp only [Act.put,List.setIfInBounds_toArray,List.set_cons_zero,List.set_cons_succ,AZ,Aa]
             rfl
            refine Ah (i:=28) (N:=some 44) (v:=undef) (a':= ?_) #[true,true,true,true,true,true,true,true,true,true,true,true,true,true,true,true,true,true,true,true,true,true,true,true,true,true,true,true,true,false,false,false,false,false,false] rfl rfl (Ab HT_.out zF) (fun _ _ _ h=>h) (Or.inr ⟨by rfl,rfl⟩) ?_ ?_
            rotate_left
            ·simp only [Act.put,List.setIfInBounds_toArray,List.set_cons_zero,List.set_cons_succ,AZ,Aa]
             rfl
            refine Ah (i:=29) (N:=some 45) (v:=undef) (a':= ?_) #[true,true,true,true,true,true,true,true,true,true,true,true,true,true,true,true,true,true,true,true,true,true,true,true,true,true,true,true,true,true,false,false,false,false,false] rfl rfl (Ab HT_.out zF) (fun _ _ _ h=>h) (Or.inr ⟨by rfl,rfl⟩) ?_ ?_
            rotate_left
            ·simp only [Act.put,List.setIfInBounds_toArray,List.set_cons_zero,List.set_cons_succ,AZ,Aa]
             rfl
            refine Ah (i:=30) (N:=some 46) (v:=undef) (a':= ?_) #[true,true,true,true,true,true,true,true,true,true,true,true,true,true,true,true,true,true,true,true,true,true,true,true,true,true,true,true,true,true,true,false,false,false,false] rfl rfl (Ab HT_.out zF) (fun _ _ _ h=>h) (Or.inr ⟨by rfl,rfl⟩) ?_ ?_
            rotate_left
            ·simp only [Act.put,List.setIfInBounds_toArray,List.set_cons_zero,List.set_cons_succ,AZ,Aa]
             rfl
            refine Ah (i:=31) (N:=some 47) (v:=undef) (a':= ?_) #[true,true,true,true,true,true,true,true,true,true,true,true,true,true,true,true,true,true,true,true,true,true,true,true,true,true,true,true,true,true,true,true,false,false,false] rfl rfl (Ab HT_.out zF) (fun _ _ _ h=>h) (Or.inr ⟨by rfl,rfl⟩) ?_ ?_
            rotate_left
            ·simp only [Act.put,List.setIfInBounds_toArray,List.set_cons_zero,List.set_cons_succ,AZ,Aa]
             rfl
            refine Ah (i:=32) (N:=some 48) (v:=undef) (a':= ?_) #[true,true,true,true,true,true,true,true,true,true,true,true,true,true,true,true,true,true,true,true,true,true,true,true,true,true,true,true,true,true,true,true,true,false,false] rfl rfl (Ab HT_.out zF) (fun _ _ _ h=>h) (Or.inr ⟨by rfl,rfl⟩) ?_ ?_
            rotate_left
            ·simp only [Act.put,List.setIfInBounds_toArray,List.set_cons_zero,List.set_cons_succ,AZ,Aa]
             rfl
            refine Ah (i:=33) (N:=some 49) (v:=undef) (a':= ?_) #[true,true,true,true,true,true,true,true,true,true,true,true,true,true,true,true,true,true,true,true,true,true,true,true,true,true,true,true,true,true,true,true,true,true,false] rfl rfl (Ab HT_.out zF) (fun _ _ _ h=>h) (Or.inr ⟨by rfl,rfl⟩) ?_ ?_
            rotate_left
            ·simp only [Act.put,List.setIfInBounds_toArray,List.set_cons_zero,List.set_cons_succ,AZ,Aa]
             rfl
            refine Ah (i:=34) (N:=some 50) (v:= ?_) (a':= ?_) #[true,true,true,true,true,true,true,true,true,true,true,true,true,true,true,true,true,true,true,true,true,true,true,true,true,true,true,true,true,true,true,true,true,true,true] rfl rfl (Ab HT_.out zF) (fun _ _ _ h=>h) (Or.inl ⟨by rfl,?_⟩) ?_ ?_
            rotate_left
            ·intro w'
             go_simp
             with_reducible rfl
            rotate_left
            ·simp only [Act.put,List.setIfInBounds_toArray,List.set_cons_zero,List.set_cons_succ,AZ,Aa]
             rfl
            refine CJ (C0 HT_.out zF) ?_
            try go_wp2
            go_roundg k2
            case measure=>have:=HK1.out; have:=HK2.out; omega
            case rel=>exact ⟨(wrap64 (x13_2+1)),zH,H',⟨by have:=HK1.out; have:=HK2.out; omega⟩,⟨by (with_reducible repeat (first|refine AF ?_ _|refine AI ?_|refine AG ?_ _)); exact BK134.out⟩,⟨by repeat (first|(with_reducible first|exact HB.out|apply AE|apply AC|apply AD|refine AH ?_ GE134.out)|exact HB.out)⟩⟩
          ·rw [if_neg c9] at H
           exact absurd H zA1
         ·rw [if_neg c8] at H
          exact absurd H zA1
        ·rw [if_neg c7] at H
         exact absurd H zA1
       ·rw [if_neg c6] at H
        exact absurd H zA1
      ·rw [if_neg c5] at H
       have c5b0:decide (x13_2<x9_1)=false:=decide_eq_false c5
       clear c5
       have H':=Aside0.mk H
       clear H
       go_wp2
       go_roundg k2
       case measure=>have:=HK1.out; have:=HK2.out; omega
       case rel=>exact ⟨(wrap64 (x9_1+1)),zH,H',⟨by have:=HK1.out; have:=HK2.out; omega⟩,⟨by (with_reducible repeat (first|refine AF ?_ _|refine AI ?_|refine AG ?_ _)); exact BK134.out⟩,⟨by repeat (first|(with_reducible first|exact HB.out|apply AE|apply AC|apply AD|refine AH ?_ GE134.out)|exact HB.out)⟩⟩
   ·rw [if_neg c4] at H
    have c4b0:decide (x9_1<(l1.length:Int))=false:=decide_eq_false c4
    clear c4
    obtain rfl:=Option.some.inj H
    go_wp2
    go_ret
    exact ⟨by first|rfl|(simp [AY,AX]<;>rfl)|(simp [*,AY,AX]<;>rfl),by repeat (first|(with_reducible first|exact HB.out|apply AE|apply AC|apply AD|refine AH ?_ GE134.out)|exact HB.out)⟩
end Go.Proofs.Ytdadecjefafflaa.PLst
end
