/- A part of what the law's proof leans on. PACKED BY pack.py of this repo. -/
import Derived.Test.YtdadecjefafflaaU2
set_option linter.unusedVariables false
set_option linter.unusedSimpArgs false
set_option linter.defProp false
set_option linter.unusedSectionVars false
section
namespace Go.Proofs.Ytdadecjefafflaa.PLst
set_option maxRecDepth 100000
open Go.RowKit Go.Proofs.YtdadecjefafflaaW.PrintWords Go.Proofs.YtdadecjefafflaaW.PrintLast Go.Proofs.YtdadecjefafflaaW.PrintMore
attribute [local go_sem] BP BN Bb Ba BG BF BO BM
def AR.l0:Nat→List (S47)→Int→Int→Int→Int→List (S64)→Option (Int)
 |0,_,_,_,_,_,_=>none
 |k+1,x1,x5,x20,x21,x194000,x194001=>if x21<x20 then ((Au.f x194000 x194001 x1 x21).bind fun t196=>(if 0≤x21 then (if x21<(x194001.length:Int) then (AR.l0 k x1 (mx x5 (wrap64 (t196-((AL x194001 x21).f2)))) x20 (wrap64 (x21+1)) x194000 x194001) else (none)) else (none))) else (some x5)
def AR.f (k:Nat) (A8:Int) (l0_1:List (S64)) (l1:List (S47)):Option (Int):=if (l1.length:Int)=0 then (some 0) else ((Au.f A8 l0_1 l1 0).bind fun t194=>(if 0<(l0_1.length:Int) then (AR.l0 k l1 (wrap64 (t194-((AL l0_1 0).f2))) (l1.length:Int) 0 A8 l0_1) else (none)))
theorem AR.mono_l:∀k,(∀y0 y1 y2 y3 y4 y5,LeO (AR.l0 k y0 y1 y2 y3 y4 y5) (AR.l0 (k+1) y0 y1 y2 y3 y4 y5))
 |0=>fun _ _ _ _ _ _ r h=>by simp [AR.l0] at h
 | k +1=>by
  have ih0:=AR.mono_l k
  ·intro y0 y1 y2 y3 y4 y5
   unfold AR.l0
   repeat' first
   |(with_reducible exact ih0 _ _ _ _ _ _)
   |(with_reducible exact LeO.refl _)
   |(with_reducible exact LeO.none _)
   |(with_reducible refine LeO.ite ?_ ?_)
   |(with_reducible refine LeO.bind ?_ (fun _=> ?_))
   |exact ih0 _ _ _ _ _ _
   |exact LeO.none _
   |refine LeO.ite ?_ ?_
   |refine LeO.bind ?_ (fun _=> ?_)
theorem AR.mono:∀a0 a1 a2 k,LeO (AR.f k a0 a1 a2) (AR.f (k+1) a0 a1 a2):=by
 intro a0 a1 a2 k
 have ih0:=AR.mono_l k
 unfold AR.f
 repeat' first
  |(with_reducible exact ih0 _ _ _ _ _ _)
  |(with_reducible exact LeO.refl _)
  |(with_reducible exact LeO.none _)
  |(with_reducible refine LeO.ite ?_ ?_)
  |(with_reducible refine LeO.bind ?_ (fun _=> ?_))
  |exact ih0 _ _ _ _ _ _
  |exact LeO.none _
  |refine LeO.ite ?_ ?_
  |refine LeO.bind ?_ (fun _=> ?_)
def AR.T3:Bool×List (List Nat×List Nat):=(true,[([],[]),([],[]),([0,1],[0,1]),([],[]),([3],[3]),([4],[4]),([5],[5]),([6],[6]),([2,7],[2,7]),([8,2,0,1,2,3,4,5,6,7,8],[8])])
def AR.B3:List Nat:=[0,0,3,0,8,24,56,120,255,511]
theorem AR.tab3:rtab .any (EC Try.f33 3)=AR.T3:=by kernel_rfl
theorem AR.bits3:Bs AR.T3.2 AR.B3=true:=by kernel_rfl
def AR.T7:Bool×List (List Nat×List Nat):=(true,[([],[]),([],[]),([],[]),([],[]),([1,2,3],[1,2,3]),([],[]),([5],[5]),([],[]),([6,7],[6,7]),([8],[8]),([9],[9]),([4,10],[4,10]),([0,11],[0,11]),([12,4,0,1,2,3,4,5,6,7,8,9,10,11,12],[0,12])])
def AR.B7:List Nat:=[0,0,0,0,14,0,32,0,224,480,992,2046,4095,8191]
theorem AR.tab7:rtab .any (EC Try.f33 7)=AR.T7:=by kernel_rfl
theorem AR.bits7:Bs AR.T7.2 AR.B7=true:=by kernel_rfl
set_option maxHeartbeats 8000000 in
theorem AR.calls (k:Nat) (A8:Int) (A0_1:Option Addr) (c0_1:Nat) (l0_1:List (S64)) (A1:Option Addr) (c1:Nat) (l1:List (S47)) (r:Int) (w:World) (hr0_1:Kd.C k64 w A0_1 l0_1.length l0_1) (hc0_1:l0_1.length≤c0_1) (hr1:Kd.C k47 w A1 l1.length l1) (hc1:l1.length≤c1) (h:AR.f k A8 l0_1 l1=some r):
  Calls Try.prog 33 #[.agg #[.int .i64 A8,.slice A0_1 l0_1.length c0_1],.slice A1 l1.length c1] w fun e w'=>e= .returned (.int .i64 r)∧Below w.heap.size w w':=by
 have hu34:=Try.underlying34
 have HR0_1:=Aside0.mk hr0_1
 have HC0_1:=Aside0.mk hc0_1
 clear hr0_1 hc0_1
 have HR1:=Aside0.mk hr1
 have HC1:=Aside0.mk hc1
 clear hr1 hc1
 have HB:=Aside0.mk (Below.refl w.heap.size w)
 have H:(if (l1.length:Int)=0 then (some 0) else ((Au.f A8 l0_1 l1 0).bind fun t194=>(if 0<(l0_1.length:Int) then (AR.l0 k l1 (wrap64 (t194-((AL l0_1 0).f2))) (l1.length:Int) 0 A8 l0_1) else (none))))=some r:=h
 clear h
 by_cases c3:(l1.length:Int)=0
 ·rw [if_pos c3] at H
  have c3b0:((l1.length:Int)==0)=true:=beq_iff_eq.mpr c3
  have c3b1:((l1.length:Int) !=0)=false:=bne_eq_false_iff_eq.mpr c3
  clear c3
  obtain rfl:=Option.some.inj H
  go_enter Try.func33,Try.ntmps33
  go_wp2_with (first|((with_reducible refine Am (N:=2) rfl ?_); refine Ak ?hg (N:=2) ?hd (cs:= #[.int .i64 A8,.slice A0_1 l0_1.length c0_1]) (t:=34) ?hr ?_; (case hd=>rfl); (case hg=>rfl); (case hr=>first|(go_simp; done)|(go_simp; rfl)); intro gb193 hg w4 hbox hb; have n0_:=Aside0.mk (AO zA hb); have n1_:=Aside0.mk (hbox); have n2_:=Aside0.mk ((by rw [hg]; exact (AP zA):w.heap.size≤gb193)); have n3_:=Aside0.mk ((by rw [hg]; exact (AP zA):w.heap.size≤gb193)); clear HB; have HB:=n0_; have BK193:=n1_; have GW193:=n2_; have GE193:=n3_; clear n0_ n1_ n2_ n3_; clear hb hbox hg))
  go_ret
  exact ⟨by first|rfl|(simp [AY,AX]<;>rfl)|(simp [*,AY,AX]<;>rfl),by repeat (first|(with_reducible first|exact HB.out|apply AE|apply AC|apply AD|refine AH ?_ GE193.out)|exact HB.out)⟩
 ·rw [if_neg c3] at H
  have c3b0:((l1.length:Int)==0)=false:=beq_eq_false_iff_ne.mpr c3
  have c3b1:((l1.length:Int) !=0)=true:=bne_iff_ne.mpr c3
  have c3b2:¬(l1=[]):=fun h_=>c3 (by rw [h_]; rfl)
  replace H:=Option.bind_eq_some_iff.mp H
  obtain ⟨t194,A50,H⟩:=H
  replace H:(if 0<(l0_1.length:Int) then (AR.l0 k l1 (wrap64 (t194-((AL l0_1 0).f2))) (l1.length:Int) 0 A8 l0_1) else (none))=some r:=H
  have A5:=Aside0.mk A50
  clear A50
  by_cases c6:0<(l0_1.length:Int)
  ·rw [if_pos c6] at H
   have c6b0:decide (0<(l0_1.length:Int))=true:=decide_eq_true c6
   have c6b1:decide (0<l0_1.length)=true:=decide_eq_true zD
   clear c6
   have H':=Aside0.mk H
   clear H
   go_enter Try.func33,Try.ntmps33
   try go_wp2_with (first|((with_reducible refine Am (N:=2) rfl ?_); refine Ak ?hg (N:=2) ?hd (cs:= #[.int .i64 A8,.slice A0_1 l0_1.length c0_1]) (t:=34) ?hr ?_; (case hd=>rfl); (case hg=>rfl); (case hr=>first|(go_simp; done)|(go_simp; rfl)); intro gb193 hg w7 hbox hb; have n0_:=Aside0.mk (AO zA hb); have n1_:=Aside0.mk (hbox); have n2_:=Aside0.mk ((by rw [hg]; exact (AP zA):w.heap.size≤gb193)); have n3_:=Aside0.mk ((by rw [hg]; exact (AP zA):w.heap.size≤gb193)); clear HB; have HB:=n0_; have BK193:=n1_; have GW193:=n2_; have GE193:=n3_; clear n0_ n1_ n2_ n3_; clear hb hbox hg))
   have n0_:=Aside0.mk (AI BK193.out)
   have n1_:=Aside0.mk (AD HB.out)
   clear BK193
   clear HB
   have BK193:=n0_
   have HB:=n1_
   clear n0_ n1_
   have p195:0≤(0:Int):=zD
   have q195:0<(l0_1.length:Int):=of_decide_eq_true zC
   obtain ⟨ad195,A195_3,c195_3,e195,hx195_0,hx195_1,hx195_2,hx195_3,hl195_3,hi195_3⟩:=Bi HR0_1.out 0 p195 q195
   have hw195_3:=hx195_3
   (try rw [show ((0:Int)).toNat=0 from rfl] at hw195_3)
   (try rw [show 0*4=0 from rfl] at hw195_3)
   (try rw [Addr.add_zero'] at hw195_3)
   have hw195_2:=hx195_2
   (try rw [show ((0:Int)).toNat=0 from rfl] at hw195_2)
   (try rw [show 0*4=0 from rfl] at hw195_2)
   (try rw [Addr.add_zero'] at hw195_2)
   have hw195_1:=hx195_1
   (try rw [show ((0:Int)).toNat=0 from rfl] at hw195_1)
   (try rw [show 0*4=0 from rfl] at hw195_1)
   (try rw [Addr.add_zero'] at hw195_1)
   have hw195_0:=hx195_0
   (try rw [show ((0:Int)).toNat=0 from rfl] at hw195_0)
   (try rw [show 0*4=0 from rfl] at hw195_0)
   (try rw [Addr.add_zero'] at hw195_0)
   cases e195
   have qi195:(0<l0_1.length)=True:=eq_true zD
   (try rw [show ((0:Int)).toNat=0 from rfl] at hx195_0)
   (try rw [show 0*4=0 from rfl] at hx195_0)
   (try rw [Addr.add_zero'] at hx195_0)
   (try rw [show ((0:Int)).toNat=0 from rfl] at hx195_1)
   (try rw [show 0*4=0 from rfl] at hx195_1)
   (try rw [Addr.add_zero'] at hx195_1)
   (try rw [show ((0:Int)).toNat=0 from rfl] at hx195_2)
   (try rw [show 0*4=0 from rfl] at hx195_2)
   (try rw [Addr.add_zero'] at hx195_2)
   (try rw [show ((0:Int)).toNat=0 from rfl] at hx195_3)
   (try rw [show 0*4=0 from rfl] at hx195_3)
   (try rw [Addr.add_zero'] at hx195_3)
   replace hx195_0:=(HB.out.cell (World.block_lt_of_cell? w _ hx195_0)).trans hx195_0
   replace hx195_1:=(HB.out.cell (World.block_lt_of_cell? w _ hx195_1)).trans hx195_1
   replace hx195_2:=(HB.out.cell (World.block_lt_of_cell? w _ hx195_2)).trans hx195_2
   replace hx195_3:=(HB.out.cell (World.block_lt_of_cell? w _ hx195_3)).trans hx195_3
   have HR195_3:=Aside0.mk hi195_3
   have HC195_3:=Aside0.mk hl195_3
   clear hi195_3 hl195_3
   replace p195:=eq_true p195
   replace q195:=eq_true q195
   refine Bv (n:=10) (S:=fun w'=>w'.cell? ⟨gb193,0,none⟩=some (.int .i64 A8)∧w'.cell? ⟨gb193,1,none⟩=some (.slice (some ad195) l0_1.length c0_1)∧w'.cell? ad195=some (.string ((AL l0_1 0).f0))∧w'.cell? ⟨ad195.block,ad195.off+1,none⟩=some (.int .i64 ((AL l0_1 0).f1))∧w'.cell? ⟨ad195.block,ad195.off+2,none⟩=some (.int .i64 ((AL l0_1 0).f2))∧w'.cell? ⟨ad195.block,ad195.off+3,none⟩=some (.slice A195_3 ((AL l0_1 0).f3).length c195_3)) (ds:=[]) #[false,false,false,false,false,false,false,false,false,false] zF rfl rfl ⟨(AK BK193.out 0).trans rfl,(AK BK193.out 1).trans rfl,((HB.out.cell (World.block_lt_of_cell? w _ hw195_0)).trans hw195_0),((HB.out.cell (World.block_lt_of_cell? w _ hw195_1)).trans hw195_1),((HB.out.cell (World.block_lt_of_cell? w _ hw195_2)).trans hw195_2),((HB.out.cell (World.block_lt_of_cell? w _ hw195_3)).trans hw195_3)⟩ (fun hHeld=> ?_); refine Bj AR.tab3 AR.bits3 (fun HT_ HW_=> ?_)
   generalize w7.drew=w8 at BK193 HB HR195_3 hx195_0 hx195_1 hx195_2 hx195_3 hHeld ⊢
   refine Ah (i:=1) (N:=some 11) (v:= ?_) (a':= ?_) #[false,true,false,false,false,false,false,false,false,false] rfl rfl (Ab HT_.out zF) (fun _ _ _ h=>h) (Or.inl ⟨by rfl,?_⟩) ?_ ?_
   rotate_left
   ·intro w'
    go_simp
    with_reducible rfl
   rotate_left
   ·simp only [Act.put,List.setIfInBounds_toArray,List.set_cons_zero,List.set_cons_succ,AZ,Aa]
    rfl
   refine Ah (i:=3) (N:=some 13) (v:= ?_) (a':= ?_) #[false,true,false,true,false,false,false,false,false,false] rfl rfl (Ab HT_.out zF) (fun _ _ _ h=>h) (Or.inl ⟨by rfl,?_⟩) ?_ ?_
   rotate_left
   ·intro w'
    go_simp
    with_reducible rfl
   rotate_left
   ·simp only [Act.put,List.setIfInBounds_toArray,List.set_cons_zero,List.set_cons_succ,AZ,Aa]
    rfl
   refine BE (i:=0) (N:=some 10) (v:= ?_) (a':= ?_) #[true,true,false,true,false,false,false,false,false,false] rfl rfl (B5 HT_.out HW_.out zF) (fun _ _ _ h=>h) (Or.inl ⟨by rfl,?_⟩) hHeld ?_ ?_
   rotate_left
   ·rintro w' ⟨s0,s1,s2,s3,s4,s5⟩
    go_simp
    with_reducible rfl
   rotate_left
   ·simp only [Act.put,List.setIfInBounds_toArray,List.set_cons_zero,List.set_cons_succ,AZ,Aa]
    rfl
   refine BE (i:=4) (N:=some 14) (v:= ?_) (a':= ?_) #[true,true,false,true,true,false,false,false,false,false] rfl rfl (B5 HT_.out HW_.out zF) (fun _ _ _ h=>h) (Or.inl ⟨by rfl,?_⟩) hHeld ?_ ?_
   rotate_left
   ·rintro w' ⟨s0,s1,s2,s3,s4,s5⟩
    go_simp
    with_reducible rfl
   rotate_left
   ·simp only [Act.put,List.setIfInBounds_toArray,List.set_cons_zero,List.set_cons_succ,AZ,Aa]
    rfl
   refine Ah (i:=5) (N:=some 15) (v:= ?_) (a':= ?_) #[true,true,false,true,true,true,false,false,false,false] rfl rfl (Ab HT_.out zF) (fun _ _ _ h=>h) (Or.inl ⟨by rfl,?_⟩) ?_ ?_
   rotate_left
   ·intro w'
    go_simp
    with_reducible rfl
   rotate_left
   ·simp only [Act.put,List.setIfInBounds_toArray,List.set_cons_zero,List.set_cons_succ,AZ,Aa]
    rfl
   refine Ah (i:=6) (N:=some 16) (v:= ?_) (a':= ?_) #[true,true,false,true,true,true,true,false,false,false] rfl rfl (Ab HT_.out zF) (fun _ _ _ h=>h) (Or.inl ⟨by rfl,?_⟩) ?_ ?_
   rotate_left
   ·intro w'
    go_simp
    with_reducible rfl
   rotate_left
   ·simp only [Act.put,List.setIfInBounds_toArray,List.set_cons_zero,List.set_cons_succ,AZ,Aa]
    rfl
   refine BE (i:=7) (N:=some 17) (v:= ?_) (a':= ?_) #[true,true,false,true,true,true,true,true,false,false] rfl rfl (B5 HT_.out HW_.out zF) (fun _ _ _ h=>h) (Or.inl ⟨by rfl,?_⟩) hHeld ?_ ?_
   rotate_left
   ·rintro w' ⟨s0,s1,s2,s3,s4,s5⟩
    go_simp
    with_reducible rfl
   rotate_left
   ·simp only [Act.put,List.setIfInBounds_toArray,List.set_cons_zero,List.set_cons_succ,AZ,Aa]
    rfl
   refine one_ (i:=2) (N:=some 12) #[true,true,true,true,true,true,true,true,false,false] rfl rfl (C1 HT_.out zF) zX (fun K hK=> ?_)
   refine CV Try.func30 zF rfl #[.agg #[.int .i64 A8,.slice (some ad195) l0_1.length c0_1],.slice A1 l1.length c1,.int .i64 0] (by rfl) rfl rfl zB ?_
   with_reducible refine (Au.calls A8 _ _ l0_1 _ _ l1 0 t194 _ ?side1 ?side2 ?side3 ?side4 A5.out).mono ?_
   (case side1=>repeat (first|exact (Kd.C_below HR0_1.out HB.out)|(with_reducible refine Kd.C_alloc ?_ _)|(with_reducible refine Kd.C_drewN ?_ _)|(with_reducible refine Kd.C_drew ?_)))
   (case side2=>exact HC0_1.out)
   (case side3=>repeat (first|exact (Kd.C_below HR1.out HB.out)|(with_reducible refine Kd.C_alloc ?_ _)|(with_reducible refine Kd.C_drewN ?_ _)|(with_reducible refine Kd.C_drew ?_)))
   (case side4=>exact HC1.out)
   rintro e w9 ⟨rfl,hb⟩
   refine ⟨_,rfl,?_⟩
   have n0_:=Aside0.mk (AN (g:=gb193) (o:= .cells #[.int .i64 A8,.slice (some ad195) l0_1.length c0_1] 34 (0,0)) (by (with_reducible repeat (first|refine AF ?_ _|refine AI ?_|refine AG ?_ _)); exact BK193.out) hb)
   have n1_:=Aside0.mk (AO (by repeat (first|(with_reducible first|exact HB.out|apply AE|apply AC|apply AD|refine AH ?_ GE193.out)|exact HB.out)) hb)
   clear BK193
   clear HB
   have BK193:=n0_
   have HB:=n1_
   clear n0_ n1_
   (try clear hb)
   (try clear hb2)
   (try clear hk)
   (try clear hi)
   refine hK.out _ _ ⟨(AK BK193.out 0).trans rfl,(AK BK193.out 1).trans rfl,((HB.out.cell (World.block_lt_of_cell? w _ hw195_0)).trans hw195_0),((HB.out.cell (World.block_lt_of_cell? w _ hw195_1)).trans hw195_1),((HB.out.cell (World.block_lt_of_cell? w _ hw195_2)).trans hw195_2),((HB.out.cell (World.block_lt_of_cell? w _ hw195_3)).trans hw195_3)⟩ (fun hHeld=> ?_)
   clear hK K
   refine C4 (a':= ?_) ?_ ?_
   rotate_left
   ·show Act.put _ (some 12) _=_
    simp only [Act.put,List.setIfInBounds_toArray,List.set_cons_zero,List.set_cons_succ,AZ,Aa]
    rfl
   refine Ah (i:=8) (N:=some 18) (v:= ?_) (a':= ?_) #[true,true,true,true,true,true,true,true,true,false] rfl rfl (Ab HT_.out zF) (fun _ _ _ h=>h) (Or.inl ⟨by rfl,?_⟩) ?_ ?_
   rotate_left
   ·intro w'
    go_simp
    with_reducible rfl
   rotate_left
   ·simp only [Act.put,List.setIfInBounds_toArray,List.set_cons_zero,List.set_cons_succ,AZ,Aa]
    rfl
   refine Ah (i:=9) (N:=some 5) (v:= ?_) (a':= ?_) #[true,true,true,true,true,true,true,true,true,true] rfl rfl (Ab HT_.out zF) (fun _ _ _ h=>h) (Or.inl ⟨by rfl,?_⟩) ?_ ?_
   rotate_left
   ·intro w'
    go_simp
    with_reducible rfl
   rotate_left
   ·simp only [Act.put,List.setIfInBounds_toArray,List.set_cons_zero,List.set_cons_succ,AZ,Aa]
    rfl
   refine CJ (C0 HT_.out zF) ?_
   try go_wp2
   go_loopg [5,21] k (fun kq v5 v21 w'=>∃(x5_1:Int) (x21_1:Int),v5= .int .i64 x5_1∧v21= .int .i64 x21_1∧Aside0 (AR.l0 kq l1 x5_1 (l1.length:Int) x21_1 A8 l0_1=some r)∧Aside0 (kq≤k)∧Aside0 (w'.heap[gb193]? =some (.cells #[.int .i64 A8,(.slice (some ad195) l0_1.length c0_1)] 34 (0,0)))∧Aside0 (Below w.heap.size w w'))
   case atStart=>exact ⟨(wrap64 (t194-((AL l0_1 0).f2))),(0),zH,zH,H',⟨Nat.le_refl _⟩,⟨by (with_reducible repeat (first|refine AF ?_ _|refine AI ?_|refine AG ?_ _)); exact BK193.out⟩,⟨by repeat (first|(with_reducible first|exact HB.out|apply AE|apply AC|apply AD|refine AH ?_ GE193.out)|exact HB.out)⟩⟩
   case round=>
    clear H'
    try clear c1
    try clear p1
    try clear q1
    try clear hx1
    try clear qi1
    try clear p2
    try clear c3
    try clear c3b0
    try clear c3b1
    try clear c3b2
    try clear c6
    try clear c6b0
    try clear c6b1
    try clear p6
    try clear hx195_0
    try clear hx195_1
    try clear hx195_2
    try clear hx195_3
    try clear p195
    try clear q195
    obtain ⟨x5_1,x21_1,rfl,rfl,HA,HK1,BK193,HB⟩:=hrel
    cases gk with
    |zero=>exact absurd HA.out (by simp [AR.l0])
    | succ k1 =>
     have H:=HA.out
     clear HA
     simp only [AR.l0] at H
     by_cases c10:x21_1<(l1.length:Int)
     ·rw [if_pos c10] at H
      have c10b0:decide (x21_1<(l1.length:Int))=true:=decide_eq_true c10
      clear c10
      replace H:=Option.bind_eq_some_iff.mp H
      obtain ⟨t196,A110,H⟩:=H
      replace H:(if 0≤x21_1 then (if x21_1<(l0_1.length:Int) then (AR.l0 k1 l1 (mx x5_1 (wrap64 (t196-((AL l0_1 x21_1).f2)))) (l1.length:Int) (wrap64 (x21_1+1)) A8 l0_1) else (none)) else (none))=some r:=H
      have A11:=Aside0.mk A110
      clear A110
      by_cases c12:0≤x21_1
      ·rw [if_pos c12] at H
       have c12b0:decide (0≤x21_1)=true:=decide_eq_true c12
       clear c12
       by_cases c13:x21_1<(l0_1.length:Int)
       ·rw [if_pos c13] at H
        have c13b0:decide (x21_1<(l0_1.length:Int))=true:=decide_eq_true c13
        clear c13
        obtain ⟨ji14,hji14⟩:∃j_:Int,(mx x5_1 (wrap64 (t196-((AL l0_1 x21_1).f2))))=j_:=⟨_,rfl⟩
        replace H:(AR.l0 k1 l1 ji14 (l1.length:Int) (wrap64 (x21_1+1)) A8 l0_1)=some r:=by first|(rw [hji14] at H; exact H)|(simp only [hji14] at H ⊢; exact H)
        (try rw [hji14] at A11)
        have hji14_:(if x5_1<(wrap64 (t196-((AL l0_1 x21_1).f2))) then (wrap64 (t196-((AL l0_1 x21_1).f2))) else x5_1)=ji14:=hji14
        have H':=Aside0.mk H
        clear H
        try go_wp2
        have n0_:=Aside0.mk (AI BK193.out)
        have n1_:=Aside0.mk (AD HB.out)
        clear BK193
        clear HB
        have BK193:=n0_
        have HB:=n1_
        clear n0_ n1_
        have p197:0≤(x21_1:Int):=of_decide_eq_true zC
        have q197:x21_1<(l0_1.length:Int):=of_decide_eq_true zC
        obtain ⟨ad197,A197_3,c197_3,e197,hx197_0,hx197_1,hx197_2,hx197_3,hl197_3,hi197_3⟩:=Bi HR0_1.out x21_1 p197 q197
        have hw197_3:=hx197_3
        have hw197_2:=hx197_2
        have hw197_1:=hx197_1
        have hw197_0:=hx197_0
        obtain rfl:ad195=ad197:=(by injection e197)
        replace hx197_0:=(HB.out.cell (World.block_lt_of_cell? w _ hx197_0)).trans hx197_0
        replace hx197_1:=(HB.out.cell (World.block_lt_of_cell? w _ hx197_1)).trans hx197_1
        replace hx197_2:=(HB.out.cell (World.block_lt_of_cell? w _ hx197_2)).trans hx197_2
        replace hx197_3:=(HB.out.cell (World.block_lt_of_cell? w _ hx197_3)).trans hx197_3
        have HR197_3:=Aside0.mk hi197_3
        have HC197_3:=Aside0.mk hl197_3
        clear hi197_3 hl197_3
        replace p197:=eq_true p197
        replace q197:=eq_true q197
        refine Bv (n:=14) (S:=fun w'=>w'.cell? ⟨gb193,0,none⟩=some (.int .i64 A8)∧w'.cell? ⟨gb193,1,none⟩=some (.slice (some ad195) l0_1.length c0_1)∧w'.cell? (ad195.add ((x21_1).toNat*4))=some (.string ((AL l0_1 x21_1).f0))∧w'.cell? ⟨(ad195.add ((x21_1).toNat*4)).block,(ad195.add ((x21_1).toNat*4)).off+1,none⟩=some (.int .i64 ((AL l0_1 x21_1).f1))∧w'.cell? ⟨(ad195.add ((x21_1).toNat*4)).block,(ad195.add ((x21_1).toNat*4)).off+2,none⟩=some (.int .i64 ((AL l0_1 x21_1).f2))∧w'.cell? ⟨(ad195.add ((x21_1).toNat*4)).block,(ad195.add ((x21_1).toNat*4)).off+3,none⟩=some (.slice A197_3 ((AL l0_1 x21_1).f3).length c197_3)) (ds:=[]) #[false,false,false,false,false,false,false,false,false,false,false,false,false,false] zF rfl rfl ⟨(AK BK193.out 0).trans rfl,(AK BK193.out 1).trans rfl,((HB.out.cell (World.block_lt_of_cell? w _ hw197_0)).trans hw197_0),((HB.out.cell (World.block_lt_of_cell? w _ hw197_1)).trans hw197_1),((HB.out.cell (World.block_lt_of_cell? w _ hw197_2)).trans hw197_2),((HB.out.cell (World.block_lt_of_cell? w _ hw197_3)).trans hw197_3)⟩ (fun hHeld=> ?_); refine Bj AR.tab7 AR.bits7 (fun HT_ HW_=> ?_)
        generalize wr.drew=w15 at BK193 HB HR197_3 hx197_0 hx197_1 hx197_2 hx197_3 hHeld ⊢
        refine Ah (i:=0) (N:=some 24) (v:= ?_) (a':= ?_) #[true,false,false,false,false,false,false,false,false,false,false,false,false,false] rfl rfl (Ab HT_.out zF) (fun _ _ _ h=>h) (Or.inl ⟨by rfl,?_⟩) ?_ ?_
        rotate_left
        ·intro w'
         go_simp
         with_reducible rfl
        rotate_left
        ·simp only [Act.put,List.setIfInBounds_toArray,List.set_cons_zero,List.set_cons_succ,AZ,Aa]
         rfl
        refine Ah (i:=2) (N:=some 26) (v:= ?_) (a':= ?_) #[true,false,true,false,false,false,false,false,false,false,false,false,false,false] rfl rfl (Ab HT_.out zF) (fun _ _ _ h=>h) (Or.inl ⟨by rfl,?_⟩) ?_ ?_
        rotate_left
        ·intro w'
         go_simp
         with_reducible rfl
        rotate_left
        ·simp only [Act.put,List.setIfInBounds_toArray,List.set_cons_zero,List.set_cons_succ,AZ,Aa]
         rfl
        refine Ah (i:=3) (N:=some 27) (v:= ?_) (a':= ?_) #[true,false,true,true,false,false,false,false,false,false,false,false,false,false] rfl rfl (Ab HT_.out zF) (fun _ _ _ h=>h) (Or.inl ⟨by rfl,?_⟩) ?_ ?_
        rotate_left
        ·intro w'
         go_simp
         with_reducible rfl
        rotate_left
        ·simp only [Act.put,List.setIfInBounds_toArray,List.set_cons_zero,List.set_cons_succ,AZ,Aa]
         rfl
        refine Ah (i:=5) (N:=some 29) (v:= ?_) (a':= ?_) #[true,false,true,true,false,true,false,false,false,false,false,false,false,false] rfl rfl (Ab HT_.out zF) (fun _ _ _ h=>h) (Or.inl ⟨by rfl,?_⟩) ?_ ?_
        rotate_left
        ·intro w'
         go_simp
         with_reducible rfl
        rotate_left
        ·simp only [Act.put,List.setIfInBounds_toArray,List.set_cons_zero,List.set_cons_succ,AZ,Aa]
         rfl
        refine Ah (i:=7) (N:=some 31) (v:= ?_) (a':= ?_) #[true,false,true,true,false,true,false,true,false,false,false,false,false,false] rfl rfl (Ab HT_.out zF) (fun _ _ _ h=>h) (Or.inl ⟨by rfl,?_⟩) ?_ ?_
        rotate_left
        ·intro w'
         go_simp
         with_reducible rfl
        rotate_left
        ·simp only [Act.put,List.setIfInBounds_toArray,List.set_cons_zero,List.set_cons_succ,AZ,Aa]
         rfl
        refine BE (i:=1) (N:=some 25) (v:= ?_) (a':= ?_) #[true,true,true,true,false,true,false,true,false,false,false,false,false,false] rfl rfl (B5 HT_.out HW_.out zF) (fun _ _ _ h=>h) (Or.inl ⟨by rfl,?_⟩) hHeld ?_ ?_
        rotate_left
        ·rintro w' ⟨s0,s1,s2,s3,s4,s5⟩
         go_simp
         with_reducible rfl
        rotate_left
        ·simp only [Act.put,List.setIfInBounds_toArray,List.set_cons_zero,List.set_cons_succ,AZ,Aa]
         rfl
        refine BE (i:=6) (N:=some 30) (v:= ?_) (a':= ?_) #[true,true,true,true,false,true,true,true,false,false,false,false,false,false] rfl rfl (B5 HT_.out HW_.out zF) (fun _ _ _ h=>h) (Or.inl ⟨by rfl,?_⟩) hHeld ?_ ?_
        rotate_left
        ·rintro w' ⟨s0,s1,s2,s3,s4,s5⟩
         go_simp
         with_reducible rfl
        rotate_left
        ·simp only [Act.put,List.setIfInBounds_toArray,List.set_cons_zero,List.set_cons_succ,AZ,Aa]
         rfl
        refine Ah (i:=8) (N:=some 32) (v:= ?_) (a':= ?_) #[true,true,true,true,false,true,true,true,true,false,false,false,false,false] rfl rfl (Ab HT_.out zF) (fun _ _ _ h=>h) (Or.inl ⟨by rfl,?_⟩) ?_ ?_
        rotate_left
        ·intro w'
         go_simp
         with_reducible rfl
        rotate_left
        ·simp only [Act.put,List.setIfInBounds_toArray,List.set_cons_zero,List.set_cons_succ,AZ,Aa]
         rfl
        refine Ah (i:=9) (N:=some 33) (v:= ?_) (a':= ?_) #[true,true,true,true,false,true,true,true,true,true,false,false,false,false] rfl rfl (Ab HT_.out zF) (fun _ _ _ h=>h) (Or.inl ⟨by rfl,?_⟩) ?_ ?_
        rotate_left
        ·intro w'
         go_simp
         with_reducible rfl
        rotate_left
        ·simp only [Act.put,List.setIfInBounds_toArray,List.set_cons_zero,List.set_cons_succ,AZ,Aa]
         rfl
        refine BE (i:=10) (N:=some 34) (v:= ?_) (a':= ?_) #[true,true,true,true,false,true,true,true,true,true,true,false,false,false] rfl rfl (B5 HT_.out HW_.out zF) (fun _ _ _ h=>h) (Or.inl ⟨by rfl,?_⟩) hHeld ?_ ?_
        rotate_left
        ·rintro w' ⟨s0,s1,s2,s3,s4,s5⟩
         go_simp
         with_reducible rfl
        rotate_left
        ·simp only [Act.put,List.setIfInBounds_toArray,List.set_cons_zero,List.set_cons_succ,AZ,Aa]
         rfl
        refine one_ (i:=4) (N:=some 28) #[true,true,true,true,true,true,true,true,true,true,true,false,false,false] rfl rfl (C1 HT_.out zF) zX (fun K hK=> ?_)
        refine CV Try.func30 zF rfl #[.agg #[.int .i64 A8,.slice (some ad195) l0_1.length c0_1],.slice A1 l1.length c1,.int .i64 x21_1] (by rfl) rfl rfl zB ?_
        with_reducible refine (Au.calls A8 _ _ l0_1 _ _ l1 x21_1 t196 _ ?side1 ?side2 ?side3 ?side4 A11.out).mono ?_
        (case side1=>repeat (first|exact (Kd.C_below HR0_1.out HB.out)|(with_reducible refine Kd.C_alloc ?_ _)|(with_reducible refine Kd.C_drewN ?_ _)|(with_reducible refine Kd.C_drew ?_)))
        (case side2=>exact HC0_1.out)
        (case side3=>repeat (first|exact (Kd.C_below HR1.out HB.out)|(with_reducible refine Kd.C_alloc ?_ _)|(with_reducible refine Kd.C_drewN ?_ _)|(with_reducible refine Kd.C_drew ?_)))
        (case side4=>exact HC1.out)
        rintro e w16 ⟨rfl,hb⟩
        refine ⟨_,rfl,?_⟩
        have n0_:=Aside0.mk (AN (g:=gb193) (o:= .cells #[.int .i64 A8,.slice (some ad195) l0_1.length c0_1] 34 (0,0)) (by (with_reducible repeat (first|refine AF ?_ _|refine AI ?_|refine AG ?_ _)); exact BK193.out) hb)
        have n1_:=Aside0.mk (AO (by repeat (first|(with_reducible first|exact HB.out|apply AE|apply AC|apply AD|refine AH ?_ GE193.out)|exact HB.out)) hb)
        clear BK193
        clear HB
        have BK193:=n0_
        have HB:=n1_
        clear n0_ n1_
        (try clear hb)
        (try clear hb2)
        (try clear hk)
        (try clear hi)
        refine hK.out _ _ ⟨(AK BK193.out 0).trans rfl,(AK BK193.out 1).trans rfl,((HB.out.cell (World.block_lt_of_cell? w _ hw197_0)).trans hw197_0),((HB.out.cell (World.block_lt_of_cell? w _ hw197_1)).trans hw197_1),((HB.out.cell (World.block_lt_of_cell? w _ hw197_2)).trans hw197_2),((HB.out.cell (World.block_lt_of_cell? w _ hw197_3)).trans hw197_3)⟩ (fun hHeld=> ?_)
        clear hK K
        refine C4 (a':= ?_) ?_ ?_
        rotate_left
        ·show Act.put _ (some 28) _=_
         simp only [Act.put,List.setIfInBounds_toArray,List.set_cons_zero,List.set_cons_succ,AZ,Aa]
         rfl
        refine Ah (i:=11) (N:=some 35) (v:= ?_) (a':= ?_) #[true,true,true,true,true,true,true,true,true,true,true,true,false,false] rfl rfl (Ab HT_.out zF) (fun _ _ _ h=>h) (Or.inl ⟨by rfl,?_⟩) ?_ ?_
        rotate_left
        ·intro w'
         go_simp
         with_reducible rfl
        rotate_left
        ·simp only [Act.put,List.setIfInBounds_toArray,List.set_cons_zero,List.set_cons_succ,AZ,Aa]
         rfl
        refine Ah (i:=12) (N:=some 36) (v:= ?_) (a':= ?_) #[true,true,true,true,true,true,true,true,true,true,true,true,true,false] rfl rfl (Ab HT_.out zF) (fun _ _ _ h=>h) (Or.inl ⟨by rfl,?_⟩) ?_ ?_
        rotate_left
        ·intro w'
         go_simp
         with_reducible rfl
        rotate_left
        ·simp only [Act.put,List.setIfInBounds_toArray,List.set_cons_zero,List.set_cons_succ,AZ,Aa]
         rfl
        refine Ah (i:=13) (N:=some 5) (v:= ?_) (a':= ?_) #[true,true,true,true,true,true,true,true,true,true,true,true,true,true] rfl rfl (Ab HT_.out zF) (fun _ _ _ h=>h) (Or.inl ⟨by rfl,?_⟩) ?_ ?_
        rotate_left
        ·intro w'
         go_simp
         with_reducible rfl
        rotate_left
        ·simp only [Act.put,List.setIfInBounds_toArray,List.set_cons_zero,List.set_cons_succ,AZ,Aa]
         rfl
        refine CJ (C0 HT_.out zF) ?_
        try go_wp2
        go_roundg k1
        case measure=>have:=HK1.out; omega
        case rel=>exact ⟨(ji14),(wrap64 (x21_1+1)),(by first|rfl|(simp; done)|(simp only [←hji14]<;>(first|rfl|simp))|(simp [*]; done)),zH,H',⟨by have:=HK1.out; omega⟩,⟨by (with_reducible repeat (first|refine AF ?_ _|refine AI ?_|refine AG ?_ _)); exact BK193.out⟩,⟨by repeat (first|(with_reducible first|exact HB.out|apply AE|apply AC|apply AD|refine AH ?_ GE193.out)|exact HB.out)⟩⟩
       ·rw [if_neg c13] at H
        exact absurd H zA1
      ·rw [if_neg c12] at H
       exact absurd H zA1
     ·rw [if_neg c10] at H
      have c10b0:decide (x21_1<(l1.length:Int))=false:=decide_eq_false c10
      clear c10
      obtain rfl:=Option.some.inj H
      go_wp2
      go_ret
      exact ⟨by first|rfl|(simp [AY,AX]<;>rfl)|(simp [*,AY,AX]<;>rfl),by repeat (first|(with_reducible first|exact HB.out|apply AE|apply AC|apply AD|refine AH ?_ GE193.out)|exact HB.out)⟩
  ·rw [if_neg c6] at H
   exact absurd H zA1
def BB.f (l0:List Int):Option (List Int):=if (l0.length:Int)=0 then (some ([]:List Int)) else ((some (([]:List Int):List Int)).bind fun y198=>(if y198.length+l0.length<17592186044416 then (some (y198++l0)) else (none)))
set_option maxHeartbeats 8000000 in
theorem BB.calls (A0:Option Addr) (c0:Nat) (l0:List Int) (r:List Int) (w:World) (hr0:Kd.C (Kd.int .i64) w A0 l0.length l0) (hc0:l0.length≤c0) (h:BB.f l0=some r) (hz:l0.length=0→A0=none):
  Calls Try.prog 34 #[.slice A0 l0.length c0] w fun e w'=>∃v0_:Value,e= .returned (v0_)∧Kd.R (Kd.int .i64) 3 w' w.heap.size (fun _=>True) v0_ r∧Below w.heap.size w w':=by
 have HR0:=Aside0.mk hr0
 have HC0:=Aside0.mk hc0
 clear hr0 hc0
 have HB:=Aside0.mk (Below.refl w.heap.size w)
 have H:(if (l0.length:Int)=0 then (some ([]:List Int)) else ((some (([]:List Int):List Int)).bind fun y198=>(if y198.length+l0.length<17592186044416 then (some (y198++l0)) else (none))))=some r:=h
 clear h
 by_cases c2:(l0.length:Int)=0
 ·rw [if_pos c2] at H
  obtain rfl:=hz zD
  have hen:=fun w=>Lib.run_eql_slice_nil (P:=Try.prog) w 26 3 none l0.length c0 0 0 Try.underlying26
  simp only [Option.isNone_none] at hen
  have c2b0:((l0.length:Int)==0)=true:=beq_iff_eq.mpr c2
  have c2b1:((l0.length:Int) !=0)=false:=bne_eq_false_iff_eq.mpr c2
  clear c2
  obtain rfl:=Option.some.inj H
  go_enter Try.func34,Try.ntmps34
  go_wp2
  go_ret
  exact ⟨_,by first|rfl|(simp [AY,AX]<;>rfl)|(simp [*,AY,AX]<;>rfl),by first|exact Kd.R_nil _ _ _ _ _|exact Kd.N_nil _ _ _ _ _|exact Kd.V_nil _ _ _ _ _|exact Kd.Q_nil _ _ _ _ _|exact Kd.S_nil _ _ _ _ _,by repeat (first|(with_reducible first|exact HB.out|apply AE|apply AC|apply AD)|exact HB.out)⟩
 ·rw [if_neg c2] at H
  obtain ⟨ad_,rfl,_⟩:=HR0.out.2.2 zD
  clear hz
  have hen:=fun w=>Lib.run_eql_slice_nil (P:=Try.prog) w 26 3 (some ad_) l0.length c0 0 0 Try.underlying26
  simp only [Option.isNone_some] at hen
  have c2b0:((l0.length:Int)==0)=false:=beq_eq_false_iff_ne.mpr c2
  have c2b1:((l0.length:Int) !=0)=true:=bne_iff_ne.mpr c2
  have c2b2:¬(l0=[]):=fun h_=>c2 (by rw [h_]; rfl)
  obtain ⟨y198,hy198⟩:∃y_:List Int,y_=(([]:List Int)):=⟨_,rfl⟩
  replace H:(if y198.length+l0.length<17592186044416 then (some (y198++l0)) else (none))=some r:=by first|(rw [hy198]; with_reducible exact H)|(have H2_:=(Option.bind_some _ _).symm.trans H; rw [hy198]; with_reducible exact H2_)|(have H2_:=(Option.bind_some _ _).symm.trans H; with_reducible exact H2_)|with_reducible exact H|(rw [hy198]; exact H)|exact H
  have Ny198:=Aside0.mk hy198
  clear hy198
  by_cases c3:y198.length+l0.length<17592186044416
  ·rw [if_pos c3] at H
   have LMc3:=Aside0.mk c3
   clear c3
   obtain ⟨y201,hy201⟩:∃y_:List Int,y_=(y198++l0):=⟨_,rfl⟩
   replace H:(some y201)=some r:=by first|(rw [hy201]; with_reducible exact H)|(have H2_:=(Option.bind_some _ _).symm.trans H; rw [hy201]; with_reducible exact H2_)|(have H2_:=(Option.bind_some _ _).symm.trans H; with_reducible exact H2_)|with_reducible exact H|(rw [hy201]; exact H)|exact H
   have Ny201:=Aside0.mk hy201
   clear hy201
   obtain rfl:=Option.some.inj H
   go_enter Try.func34,Try.ntmps34
   go_wp2_with (first|((with_reducible refine Am (N:=5) rfl ?_); refine Kd.R_lit (Kd.int .i64) _ 3 ?hg (N:=5) ?hd (xs:=([]:List Int)) (inner:=[]) (ok:=fun _=>True) (okp:=fun _=>True) ?hr ?hp (fun _ hk=>hk) trivial (Below.refl _ _) (Nat.le_refl _) zA1 ?_; (case hd=>rfl); (case hg=>rfl); (case hr=>first|(go_simp; done)|(go_simp; rfl)); (case hp=>exact (Reps.none _ _)); intro v199 w4 ho5 hb hg_ hnew_; clear hg_ hnew_; (first|rw [←Ny198.out] at ho5|(simp only [Int.reduceToNat] at ho5; rw [←Ny198.out] at ho5)); have n0_:=Aside0.mk (Kd.R_lower ho5 (AP zA)); have n1_:=Aside0.mk (AO zA hb); clear HB; have HO200:=n0_; have HB:=n1_; clear n0_ n1_; clear hb ho5)|((with_reducible refine Bm (b:= .append) (xs:= #[.tmp 5,.tmp 6]) rfl ?_); at_builtin; refine Kd.R_append_rows (Kd.int .i64) (w0:=w) w.heap.size rfl (.tmp 5) (.tmp 6) 26 3 (.int .i64 0) 8 rfl Try.underlying26 info3 rfl zX zD v199 y198 l0 _ _ _ (fun _=>True) (fun _=>False) rfl rfl ?aO ?aR (fun _ _ h=>h) (fun _ h=>h.elim) ?aF ?aB ?aS ?aL ?_; (case aR=>repeat (first|exact (Kd.C_below HR0.out HB.out)|(with_reducible refine Kd.C_alloc ?_ _)|(with_reducible refine Kd.C_drewN ?_ _)|(with_reducible refine Kd.C_drew ?_))); (case aB=>exact zA); (case aF=>exact (fun _ _=>trivial)); (case aO=>exact (by (with_reducible repeat (first|apply Kd.R_alloc|apply Kd.R_drewN|apply Kd.R_drew)); exact HO200.out)); (case aS=>exact (AP zA)); (case aL=>have:=LMc3.out; omega); intro v202 w6 ho hb hg hat; rw [←Ny201.out] at ho; have n0_:=Aside0.mk (hb); have n1_:=Aside0.mk (ho); clear HB; clear HO200; have HB:=n0_; have HO203:=n1_; clear n0_ n1_; clear ho hb hg hat))
   go_ret
   exact ⟨_,by first|rfl|(simp [AY,AX]<;>rfl)|(simp [*,AY,AX]<;>rfl),by (with_reducible repeat (first|apply Kd.R_alloc|apply Kd.R_drewN|apply Kd.R_drew)); exact HO203.out,by repeat (first|(with_reducible first|exact HB.out|apply AE|apply AC|apply AD)|exact HB.out)⟩
  ·rw [if_neg c3] at H
   exact absurd H zA1
def Aw.f (k:Nat) (l0:List Int) (a1:Int):Option (Bool):=(AW.f k l0 a1).bind fun t204=>(some (decide (t204≥0)))
theorem Aw.mono:∀a0 a1 k,LeO (Aw.f k a0 a1) (Aw.f (k+1) a0 a1):=by
 intro a0 a1 k
 unfold Aw.f
 repeat' first
  |(with_reducible exact AW.mono _ _ _)
  |(with_reducible exact LeO.refl _)
  |(with_reducible exact LeO.none _)
  |(with_reducible refine LeO.ite ?_ ?_)
  |(with_reducible refine LeO.bind ?_ (fun _=> ?_))
  |exact AW.mono _ _ _
  |exact LeO.none _
  |refine LeO.ite ?_ ?_
  |refine LeO.bind ?_ (fun _=> ?_)
set_option maxHeartbeats 8000000 in
theorem Aw.calls (k:Nat) (A0:Option Addr) (c0:Nat) (l0:List Int) (a1:Int) (r:Bool) (w:World) (hr0:Kd.C (Kd.int .i64) w A0 l0.length l0) (hc0:l0.length≤c0) (h:Aw.f k l0 a1=some r):
  Calls Try.prog 35 #[.slice A0 l0.length c0,.int .i64 a1] w fun e w'=>e= .returned (.bool r)∧Drawn0 w w':=by
 have HR0:=Aside0.mk hr0
 have HC0:=Aside0.mk hc0
 clear hr0 hc0
 have H:((AW.f k l0 a1).bind fun t204=>(some (decide (t204≥0))))=some r:=h
 clear h
 replace H:=Option.bind_eq_some_iff.mp H
 obtain ⟨t204,A30,H⟩:=H
 replace H:(some (decide (t204≥0)))=some r:=H
 have A3:=Aside0.mk A30
 clear A30
 obtain rfl:=Option.some.inj H
 go_enter Try.func35,Try.ntmps35
 go_wp2_with (first|((with_reducible refine Ad (f:=53) rfl ?_); refine Ax (some 7) rfl rfl Try.func53 zF rfl #[.slice A0 l0.length c0,.int .i64 a1] rfl zB ?_; (with_reducible refine (AW.calls k _ _ l0 a1 t204 _ ?side1 ?side2 A3.out).mono ?_); (case side1=>repeat (first|exact HR0.out|(with_reducible refine Kd.C_alloc ?_ _)|(with_reducible refine Kd.C_drewN ?_ _)|(with_reducible refine Kd.C_drew ?_))); (case side2=>exact HC0.out); rintro e w' ⟨rfl,⟨nd,rfl⟩⟩; refine ⟨_,rfl,?_⟩))
 go_ret
 exact ⟨by first|rfl|(simp; done)|(simp [*]; done),by repeat (first|exact Drawn0.refl _|apply Drawn0.step)⟩
end Go.Proofs.Ytdadecjefafflaa.PLst
end
section
namespace Go.Proofs.Ytdadecjefafflaa.PLst
set_option maxRecDepth 100000
open Go.RowKit Go.Proofs.YtdadecjefafflaaW.PrintWords Go.Proofs.YtdadecjefafflaaW.PrintLast Go.Proofs.YtdadecjefafflaaW.PrintMore
attribute [local go_sem] BP BN Bb Ba BG BF BO BM
abbrev BSt:=List Int×Int×Bool
def Do (k:Nat) (l:List Int) (ext:List Int→BSt→Option BSt):Nat→Nat→BSt→Option BSt
 |0,_,st=>some st
 |r+1,i,st=>(Aw.f k l i).bind fun b=>if b=true then Do k l ext r (i+1) st else (ext (l++[(i:Int)]) st).bind fun st'=>Do k l ext r (i+1) st'
def bExt (k:Nat) (m:Int) (ts:List S64) (n:Int):Nat→List Int→BSt→Option BSt
 |0,_,_=>none
 | d+1,l,st=>if (l.length:Int)=n then (AS.f k m ts l).bind fun s=>(AR.f k m ts s).bind fun x=>if (!st.2.2||decide (x<st.2.1))=true then (BB.f l).bind fun y=>some (y,x,true) else some st
  else Do k l (bExt k m ts n d) n.toNat 0 st
def DJ (k:Nat) (m:Int) (ts:List S64) (n:Int) (d:Nat) (l:List Int) (i r:Nat) (st:BSt):Option BSt:=Do k l (bExt k m ts n d) r i st
theorem CX (k:Nat) (m:Int) (ts:List S64) (n:Int) (d:Nat) (l:List Int) (i:Nat) (st:BSt):DJ k m ts n d l i 0 st=some st:=rfl
theorem CY (k:Nat) (m:Int) (ts:List S64) (n:Int) (d:Nat) (l:List Int) (i r:Nat) (st:BSt):DJ k m ts n d l i (r+1) st=(Aw.f k l i).bind fun b=>if b=true then DJ k m ts n d l (i+1) r st else (bExt k m ts n d (l++[(i:Int)]) st).bind fun st'=>DJ k m ts n d l (i+1) r st':=rfl
structure BCtx where
 m:Int
 A:Option Addr
 c:Nat
 ts:List S64
 n:Int
 gn:Nat
 gp:Nat
 gf:Nat
 gl:Nat
 go:Nat
 ge:Nat
def BCtx.caps (X:BCtx):Array Value:= #[.pointer (some ⟨X.gn,0,none⟩),.pointer (some ⟨X.gp,0,none⟩),.pointer (some ⟨X.gf,0,none⟩),.pointer (some ⟨X.gl,0,none⟩),.pointer (some ⟨X.go,0,none⟩),.pointer (some ⟨X.ge,0,none⟩)]
structure BInv (X:BCtx) (w0 W:World) (st:BSt):Prop where
 n:W.heap[X.gn]? =some (.cells #[.int .i64 X.n] 3 (0,0))
 p:W.heap[X.gp]? =some (.cells #[.int .i64 X.m,.slice X.A X.ts.length X.c] 34 (0,0))
 f:W.heap[X.gf]? =some (.cells #[.bool st.2.2] 4 (0,0))
 l:W.heap[X.gl]? =some (.cells #[.int .i64 st.2.1] 3 (0,0))
 o:∃vo,W.heap[X.go]? =some (.cells #[vo] 26 (0,0))∧Kd.R (Kd.int .i64) 3 W w0.heap.size (fun k=>k≠X.gn∧k≠X.gl) vo st.1
 e:W.heap[X.ge]? =some (.cells #[.func (.func 32) #[] X.caps] 69 (0,0))
 b:Below w0.heap.size w0 W
 nl:X.gn≠X.gl
 bf:w0.heap.size≤X.gf
 bl:w0.heap.size≤X.gl
 bo:w0.heap.size≤X.go
 ts:Kd.C k64 w0 X.A X.ts.length X.ts
 tc:X.ts.length≤X.c
def BCtx.S (X:BCtx) (k:Nat):Prop:=k=X.gf∨k=X.gl∨k=X.go
theorem BInv.below {X:BCtx} {w0 W V:World} {st:BSt} (h:BInv X w0 W st) (hb:Below W.heap.size W V):BInv X w0 V st:=by
 obtain ⟨vo,ho1,ho2⟩:=h.o
 exact ⟨AN h.n hb,AN h.p hb,AN h.f hb,AN h.l hb,⟨vo,AN ho1 hb,Kd.R_below ho2 hb⟩,AN h.e hb,Bh h.b h.b.size hb,h.nl,h.bf,h.bl,h.bo,h.ts,h.tc⟩
structure BL (X:BCtx) (W:World) (A:Option Addr) (c:Nat) (l:List Int):Prop where
 r:Kd.C (Kd.int .i64) W A l.length l
 cc:l.length≤c
 z:l.length=0→A=none∧c=0
 k:∀ad,A=some ad→¬X.S ad.block
theorem BL.kept {X:BCtx} {W V:World} {A:Option Addr} {c:Nat} {l:List Int} (h:BL X W A c l) (hk:Kept W V X.S):BL X V A c l:=
 ⟨Kd.C_foot_neS (fun h=>h) h.r (fun ad he _=>h.k ad he) V hk,h.cc,h.z,h.k⟩
theorem CK {W:World} {a b:Nat} {ca cb:Array Value} {ta tb:TypeId} (h1:W.heap[a]? =some (.cells ca ta (0,0))) (h2:W.heap[b]? =some (.cells cb tb (0,0))) (ht:ta≠tb):a≠b:=fun e=>by
 subst e; rw [h1] at h2; injection h2 with h2; injection h2 with _ h3; exact ht h3
theorem BInv.ne {X:BCtx} {w0 W:World} {st:BSt} (h:BInv X w0 W st):X.gf≠X.go∧X.gf≠X.gl∧X.gl≠X.go:=by
 obtain ⟨vo,ho1,ho2⟩:=h.o
 exact ⟨CK h.f ho1 zX,CK h.f h.l zX,CK h.l ho1 zX⟩
theorem BInv.put {X:BCtx} {w0 W:World} {st:BSt} (h:BInv X w0 W st) {vy:Value} {y:List Int} (x:Int) (hy:Kd.R (Kd.int .i64) 3 W w0.heap.size (fun k=>k≠X.gn∧k≠X.gl∧k≠X.gf∧k≠X.go) vy y):
  BInv X w0 (((W.setCell ⟨X.go,0,none⟩ vy).setCell ⟨X.gl,0,none⟩ (.int .i64 x)).setCell ⟨X.gf,0,none⟩ (.bool true)) (y,x,true)∧Kept W (((W.setCell ⟨X.go,0,none⟩ vy).setCell ⟨X.gl,0,none⟩ (.int .i64 x)).setCell ⟨X.gf,0,none⟩ (.bool true)) X.S:=by
 obtain ⟨vo,ho1,ho2⟩:=h.o
 have hne:∀ {a b:Nat} {ca cb:Array Value} {ta tb:TypeId},W.heap[a]? =some (.cells ca ta (0,0))→W.heap[b]? =some (.cells cb tb (0,0))→ta≠tb→a≠b:=fun h1 h2 ht e=>by
  subst e; rw [h1] at h2; injection h2 with h2; injection h2 with _ h3; exact ht h3
 have e1:=hne h.n h.f zX; have e2:=hne h.n ho1 zX; have e3:=h.nl
 have e4:=hne h.p h.f zX; have e5:=hne h.p ho1 zX; have e6:=hne h.p h.l zX
 have e7:=hne h.e h.f zX; have e8:=hne h.e ho1 zX; have e9:=hne h.e h.l zX
 have f1:=hne h.f ho1 zX; have f2:=hne h.f h.l zX; have f3:=hne h.l ho1 zX
 refine ⟨⟨?_,?_,?_,?_,⟨vy,?_,?_⟩,?_,?_,h.nl,h.bf,h.bl,h.bo,h.ts,h.tc⟩,?_⟩
 ·exact AV (AV (AV h.n e2 _) e3 _) e1 _
 ·exact AV (AV (AV h.p e5 _) e6 _) e4 _
 ·exact At (cs:= #[.bool st.2.2]) (AV (AV h.f f1 _) f2 _) 0 _ rfl
 ·exact AV (At (cs:= #[.int .i64 st.2.1]) (AV h.l f3 _) 0 _ rfl) (fun e=>f2 e.symm) _
 ·exact AV (AV (At (cs:= #[vo]) ho1 0 _ rfl) (fun e=>f3 e.symm) _) (fun e=>f1 e.symm) _
 ·exact Kd.R_mono (Kd.R_far (p:=⟨X.gf,0,none⟩) (Kd.R_far (p:=⟨X.gl,0,none⟩) (Kd.R_far (p:=⟨X.go,0,none⟩) hy (fun k hk=>hk.2.2.2) vy) (fun k hk=>hk.2.1) _) (fun k hk=>hk.2.2.1) _) (fun k hk=>⟨hk.1,hk.2.1⟩)
 ·exact AV (AV (AV h.e e8 _) e9 _) e7 _
 ·exact AH (AH (AH h.b h.bo) h.bl) h.bf
 ·exact Kept.setCell (Kept.setCell (Kept.setCell (Kept.refl W _) (.inl (.inr (.inr rfl))) _) (.inl (.inr (.inl rfl))) _) (.inl (.inl rfl)) _
def bLeaf (k:Nat) (m:Int) (ts:List S64) (l:List Int) (st:BSt):Option BSt:=(AS.f k m ts l).bind fun s=>(AR.f k m ts s).bind fun x=>if (!st.2.2||decide (x<st.2.1))=true then (BB.f l).bind fun y=>some (y,x,true) else some st
theorem FS (X:BCtx) (w0 W:World) (k:Nat) (l:List Int) (A:Option Addr) (c:Nat) (st st':BSt) (hI:BInv X w0 W st) (hL:BL X W A c l) (hn:(l.length:Int)=X.n) (h:bLeaf k X.m X.ts l st=some st'):
  Calls Try.prog 32 (#[.slice A l.length c]++X.caps) W fun e w'=>e= .returned (.tuple #[])∧BInv X w0 w' st'∧Kept W w' X.S:=by
 show Calls Try.prog 32 #[.slice A l.length c,.pointer (some ⟨X.gn,0,none⟩),.pointer (some ⟨X.gp,0,none⟩),.pointer (some ⟨X.gf,0,none⟩),.pointer (some ⟨X.gl,0,none⟩),.pointer (some ⟨X.go,0,none⟩),.pointer (some ⟨X.ge,0,none⟩)] W _
 unfold bLeaf at h
 rw [Option.bind_eq_some_iff] at h
 obtain ⟨s,hs,h⟩:=h
 rw [Option.bind_eq_some_iff] at h
 obtain ⟨x,hx,h⟩:=h
 have HI:=Aside0.mk hI
 have HL:=Aside0.mk hL
 have HS:=Aside0.mk hs
 have HX:=Aside0.mk hx
 have HH:=Aside0.mk h
 have n0:W.cell? ⟨X.gn,0,none⟩=some (.int .i64 X.n):=(AK hI.n 0).trans rfl
 have c1:((l.length:Int)==X.n)=true:=beq_iff_eq.mpr hn
 clear hI hL hs hx h hn
 go_enter Try.func32,Try.ntmps32
 go_wp2
 refine Bv (n:=6) (S:=fun w'=>w'.cell? ⟨X.gp,0,none⟩=some (.int .i64 X.m)∧w'.cell? ⟨X.gp,1,none⟩=some (.slice X.A X.ts.length X.c)) (ds:=[]) #[false,false,false,false,false,false] zF rfl rfl ⟨(AK HI.out.p 0).trans rfl,(AK HI.out.p 1).trans rfl⟩ (fun hHeld=> ?_)
 have HI1:=Aside0.mk (HI.out.below (AD (Below.refl _ _)))
 have HK:=Aside0.mk (Kept.drew (Kept.refl W X.S))
 clear n0
 generalize W.drew=W1 at hHeld HI1 HK ⊢
 refine Ah (i:=2) (N:=some 16) (v:= ?_) (a':= ?_) #[false,false,true,false,false,false] rfl rfl zF (fun _ _ _ h=>h) (Or.inl ⟨by rfl,?_⟩) ?_ ?_
 rotate_left
 ·intro w'
  go_simp
  with_reducible rfl
 rotate_left
 ·simp only [Act.put,List.setIfInBounds_toArray,List.set_cons_zero,List.set_cons_succ,AZ,Aa]
  rfl
 refine BE (i:=0) (N:=some 14) (v:= ?_) (a':= ?_) #[true,false,true,false,false,false] rfl rfl zF (fun _ _ _ h=>h) (Or.inl ⟨by rfl,?_⟩) hHeld ?_ ?_
 rotate_left
 ·rintro w' ⟨s0,s1⟩
  go_simp
  with_reducible rfl
 rotate_left
 ·simp only [Act.put,List.setIfInBounds_toArray,List.set_cons_zero,List.set_cons_succ,AZ,Aa]
  rfl
 refine BE (i:=1) (N:=some 15) (v:= ?_) (a':= ?_) #[true,true,true,false,false,false] rfl rfl zF (fun _ _ _ h=>h) (Or.inl ⟨by rfl,?_⟩) hHeld ?_ ?_
 rotate_left
 ·rintro w' ⟨s0,s1⟩
  go_simp
  with_reducible rfl
 rotate_left
 ·simp only [Act.put,List.setIfInBounds_toArray,List.set_cons_zero,List.set_cons_succ,AZ,Aa]
  rfl
 refine one_ (i:=3) (N:=some 17) #[true,true,true,true,false,false] rfl rfl zF zX (fun K hK=> ?_)
 refine CV Try.func31 zF rfl #[.agg #[.int .i64 X.m,.slice X.A X.ts.length X.c],.slice A l.length c] (by rfl) rfl rfl (by (try simp only [List.map_toArray,List.map_cons,List.map_nil]); first|done|rfl) ?_
 refine (AS.calls k X.m X.A X.c X.ts A c l s W1 (Kd.C_below HI.out.ts HI1.out.b) HI.out.tc (HL.out.kept HK.out).r HL.out.cc HS.out).mono ?_
 rintro e W2 ⟨v1,rfl,ho,hb⟩
 refine ⟨_,rfl,?_⟩
 have HI2:=Aside0.mk (HI1.out.below hb)
 have HK2:=Aside0.mk (HK.out.below hb)
 have HO:=Aside0.mk ho
 clear hb ho
 refine hK.out _ _ ⟨(AK HI2.out.p 0).trans rfl,(AK HI2.out.p 1).trans rfl⟩ (fun hHeld=> ?_)
 clear hK K
 refine C4 (a':= ?_) ?_ ?_
 rotate_left
 ·show Act.put _ (some 17) _=_
  simp only [Act.put,List.setIfInBounds_toArray,List.set_cons_zero,List.set_cons_succ,AZ,Aa]
  rfl
 obtain ⟨As,cs,es⟩:=Kd.R_slice HO.out
 subst es
 refine one_ (i:=4) (N:=some 18) #[true,true,true,true,true,false] rfl rfl zF zX (fun K hK=> ?_)
 refine CV Try.func33 zF rfl #[.agg #[.int .i64 X.m,.slice X.A X.ts.length X.c],.slice As s.length cs] (by rfl) rfl rfl (by (try simp only [List.map_toArray,List.map_cons,List.map_nil]); first|done|rfl) ?_
 refine (AR.calls k X.m X.A X.c X.ts As cs s x W2 (Kd.C_below HI.out.ts HI2.out.b) HI.out.tc (Kd.R_reads' HO.out).2.2 (Kd.R_reads' HO.out).2.1 HX.out).mono ?_
 rintro e W3 ⟨rfl,hb⟩
 refine ⟨_,rfl,?_⟩
 have HI3:=Aside0.mk (HI2.out.below hb)
 have HK3:=Aside0.mk (HK2.out.below hb)
 clear hb
 refine hK.out _ _ ⟨(AK HI3.out.p 0).trans rfl,(AK HI3.out.p 1).trans rfl⟩ (fun hHeld=> ?_)
 clear hK K
 refine C4 (a':= ?_) ?_ ?_
 rotate_left
 ·show Act.put _ (some 18) _=_
  simp only [Act.put,List.setIfInBounds_toArray,List.set_cons_zero,List.set_cons_succ,AZ,Aa]
  rfl
 refine Ah (i:=5) (N:=some 8) (v:= ?_) (a':= ?_) #[true,true,true,true,true,true] rfl rfl zF (fun _ _ _ h=>h) (Or.inl ⟨by rfl,?_⟩) ?_ ?_
 rotate_left
 ·intro w'
  go_simp
  with_reducible rfl
 rotate_left
 ·simp only [Act.put,List.setIfInBounds_toArray,List.set_cons_zero,List.set_cons_succ,AZ,Aa]
  rfl
 refine CJ zF ?_
 clear HI1 HI2 HK HK2 HO
 have f0:W3.cell? ⟨X.gf,0,none⟩=some (.bool st.2.2):=(AK HI3.out.f 0).trans rfl
 have l0:W3.cell? ⟨X.gl,0,none⟩=some (.int .i64 st.2.1):=(AK HI3.out.l 0).trans rfl
 have HI3':=HI3
 by_cases hf:(!st.2.2||decide (x<st.2.1))=true
 ·have hh:=HH.out
  rw [if_pos hf,Option.bind_eq_some_iff] at hh
  obtain ⟨y,hy,hst⟩:=hh
  cases hst
  have HY:=Aside0.mk hy
  clear HH hy
  cases h1:st.2.2 with
  | false=>
   rw [h1] at f0
   clear hf
   go_wp2_with (first|(go_at_call 34; (refine (BB.calls A c l y _ (HL.out.kept HK3.out).r HL.out.cc HY.out (fun h=>(HL.out.z h).1)).mono ?_); rintro e W4 ⟨v2,rfl,ho,hb⟩; have HI4:=Aside0.mk (HI3.out.below hb); have HK4:=Aside0.mk (HK3.out.below hb); have HO:=Aside0.mk ho; clear hb ho HI3 f0 l0; obtain ⟨Ay,cy,ey⟩:=Kd.R_slice HO.out; subst ey; obtain ⟨vo,ho1,ho2⟩:=HI4.out.o; have f1:W4.cell? ⟨X.gf,0,none⟩=some (.bool st.2.2):=(AK HI4.out.f 0).trans rfl; have l1:W4.cell? ⟨X.gl,0,none⟩=some (.int .i64 st.2.1):=(AK HI4.out.l 0).trans rfl; have o1:W4.cell? ⟨X.go,0,none⟩=some vo:=(AK ho1 0).trans rfl; have ff:=AJ HI4.out.f 0; have fl:=AJ HI4.out.l 0; have fo:=AJ ho1 0; obtain ⟨d1,d2,d3⟩:=HI4.out.ne; have d4:=d1.symm; have d5:=d2.symm; have d6:=d3.symm))
   refine bodyPost_ret (results_none rfl _ _ _) rfl ?_
   obtain ⟨vo3,ho3,_⟩:=HI3'.out.o
   have q1:=Ar HI3'.out.n; have q2:=Ar HI3'.out.l; have q3:=Ar HI3'.out.f; have q4:=Ar ho3
   obtain ⟨z1,z2⟩:=HI4.out.put (y:=y) x (Kd.R_lower (Kd.R_mono (Kd.R_bound HO.out) (fun k hk=>⟨by have:=hk.2.1; omega,by have:=hk.2.1; omega,by have:=hk.2.1; omega,by have:=hk.2.1; omega⟩)) HI3'.out.b.size)
   exact ⟨rfl,z1,HK4.out.then_ z2 (fun _ h=> .inl h)⟩
  | true=>
   rw [h1] at f0 hf
   have hf:decide (x<st.2.1)=true:=by simpa using hf
   go_wp2_with (first|(go_at_call 34; (refine (BB.calls A c l y _ (HL.out.kept HK3.out).r HL.out.cc HY.out (fun h=>(HL.out.z h).1)).mono ?_); rintro e W4 ⟨v2,rfl,ho,hb⟩; have HI4:=Aside0.mk (HI3.out.below hb); have HK4:=Aside0.mk (HK3.out.below hb); have HO:=Aside0.mk ho; clear hb ho HI3 f0 l0; obtain ⟨Ay,cy,ey⟩:=Kd.R_slice HO.out; subst ey; obtain ⟨vo,ho1,ho2⟩:=HI4.out.o; have f1:W4.cell? ⟨X.gf,0,none⟩=some (.bool st.2.2):=(AK HI4.out.f 0).trans rfl; have l1:W4.cell? ⟨X.gl,0,none⟩=some (.int .i64 st.2.1):=(AK HI4.out.l 0).trans rfl; have o1:W4.cell? ⟨X.go,0,none⟩=some vo:=(AK ho1 0).trans rfl; have ff:=AJ HI4.out.f 0; have fl:=AJ HI4.out.l 0; have fo:=AJ ho1 0; obtain ⟨d1,d2,d3⟩:=HI4.out.ne; have d4:=d1.symm; have d5:=d2.symm; have d6:=d3.symm))
   refine bodyPost_ret (results_none rfl _ _ _) rfl ?_
   obtain ⟨vo3,ho3,_⟩:=HI3'.out.o
   have q1:=Ar HI3'.out.n; have q2:=Ar HI3'.out.l; have q3:=Ar HI3'.out.f; have q4:=Ar ho3
   obtain ⟨z1,z2⟩:=HI4.out.put (y:=y) x (Kd.R_lower (Kd.R_mono (Kd.R_bound HO.out) (fun k hk=>⟨by have:=hk.2.1; omega,by have:=hk.2.1; omega,by have:=hk.2.1; omega,by have:=hk.2.1; omega⟩)) HI3'.out.b.size)
   exact ⟨rfl,z1,HK4.out.then_ z2 (fun _ h=> .inl h)⟩
 ·have hh:=HH.out
  rw [if_neg hf] at hh
  cases hh
  clear HH
  have h1:st.2.2=true:=by
   cases h:st.2.2 with
   |true=>rfl
   |false=>exact absurd (by rw [h]; rfl) hf
  have h2:decide (x<st.2.1)=false:=by
   cases h:decide (x<st.2.1) with
   |false=>rfl
   |true=>exact absurd (by rw [h,Bool.or_true]) hf
  rw [h1] at f0
  clear hf
  go_wp2
  refine bodyPost_ret (results_none rfl _ _ _) rfl ?_
  exact ⟨rfl,HI3'.out,HK3.out⟩
section
variable {P:Program} {ops:Array Oper} {o:Oper} {a:Act} {Q:Exit→Act→World→Prop} {Kc:Act→World→Prop}
theorem Fu (l:List Int) (A:Option Addr) (W:World) (g:Nat) (i:Int) (hr:Kd.C (Kd.int .i64) W A l.length l) (hz:l.length=0→A=none) (s x:Operand)
  (hw:Region.wanted o (yielded ops a.tmps)=true) (ho:o.op= .call {callee:= .builtin .append,args:= #[s,x],argTypes:= #[26,26]})
  (hs:a.eval s= .slice A l.length l.length) (hx:a.eval x= .slice (some ⟨g,0,none⟩) 1 1) (hc:W.cell? ⟨g,0,none⟩=some (.int .i64 i)) (hm:l.length≤1000000)
  (h:∀v w',Kd.R (Kd.int .i64) 3 w' W.heap.size (fun _=>True) v (l++[i])→W.grownBy w' none→Kc (a.put o.dst v) w'):
  if Region.wanted o (yielded ops a.tmps)=true then Oper.wp Try.prog o a W Kc Q else Kc (a.put o.dst undef) W:=by
 obtain ⟨i0,hi0,hz0,hs0,hb0⟩:=info_parts info3
 have hnews:∀j u,([Value.int .i64 i]:List Value)[j]? =some u→W.cell? ((⟨g,0,none⟩:Addr).add j)=some u:=fun j u hj=>by
  cases j with
  |zero=>simp only [List.getElem?_cons_zero,Option.some.injEq] at hj; subst hj; rw [C9]; exact hc
  |succ j=>simp at hj
 have hfin:∀v w',w'.ownsRow W.heap.size 3 1 v (l.length+1) (nums .i64 l++[Value.int .i64 i])→Kd.R (Kd.int .i64) 3 w' W.heap.size (fun _=>True) v (l++[i]):=fun v w' hh=>
  Kd.R_of_own (by simpa [encs,nums] using hh) (fun _ _=>trivial)
 rcases Nat.eq_zero_or_pos l.length with h0|h0
 ·obtain rfl:=hz h0
  obtain rfl:l=[]:=List.eq_nil_of_length_eq_zero h0
  obtain ⟨v',w',hrun,r1,r2,_⟩:=run_append_own (P:=Try.prog) W W.heap.size 26 o.type 3 i0 (.int .i64 0) 1 8 Try.underlying26 hi0 hz0 hs0 hb0 rfl zX (.slice none 0 0) 0 [] (World.ownsRow_nil W _ 3 1) ⟨g,0,none⟩ 1 1 [.int .i64 i] rfl hnews (by intro u hu; simp only [List.mem_singleton] at hu; subst hu; rfl) zX zX (Nat.le_refl _)
  refine DG hw (w1:=w') (v:=v') ?_ (h v' w' (hfin v' w' (by simpa [nums] using r1)) (by simpa [Value.ownBlock] using r2))
  have hs2:a.eval s= .slice none 0 0:=hs
  simp [execOp,ho,resolve,invoke,builtin,hs2,hx,hrun,Result.andThen]
 ·obtain ⟨ad,rfl,hcell⟩:=(Kd.reads_of_C (enc:=Value.int .i64) (d:=(0:Int)) (h1:=fun _=>rfl) hr).2.2 h0
  obtain ⟨v',w',hrun,r1,r2⟩:=run_append_arg_grows (P:=Try.prog) (w:=W) 26 o.type 3 i0 (.int .i64 0) 1 8 Try.underlying26 hi0 hz0 hs0 hb0 rfl zX ad l.length l.length (nums .i64 l) (by rw [Cq,Nat.mul_one]) (fun j u hj=>by
   have hl:j<l.length:=by have:=(List.getElem?_eq_some_iff.1 hj).1; rwa [Cq] at this
   rw [hcell j hl]; simpa [nums,List.getD_eq_getElem?_getD,hl] using hj) ⟨g,0,none⟩ 1 1 [.int .i64 i] rfl hnews zD (by simp only [maxLen]; omega) zD
  refine DG hw (w1:=w') (v:=v') ?_ (h v' w' (hfin v' w' r1) r2)
  simp [execOp,ho,resolve,invoke,builtin,hs,hx,hrun,Result.andThen]
end
theorem BL.new {X:BCtx} {w0 W V:World} {st:BSt} {l:List Int} {x:Int} {A:Option Addr} {c:Nat} (h:BInv X w0 W st) (ho:Kd.R (Kd.int .i64) 3 V W.heap.size (fun _=>True) (.slice A (l++[x]).length c) (l++[x])):BL X V A c (l++[x]):=by
 have h1:=Kd.R_reads' ho
 refine ⟨h1.2.2,h1.2.1,fun h=>by simp at h,fun ad he=> ?_⟩
 subst he
 obtain ⟨g,cg,eg,gb,_⟩:=Kd.R_form ho zA1
 obtain ⟨vo,ho1,_⟩:=h.o
 have q1:=Ar h.f; have q2:=Ar h.l; have q3:=Ar ho1
 injection eg with e1 e2 e3
 injection e1 with e1
 subst e1
 rintro (h|h|h)<;>(simp only at h; omega)
set_option maxHeartbeats 8000000 in
theorem EO (X:BCtx) (w0:World) (k:Nat) (hn0:0≤X.n) (hn1:X.n≤1000):∀(d:Nat) (l:List Int) (A:Option Addr) (c:Nat) (st st':BSt) (W:World),BInv X w0 W st→BL X W A c l→l.length+d≤100000→bExt k X.m X.ts X.n d l st=some st'→
  Calls Try.prog 32 (#[.slice A l.length c]++X.caps) W fun e w'=>e= .returned (.tuple #[])∧BInv X w0 w' st'∧Kept W w' X.S
 |0,l,A,c,st,st',W,hI,hL,hm,h=>by simp [bExt] at h
 | d + 1, l, A,c,st,st',W,hI,hL,hm,h=>by
  have ih:=EO X w0 k hn0 hn1 d
  rw [bExt] at h
  by_cases hn:(l.length:Int)=X.n
  ·rw [if_pos hn] at h
   exact FS X w0 W k l A c st st' hI hL hn h
  ·rw [if_neg hn] at h
   show Calls Try.prog 32 #[.slice A l.length c,.pointer (some ⟨X.gn,0,none⟩),.pointer (some ⟨X.gp,0,none⟩),.pointer (some ⟨X.gf,0,none⟩),.pointer (some ⟨X.gl,0,none⟩),.pointer (some ⟨X.go,0,none⟩),.pointer (some ⟨X.ge,0,none⟩)] W _
   have HI:=Aside0.mk hI
   have HL:=Aside0.mk hL
   have HM:=Aside0.mk (show l.length≤1000000 by omega)
   have HM2:=Aside0.mk (show (l.length+1)+d≤100000 by omega)
   have HH:=Aside0.mk h
   have HN:=Aside0.mk hn1
   have HN0:=Aside0.mk hn0
   have n0:W.cell? ⟨X.gn,0,none⟩=some (.int .i64 X.n):=(AK hI.n 0).trans rfl
   have c1:((l.length:Int)==X.n)=false:=beq_eq_false_iff_ne.mpr hn
   clear hI hL hm h hn hn0 hn1
   go_enter Try.func32,Try.ntmps32
   go_wp2
   go_loopg [9,30] X.n.toNat (fun gg v9 v30 w'=>∃(i:Nat) (st1:BSt),v30= .int .i64 (i:Int)∧Aside0 (DJ k X.m X.ts X.n d l i (X.n.toNat-i) st1=some st')∧Aside0 (i≤X.n.toNat)∧Aside0 (X.n.toNat-i≤gg)∧Aside0 (BInv X w0 w' st1)∧Aside0 (Kept W w' X.S))
   case atStart=>exact ⟨0,st,rfl,⟨HH.out⟩,⟨Nat.zero_le _⟩,⟨by omega⟩,⟨HI.out⟩,⟨Kept.refl _ _⟩⟩
   case round=>
    clear HI HH n0
    obtain ⟨i,st1,rfl,HA,H1,H2,HI,HK⟩:=hrel
    by_cases c2:(i:Int)<X.n
    ·have c2b:decide ((i:Int)<X.n)=true:=decide_eq_true c2
     have ha:=HA.out
     have hlt:i<X.n.toNat:=by omega
     rw [show X.n.toNat-i=(X.n.toNat-(i+1))+1 by omega,CY,Option.bind_eq_some_iff] at ha
     obtain ⟨b,hb1,hb2⟩:=ha
     have HC:=Aside0.mk hb1
     clear HA c2
     cases b with
     | true=>
      rw [if_pos rfl] at hb2
      have HA:=Aside0.mk hb2
      clear hb1 hb2
      go_wp2_with (first|(go_at_call 35; (with_reducible refine (Aw.calls k A c l i true _ (HL.out.kept HK.out).r HL.out.cc HC.out).mono ?_); rintro e w' ⟨rfl,hd⟩; have HI1:=Aside0.mk (HI.out.below hd.below); have HK1:=Aside0.mk (HK.out.below hd.below); clear hd))
      go_roundg (X.n.toNat-(i+1))
      case measure=>have:=H2.out; omega
      case rel=>exact ⟨i+1,st1,by have:=HN.out; rw [show wrap64 ((i:Int)+1)=((i+1:Nat):Int) from by unfold wrap64; omega],HA,⟨by omega⟩,⟨by omega⟩,HI1,HK1⟩
     | false=>
      rw [if_neg zA1,Option.bind_eq_some_iff] at hb2
      obtain ⟨st2,hr1,hr2⟩:=hb2
      have HR2:=Aside0.mk hr1
      have HA:=Aside0.mk hr2
      clear hb1 hr1 hr2
      go_wp2_with (first|(go_at_call 35; (with_reducible refine (Aw.calls k A c l i false _ (HL.out.kept HK.out).r HL.out.cc HC.out).mono ?_); rintro e Wc ⟨rfl,hd⟩; have HI1:=Aside0.mk (HI.out.below hd.below); have HK1:=Aside0.mk (HK.out.below hd.below); clear hd HI HK))
      refine Bv (n:=11) (S:=fun w'=>w'.cell? ⟨X.ge,0,none⟩=some (.func (.func 32) #[] X.caps)) (ds:=[]) #[false,false,false,false,false,false,false,false,false,false,false] zF rfl rfl ((AK HI1.out.e 0).trans rfl) (fun hHeld=> ?_)
      have HI2:=Aside0.mk (HI1.out.below (AD (Below.refl _ _)))
      have HK2:=Aside0.mk (Kept.drew HK1.out)
      clear HI1 HK1
      generalize Wc.drew=W2 at hHeld HI2 HK2 ⊢
      refine Ah (i:=1) (N:=some 38) (v:= ?_) (a':= ?_) #[false,true,false,false,false,false,false,false,false,false,false] rfl rfl zF (fun _ _ _ h=>h) (Or.inl ⟨by rfl,?_⟩) ?_ ?_
      rotate_left
      ·intro w'
       go_simp
       with_reducible rfl
      rotate_left
      ·simp only [Act.put,List.setIfInBounds_toArray,List.set_cons_zero,List.set_cons_succ,AZ,Aa]
       rfl
      refine Ah (i:=2) (N:=some 39) (v:= ?_) (a':= ?_) #[false,true,true,false,false,false,false,false,false,false,false] rfl rfl zF (fun _ _ _ h=>h) (Or.inl ⟨by rfl,?_⟩) ?_ ?_
      rotate_left
      ·intro w'
       go_simp
       with_reducible rfl
      rotate_left
      ·simp only [Act.put,List.setIfInBounds_toArray,List.set_cons_zero,List.set_cons_succ,AZ,Aa]
       rfl
      refine Ah (i:=4) (N:=some 41) (v:= ?_) (a':= ?_) #[false,true,true,false,true,false,false,false,false,false,false] rfl rfl zF (fun _ _ _ h=>h) (Or.inl ⟨by rfl,?_⟩) ?_ ?_
      rotate_left
      ·intro w'
       go_simp
       with_reducible rfl
      rotate_left
      ·simp only [Act.put,List.setIfInBounds_toArray,List.set_cons_zero,List.set_cons_succ,AZ,Aa]
       rfl
      refine Ah (i:=7) (N:=some 44) (v:= ?_) (a':= ?_) #[false,true,true,false,true,false,false,true,false,false,false] rfl rfl zF (fun _ _ _ h=>h) (Or.inl ⟨by rfl,?_⟩) ?_ ?_
      rotate_left
      ·intro w'
       go_simp
       with_reducible rfl
      rotate_left
      ·simp only [Act.put,List.setIfInBounds_toArray,List.set_cons_zero,List.set_cons_succ,AZ,Aa]
       rfl
      refine Ah (i:=3) (N:=some 40) (v:= ?_) (a':= ?_) #[false,true,true,true,true,false,false,true,false,false,false] rfl rfl zF (fun _ _ _ h=>h) (Or.inl ⟨by rfl,?_⟩) ?_ ?_
      rotate_left
      ·intro w'
       go_simp
       with_reducible rfl
      rotate_left
      ·simp only [Act.put,List.setIfInBounds_toArray,List.set_cons_zero,List.set_cons_succ,AZ,Aa]
       rfl
      refine Ah (i:=5) (N:=some 42) (v:= ?_) (a':= ?_) #[false,true,true,true,true,true,false,true,false,false,false] rfl rfl zF (fun _ _ _ h=>h) (Or.inl ⟨by rfl,?_⟩) ?_ ?_
      rotate_left
      ·intro w'
       go_simp
       with_reducible rfl
      rotate_left
      ·simp only [Act.put,List.setIfInBounds_toArray,List.set_cons_zero,List.set_cons_succ,AZ,Aa]
       rfl
      refine BE (i:=0) (N:=some 37) (v:= ?_) (a':= ?_) #[true,true,true,true,true,true,false,true,false,false,false] rfl rfl zF (fun _ _ _ h=>h) (Or.inl ⟨by rfl,?_⟩) hHeld ?_ ?_
      rotate_left
      ·rintro w' s0
       go_simp
       with_reducible rfl
      rotate_left
      ·simp only [Act.put,List.setIfInBounds_toArray,List.set_cons_zero,List.set_cons_succ,AZ,Aa]
       rfl
      have hcc:=eq_true HL.out.cc
      have hA:Option.map (fun x:Addr=>x.add 0) A=A:=by cases A<;>simp [Addr.add]
      refine Ah (i:=6) (N:=some 43) (v:= .slice A l.length l.length) (a':= ?_) #[true,true,true,true,true,true,true,true,false,false,false] rfl rfl zF (fun _ _ _ h=>h) (Or.inl ⟨by rfl,?_⟩) ?_ ?_
      ·intro w'
       go_simp
      rotate_left
      ·simp only [Act.put,List.setIfInBounds_toArray,List.set_cons_zero,List.set_cons_succ,AZ,Aa]
       rfl
      refine one_ (i:=8) (N:=some 45) #[true,true,true,true,true,true,true,true,true,false,false] rfl rfl zF zX (fun K hK=> ?_)
      refine value_ (v:= .slice (some ⟨W2.heap.size,0,none⟩) 1 1) (w1:=W2.alloc (.cells #[.int .i64 (i:Int)] 3)) (by rfl) rfl ?_ ?_
      ·first|(go_simp; done)|(go_simp; rfl)
      have HI3:=Aside0.mk (HI2.out.below (AE (Below.refl _ _) (.cells #[.int .i64 (i:Int)] 3)))
      have HK3:=Aside0.mk (HK2.out.alloc (.cells #[.int .i64 (i:Int)] 3))
      have hcell:(W2.alloc (.cells #[.int .i64 (i:Int)] 3)).cell? ⟨W2.heap.size,0,none⟩=some (.int .i64 (i:Int)):=by simp
      refine hK.out _ _ ((AK HI3.out.e 0).trans rfl) (fun hHeld=> ?_)
      clear hK K HI2 HK2
      refine C4 (a':= ?_) ?_ ?_
      rotate_left
      ·show Act.put _ (some 45) _=_
       simp only [Act.put,List.setIfInBounds_toArray,List.set_cons_zero,List.set_cons_succ,AZ,Aa]
       rfl
      generalize W2.alloc (.cells #[.int .i64 (i:Int)] 3)=W3 at hHeld HI3 HK3 hcell ⊢
      refine one_ (i:=9) (N:=some 46) #[true,true,true,true,true,true,true,true,true,true,false] rfl rfl zF zX (fun K hK=> ?_)
      refine Fu l A W3 _ i (HL.out.kept HK3.out).r (fun h=>(HL.out.z h).1) (.tmp 43) (.tmp 45) (by rfl) rfl rfl rfl hcell HM.out (fun v4 W4 ho hg=> ?_)
      have hb:Below W3.heap.size W3 W4:=⟨hg.os,hg.tape,hg.output,hg.size,fun j hj=>hg.block j hj zA1⟩
      have HI4:=Aside0.mk (HI3.out.below hb)
      have HK4:=Aside0.mk (HK3.out.below hb)
      have HO:=Aside0.mk ho
      have HB4:=Aside0.mk hb
      clear hb ho hg
      refine hK.out _ _ ((AK HI4.out.e 0).trans rfl) (fun hHeld=> ?_)
      clear hK K
      refine C4 (a':= ?_) ?_ ?_
      rotate_left
      ·show Act.put _ (some 46) _=_
       simp only [Act.put,List.setIfInBounds_toArray,List.set_cons_zero,List.set_cons_succ,AZ,Aa]
       rfl
      obtain ⟨A4,c4,e4⟩:=Kd.R_slice HO.out
      subst e4
      refine one_ (i:=10) (N:=some 47) #[true,true,true,true,true,true,true,true,true,true,true] rfl rfl zF zX (fun K hK=> ?_)
      have hq:=ih (l++[(i:Int)]) A4 c4 st1 st2 W4 HI4.out (BL.new HI3.out HO.out) (by have:=HM2.out; simp only [List.length_append,List.length_cons,List.length_nil]; omega) HR2.out
      have he:=Cz Try.func32 zF rfl (#[.slice A4 (l++[(i:Int)]).length c4]++X.caps) W4
      refine call_ 32 (#[.slice A4 (l++[(i:Int)]).length c4]++X.caps) (by rfl) rfl (by unfold execOp; simp [resolve,Deferred.ofValue,invoke,Act.eval,he]) ?_
      refine hq.mono ?_
      rintro e W5 ⟨rfl,hI5,hK5⟩
      refine ⟨_,rfl,?_⟩
      have HI5:=Aside0.mk hI5
      have HK5:=Aside0.mk (HK4.out.then_ hK5 (fun _ h=> .inl h))
      clear hI5 hK5 hq he
      refine hK.out _ _ ((AK HI5.out.e 0).trans rfl) (fun hHeld=> ?_)
      clear hK K
      refine C4 (a':= ?_) ?_ ?_
      rotate_left
      ·show Act.put _ (some 47) _=_
       simp only [Act.put,List.setIfInBounds_toArray,List.set_cons_zero,List.set_cons_succ,AZ,Aa]
       rfl
      refine CJ zF ?_
      go_wp2
      go_roundg (X.n.toNat-(i+1))
      case measure=>have:=H2.out; omega
      case rel=>exact ⟨i+1,st2,by have:=HN.out; rw [show wrap64 ((i:Int)+1)=((i+1:Nat):Int) from by unfold wrap64; omega],HA,⟨by omega⟩,⟨by omega⟩,HI5,HK5⟩
    ·have c2b:decide ((i:Int)<X.n)=false:=decide_eq_false c2
     have ha:=HA.out
     rw [show X.n.toNat-i=0 by omega,CX] at ha
     cases ha
     go_wp2
     exact bodyPost_end (results_none rfl _ _ _) rfl ⟨rfl,HI.out,HK.out⟩
theorem D6 {P:Program} {w:World} {a:Addr} {m:Mode} (f:Fn) (x y:Array Value):(store a (.func f x y) m).run P w=stored P w a (.func f x y) m:=run_store P w a _ m rfl
attribute [local go_sem] D6
def B0.f (k:Nat) (A8:Int) (l0_1:List (S64)):Option (List Int×Int×Int):=(AM.f k A8 l0_1).bind fun v=>if v=true then (if (6:Int)<(l0_1.length:Int) then some ([],0,3) else (bExt k A8 l0_1 (l0_1.length:Int) 8 [] ([],0,false)).bind fun st=>some (st.1,st.2.1,0)) else some ([],0,1)
theorem Db (k:Nat) (m:Int) (ts:List S64) (n:Int):∀(d:Nat) (l:List Int) (st:BSt),LeO (bExt k m ts n d l st) (bExt (k+1) m ts n d l st)
 |0,l,st=>by rw [bExt]; exact LeO.none _
 | d + 1,l,st=>by
  have hl:∀(r i:Nat) (st:BSt),LeO (DJ k m ts n d l i r st) (DJ (k+1) m ts n d l i r st):=fun r=>by
   induction r with
   |zero=>intro i st; rw [CX,CX]; exact LeO.refl _
   | succ r ih=>
    intro i st
    rw [CY,CY]
    exact LeO.bind (Aw.mono _ _ _) fun b=>LeO.ite (ih _ _) (LeO.bind (Db k m ts n d _ _) fun st'=>ih _ _)
  rw [bExt,bExt]
  exact LeO.ite (LeO.bind (AS.mono _ _ _ _) fun s=>LeO.bind (AR.mono _ _ _ _) fun x=>LeO.refl _) (hl _ _ _)
theorem B0.mono:∀a0 a1 k,LeO (B0.f k a0 a1) (B0.f (k+1) a0 a1):=by
 intro a0 a1 k
 unfold B0.f
 exact LeO.bind (AM.mono _ _ _) fun v=>LeO.ite (LeO.ite (LeO.refl _) (LeO.bind (Db _ _ _ _ _ _ _) fun st=>LeO.refl _)) (LeO.refl _)
set_option maxHeartbeats 8000000 in
theorem B0.calls (k:Nat) (A8:Int) (A0_1:Option Addr) (c0_1:Nat) (l0_1:List (S64)) (r1:List Int) (r2:Int) (r3:Int) (w:World) (hr0_1:Kd.C k64 w A0_1 l0_1.length l0_1) (hc0_1:l0_1.length≤c0_1) (h:B0.f k A8 l0_1=some (r1,r2,r3)):
  Calls Try.prog 17 #[.agg #[.int .i64 A8,.slice A0_1 l0_1.length c0_1]] w fun e w'=>∃v0_:Value,e= .returned (.tuple #[v0_,.int .i64 r2,.int .i64 r3])∧Kd.R (Kd.int .i64) 3 w' w.heap.size (fun _=>True) v0_ r1∧Below w.heap.size w w':=by
 unfold B0.f at h
 rw [Option.bind_eq_some_iff] at h
 obtain ⟨v,hv,h⟩:=h
 have HR:=Aside0.mk hr0_1
 have HC:=Aside0.mk hc0_1
 have HV:=Aside0.mk hv
 have HB:=Aside0.mk (Below.refl w.heap.size w)
 have hu34:=Try.underlying34
 clear hr0_1 hc0_1 hv
 cases v with
 | false=>
  rw [if_neg zA1] at h
  cases h
  go_enter Try.func17,Try.ntmps17
  go_wp2_with (first|((with_reducible refine Am (N:=1) rfl ?_); refine Ak ?hg (N:=1) ?hd (cs:= #[.int .i64 A8,.slice A0_1 l0_1.length c0_1]) (t:=34) ?hr ?_; (case hd=>rfl); (case hg=>rfl); (case hr=>first|(go_simp; done)|(go_simp; rfl)); intro g1 hg g1_w hbox hb; have nHB_:=Aside0.mk (AO HB.out hb); have Gg1:=Aside0.mk (show w.heap.size≤g1 by rw [hg]; exact HB.out.size); have Bg1:=Aside0.mk hbox; clear HB; have HB:=nHB_; clear hb hbox hg nHB_)|((with_reducible refine Am (N:=2) rfl ?_); refine Ak ?hg (N:=2) ?hd (cs:= #[.slice none 0 0]) (t:=26) ?hr ?_; (case hd=>rfl); (case hg=>rfl); (case hr=>first|(go_simp; done)|(go_simp; rfl)); intro g2 hg g2_w hbox hb; have ng1_:=Aside0.mk (AN Bg1.out hb); have nHB_:=Aside0.mk (AO HB.out hb); have Gg2:=Aside0.mk (show w.heap.size≤g2 by rw [hg]; exact HB.out.size); have Bg2:=Aside0.mk hbox; clear Bg1 HB; have Bg1:=ng1_; have HB:=nHB_; clear hb hbox hg ng1_ nHB_)|((with_reducible refine Am (N:=3) rfl ?_); refine Ak ?hg (N:=3) ?hd (cs:= #[.int .i64 0]) (t:=3) ?hr ?_; (case hd=>rfl); (case hg=>rfl); (case hr=>first|(go_simp; done)|(go_simp; rfl)); intro g3 hg g3_w hbox hb; have ng1_:=Aside0.mk (AN Bg1.out hb); have ng2_:=Aside0.mk (AN Bg2.out hb); have nHB_:=Aside0.mk (AO HB.out hb); have Gg3:=Aside0.mk (show w.heap.size≤g3 by rw [hg]; exact HB.out.size); have Bg3:=Aside0.mk hbox; clear Bg1 Bg2 HB; have Bg1:=ng1_; have Bg2:=ng2_; have HB:=nHB_; clear hb hbox hg ng1_ ng2_ nHB_; have y1:g3_w.cell? ⟨g1,0,none⟩=some (.int .i64 A8):=(AK Bg1.out 0).trans rfl; have y2:g3_w.cell? ⟨g1,1,none⟩=some (.slice A0_1 l0_1.length c0_1):=(AK Bg1.out 1).trans rfl)|((with_reducible refine Ad (f:=29) rfl ?_); refine Ax (some 10) rfl rfl Try.func29 zF rfl #[.agg #[.int .i64 A8,.slice A0_1 l0_1.length c0_1]] rfl (by (try simp only [List.map_toArray,List.map_cons,List.map_nil]); first|done|rfl) ?_; (refine (AM.calls k A8 _ _ l0_1 false _ (Kd.C_below HR.out HB.out) HC.out HV.out).mono ?_); rintro e w5 ⟨rfl,hb⟩; refine ⟨_,rfl,?_⟩; have nHB_:=Aside0.mk (AO HB.out hb); have n1_:=Aside0.mk (AN Bg1.out hb); have n2_:=Aside0.mk (AN Bg2.out hb); have n3_:=Aside0.mk (AN Bg3.out hb); clear Bg1 Bg2 Bg3 HB hb y1 y2; have Bg1:=n1_; have Bg2:=n2_; have Bg3:=n3_; have HB:=nHB_; clear n1_ n2_ n3_ nHB_; have d1:g2≠g3:=CK Bg2.out Bg3.out zX; have d2:=d1.symm; have y3:w5.cell? ⟨g1,1,none⟩=some (.slice A0_1 l0_1.length c0_1):=(AK Bg1.out 1).trans rfl; have z2:w5.cell? ⟨g2,0,none⟩=some (.slice none 0 0):=(AK Bg2.out 0).trans rfl; have z3:w5.cell? ⟨g3,0,none⟩=some (.int .i64 0):=(AK Bg3.out 0).trans rfl; have f2:=AJ Bg2.out 0; have f3:=AJ Bg3.out 0))
  refine bodyPost_ret (v:= .tuple #[.slice none 0 0,.int .i64 0,.int .i64 1]) ?_ rfl ?_
  ·show (results Try.f17 _).run Try.prog _=_
   rw [results,show Try.f17.results= #[.cell 2 26,.cell 3 3,.tmp 4] from rfl]
   go_simp
  ·exact ⟨_,rfl,Kd.R_nil _ _ _ _ _,AH (AH HB.out Gg2.out) Gg3.out⟩
 | true=>
  rw [if_pos rfl] at h
  by_cases c6:(6:Int)<(l0_1.length:Int)
  ·rw [if_pos c6] at h
   cases h
   have c6b:decide ((6:Int)<(l0_1.length:Int))=true:=decide_eq_true c6
   clear c6
   go_enter Try.func17,Try.ntmps17
   go_wp2_with (first|((with_reducible refine Am (N:=1) rfl ?_); refine Ak ?hg (N:=1) ?hd (cs:= #[.int .i64 A8,.slice A0_1 l0_1.length c0_1]) (t:=34) ?hr ?_; (case hd=>rfl); (case hg=>rfl); (case hr=>first|(go_simp; done)|(go_simp; rfl)); intro g1 hg g1_w hbox hb; have nHB_:=Aside0.mk (AO HB.out hb); have Gg1:=Aside0.mk (show w.heap.size≤g1 by rw [hg]; exact HB.out.size); have Bg1:=Aside0.mk hbox; clear HB; have HB:=nHB_; clear hb hbox hg nHB_)|((with_reducible refine Am (N:=2) rfl ?_); refine Ak ?hg (N:=2) ?hd (cs:= #[.slice none 0 0]) (t:=26) ?hr ?_; (case hd=>rfl); (case hg=>rfl); (case hr=>first|(go_simp; done)|(go_simp; rfl)); intro g2 hg g2_w hbox hb; have ng1_:=Aside0.mk (AN Bg1.out hb); have nHB_:=Aside0.mk (AO HB.out hb); have Gg2:=Aside0.mk (show w.heap.size≤g2 by rw [hg]; exact HB.out.size); have Bg2:=Aside0.mk hbox; clear Bg1 HB; have Bg1:=ng1_; have HB:=nHB_; clear hb hbox hg ng1_ nHB_)|((with_reducible refine Am (N:=3) rfl ?_); refine Ak ?hg (N:=3) ?hd (cs:= #[.int .i64 0]) (t:=3) ?hr ?_; (case hd=>rfl); (case hg=>rfl); (case hr=>first|(go_simp; done)|(go_simp; rfl)); intro g3 hg g3_w hbox hb; have ng1_:=Aside0.mk (AN Bg1.out hb); have ng2_:=Aside0.mk (AN Bg2.out hb); have nHB_:=Aside0.mk (AO HB.out hb); have Gg3:=Aside0.mk (show w.heap.size≤g3 by rw [hg]; exact HB.out.size); have Bg3:=Aside0.mk hbox; clear Bg1 Bg2 HB; have Bg1:=ng1_; have Bg2:=ng2_; have HB:=nHB_; clear hb hbox hg ng1_ ng2_ nHB_; have y1:g3_w.cell? ⟨g1,0,none⟩=some (.int .i64 A8):=(AK Bg1.out 0).trans rfl; have y2:g3_w.cell? ⟨g1,1,none⟩=some (.slice A0_1 l0_1.length c0_1):=(AK Bg1.out 1).trans rfl)|((with_reducible refine Ad (f:=29) rfl ?_); refine Ax (some 10) rfl rfl Try.func29 zF rfl #[.agg #[.int .i64 A8,.slice A0_1 l0_1.length c0_1]] rfl (by (try simp only [List.map_toArray,List.map_cons,List.map_nil]); first|done|rfl) ?_; (refine (AM.calls k A8 _ _ l0_1 true _ (Kd.C_below HR.out HB.out) HC.out HV.out).mono ?_); rintro e w5 ⟨rfl,hb⟩; refine ⟨_,rfl,?_⟩; have nHB_:=Aside0.mk (AO HB.out hb); have n1_:=Aside0.mk (AN Bg1.out hb); have n2_:=Aside0.mk (AN Bg2.out hb); have n3_:=Aside0.mk (AN Bg3.out hb); clear Bg1 Bg2 Bg3 HB hb y1 y2; have Bg1:=n1_; have Bg2:=n2_; have Bg3:=n3_; have HB:=nHB_; clear n1_ n2_ n3_ nHB_; have d1:g2≠g3:=CK Bg2.out Bg3.out zX; have d2:=d1.symm; have y3:w5.cell? ⟨g1,1,none⟩=some (.slice A0_1 l0_1.length c0_1):=(AK Bg1.out 1).trans rfl; have z2:w5.cell? ⟨g2,0,none⟩=some (.slice none 0 0):=(AK Bg2.out 0).trans rfl; have z3:w5.cell? ⟨g3,0,none⟩=some (.int .i64 0):=(AK Bg3.out 0).trans rfl; have f2:=AJ Bg2.out 0; have f3:=AJ Bg3.out 0))
   refine bodyPost_ret (v:= .tuple #[.slice none 0 0,.int .i64 0,.int .i64 3]) ?_ rfl ?_
   ·show (results Try.f17 _).run Try.prog _=_
    rw [results,show Try.f17.results= #[.cell 2 26,.cell 3 3,.tmp 4] from rfl]
    go_simp
   ·exact ⟨_,rfl,Kd.R_nil _ _ _ _ _,AH (AH HB.out Gg2.out) Gg3.out⟩
  ·rw [if_neg c6] at h
   rw [Option.bind_eq_some_iff] at h
   obtain ⟨st,hst,h⟩:=h
   have HS:=Aside0.mk (Option.some.inj h)
   have eg:∀args w,(callFunc 32 args).run Try.prog w= .ok (.enter 32 args) w:=fun args w=>Cz Try.func32 zF rfl args w
   have c6b:decide ((6:Int)<(l0_1.length:Int))=false:=decide_eq_false c6
   have hl6:(l0_1.length:Int)≤6:=by omega
   have hext:∀ {g5 g1 g6 g3 g2 g7:Nat} (W:World) (hI:BInv ⟨A8,A0_1,c0_1,l0_1,(l0_1.length:Int),g5,g1,g6,g3,g2,g7⟩ w W ([],0,false)),Calls Try.prog 32 (#[.slice none 0 0]++ #[.pointer (some ⟨g5,0,none⟩),.pointer (some ⟨g1,0,none⟩),.pointer (some ⟨g6,0,none⟩),.pointer (some ⟨g3,0,none⟩),.pointer (some ⟨g2,0,none⟩),.pointer (some ⟨g7,0,none⟩)]) W fun e w'=>e= .returned (.tuple #[])∧BInv ⟨A8,A0_1,c0_1,l0_1,(l0_1.length:Int),g5,g1,g6,g3,g2,g7⟩ w w' st∧Kept W w' (BCtx.S ⟨A8,A0_1,c0_1,l0_1,(l0_1.length:Int),g5,g1,g6,g3,g2,g7⟩):=fun {g5 g1 g6 g3 g2 g7} W hI=>
    EO ⟨A8,A0_1,c0_1,l0_1,(l0_1.length:Int),g5,g1,g6,g3,g2,g7⟩ w k (by show (0:Int)≤(l0_1.length:Int); omega) (by show (l0_1.length:Int)≤1000; omega) 8 [] none 0 ([],0,false) st W hI ⟨Kd.C_nil _ _,by simp,fun _=>⟨rfl,rfl⟩,fun ad he=>by cases he⟩ zA1 hst
   clear h hst c6 hl6
   go_enter Try.func17,Try.ntmps17
   go_wp2_with (first|((with_reducible refine Am (N:=1) rfl ?_); refine Ak ?hg (N:=1) ?hd (cs:= #[.int .i64 A8,.slice A0_1 l0_1.length c0_1]) (t:=34) ?hr ?_; (case hd=>rfl); (case hg=>rfl); (case hr=>first|(go_simp; done)|(go_simp; rfl)); intro g1 hg g1_w hbox hb; have nHB_:=Aside0.mk (AO HB.out hb); have Gg1:=Aside0.mk (show w.heap.size≤g1 by rw [hg]; exact HB.out.size); have Bg1:=Aside0.mk hbox; clear HB; have HB:=nHB_; clear hb hbox hg nHB_)|((with_reducible refine Am (N:=2) rfl ?_); refine Ak ?hg (N:=2) ?hd (cs:= #[.slice none 0 0]) (t:=26) ?hr ?_; (case hd=>rfl); (case hg=>rfl); (case hr=>first|(go_simp; done)|(go_simp; rfl)); intro g2 hg g2_w hbox hb; have ng1_:=Aside0.mk (AN Bg1.out hb); have nHB_:=Aside0.mk (AO HB.out hb); have Gg2:=Aside0.mk (show w.heap.size≤g2 by rw [hg]; exact HB.out.size); have Bg2:=Aside0.mk hbox; clear Bg1 HB; have Bg1:=ng1_; have HB:=nHB_; clear hb hbox hg ng1_ nHB_)|((with_reducible refine Am (N:=3) rfl ?_); refine Ak ?hg (N:=3) ?hd (cs:= #[.int .i64 0]) (t:=3) ?hr ?_; (case hd=>rfl); (case hg=>rfl); (case hr=>first|(go_simp; done)|(go_simp; rfl)); intro g3 hg g3_w hbox hb; have ng1_:=Aside0.mk (AN Bg1.out hb); have ng2_:=Aside0.mk (AN Bg2.out hb); have nHB_:=Aside0.mk (AO HB.out hb); have Gg3:=Aside0.mk (show w.heap.size≤g3 by rw [hg]; exact HB.out.size); have Bg3:=Aside0.mk hbox; clear Bg1 Bg2 HB; have Bg1:=ng1_; have Bg2:=ng2_; have HB:=nHB_; clear hb hbox hg ng1_ ng2_ nHB_; have y1:g3_w.cell? ⟨g1,0,none⟩=some (.int .i64 A8):=(AK Bg1.out 0).trans rfl; have y2:g3_w.cell? ⟨g1,1,none⟩=some (.slice A0_1 l0_1.length c0_1):=(AK Bg1.out 1).trans rfl)|((with_reducible refine Ad (f:=29) rfl ?_); refine Ax (some 10) rfl rfl Try.func29 zF rfl #[.agg #[.int .i64 A8,.slice A0_1 l0_1.length c0_1]] rfl (by (try simp only [List.map_toArray,List.map_cons,List.map_nil]); first|done|rfl) ?_; (refine (AM.calls k A8 _ _ l0_1 true _ (Kd.C_below HR.out HB.out) HC.out HV.out).mono ?_); rintro e w5 ⟨rfl,hb⟩; refine ⟨_,rfl,?_⟩; have nHB_:=Aside0.mk (AO HB.out hb); have n1_:=Aside0.mk (AN Bg1.out hb); have n2_:=Aside0.mk (AN Bg2.out hb); have n3_:=Aside0.mk (AN Bg3.out hb); clear Bg1 Bg2 Bg3 HB hb y1 y2; have Bg1:=n1_; have Bg2:=n2_; have Bg3:=n3_; have HB:=nHB_; clear n1_ n2_ n3_ nHB_; have d1:g2≠g3:=CK Bg2.out Bg3.out zX; have d2:=d1.symm; have y3:w5.cell? ⟨g1,1,none⟩=some (.slice A0_1 l0_1.length c0_1):=(AK Bg1.out 1).trans rfl; have z2:w5.cell? ⟨g2,0,none⟩=some (.slice none 0 0):=(AK Bg2.out 0).trans rfl; have z3:w5.cell? ⟨g3,0,none⟩=some (.int .i64 0):=(AK Bg3.out 0).trans rfl; have f2:=AJ Bg2.out 0; have f3:=AJ Bg3.out 0)|((with_reducible refine Am (N:=5) rfl ?_); refine Ak ?hg (N:=5) ?hd (cs:= #[.int .i64 0]) (t:=3) ?hr ?_; (case hd=>rfl); (case hg=>rfl); (case hr=>first|(go_simp; done)|(go_simp; rfl)); intro g5 hg g5_w hbox hb; have Eg1g5:g1≠g5:=(by rw [hg]; exact Nat.ne_of_lt (Ar Bg1.out)); have Eg5g1:=Eg1g5.symm; have Eg2g5:g2≠g5:=(by rw [hg]; exact Nat.ne_of_lt (Ar Bg2.out)); have Eg5g2:=Eg2g5.symm; have Eg3g5:g3≠g5:=(by rw [hg]; exact Nat.ne_of_lt (Ar Bg3.out)); have Eg5g3:=Eg3g5.symm; have ng1_:=Aside0.mk (AN Bg1.out hb); have ng2_:=Aside0.mk (AN Bg2.out hb); have ng3_:=Aside0.mk (AN Bg3.out hb); have nHB_:=Aside0.mk (AO HB.out hb); have Gg5:=Aside0.mk (show w.heap.size≤g5 by rw [hg]; exact HB.out.size); have Bg5:=Aside0.mk hbox; clear Bg1 Bg2 Bg3 HB; have Bg1:=ng1_; have Bg2:=ng2_; have Bg3:=ng3_; have HB:=nHB_; clear hb hbox hg ng1_ ng2_ ng3_ nHB_; have kg5:=AJ Bg5.out 0; have qg5:g5_w.cell? ⟨g5,0,none⟩=some (.int .i64 0):=(AK Bg5.out 0).trans rfl)|((with_reducible refine Bg (t:=3) (p:=5) rfl ?_); refine Bc (t:=3) (p:=5) (v:= ?vo_g5) (w1:=(g5_w.setCell ⟨g5,0,none⟩ (.int .i64 (l0_1.length:Int)))) ?hg ?ho ?hn ?hr ?_; (case ho=>rfl); (case hg=>rfl); (case hn=>rfl); (case hr=>first|(go_simp; done)|(go_simp; rfl)); intro sg5_w hw; have ng1_:Aside0 (sg5_w.heap[g1]? =some (.cells #[.int .i64 A8,.slice A0_1 l0_1.length c0_1] 34 (0,0))):=⟨(by rw [hw]; exact AV Bg1.out Eg1g5 _)⟩; have ng2_:Aside0 (sg5_w.heap[g2]? =some (.cells #[.slice none 0 0] 26 (0,0))):=⟨(by rw [hw]; exact AV Bg2.out Eg2g5 _)⟩; have ng3_:Aside0 (sg5_w.heap[g3]? =some (.cells #[.int .i64 0] 3 (0,0))):=⟨(by rw [hw]; exact AV Bg3.out Eg3g5 _)⟩; have ng5_:Aside0 (sg5_w.heap[g5]? =some (.cells #[.int .i64 (l0_1.length:Int)] 3 (0,0))):=⟨(by rw [hw]; exact At (cs:= #[.int .i64 0]) Bg5.out 0 _ rfl)⟩; have nHB_:Aside0 (Below w.heap.size w sg5_w):=⟨(by rw [hw]; exact AH HB.out Gg5.out)⟩; clear Bg1 Bg2 Bg3 Bg5 HB kg5 qg5; have Bg1:=ng1_; have Bg2:=ng2_; have Bg3:=ng3_; have Bg5:=ng5_; have HB:=nHB_; clear hw ng1_ ng2_ ng3_ ng5_ nHB_)|((with_reducible refine Am (N:=6) rfl ?_); refine Ak ?hg (N:=6) ?hd (cs:= #[.bool false]) (t:=4) ?hr ?_; (case hd=>rfl); (case hg=>rfl); (case hr=>first|(go_simp; done)|(go_simp; rfl)); intro g6 hg g6_w hbox hb; have Eg1g6:g1≠g6:=(by rw [hg]; exact Nat.ne_of_lt (Ar Bg1.out)); have Eg6g1:=Eg1g6.symm; have Eg2g6:g2≠g6:=(by rw [hg]; exact Nat.ne_of_lt (Ar Bg2.out)); have Eg6g2:=Eg2g6.symm; have Eg3g6:g3≠g6:=(by rw [hg]; exact Nat.ne_of_lt (Ar Bg3.out)); have Eg6g3:=Eg3g6.symm; have Eg5g6:g5≠g6:=(by rw [hg]; exact Nat.ne_of_lt (Ar Bg5.out)); have Eg6g5:=Eg5g6.symm; have ng1_:=Aside0.mk (AN Bg1.out hb); have ng2_:=Aside0.mk (AN Bg2.out hb); have ng3_:=Aside0.mk (AN Bg3.out hb); have ng5_:=Aside0.mk (AN Bg5.out hb); have nHB_:=Aside0.mk (AO HB.out hb); have Gg6:=Aside0.mk (show w.heap.size≤g6 by rw [hg]; exact HB.out.size); have Bg6:=Aside0.mk hbox; clear Bg1 Bg2 Bg3 Bg5 HB; have Bg1:=ng1_; have Bg2:=ng2_; have Bg3:=ng3_; have Bg5:=ng5_; have HB:=nHB_; clear hb hbox hg ng1_ ng2_ ng3_ ng5_ nHB_; have kg6:=AJ Bg6.out 0; have qg6:g6_w.cell? ⟨g6,0,none⟩=some (.bool false):=(AK Bg6.out 0).trans rfl)|((with_reducible refine Bg (t:=4) (p:=6) rfl ?_); refine Bc (t:=4) (p:=6) (v:= ?vo_g6) (w1:=(g6_w.setCell ⟨g6,0,none⟩ (.bool false))) ?hg ?ho ?hn ?hr ?_; (case ho=>rfl); (case hg=>rfl); (case hn=>rfl); (case hr=>first|(go_simp; done)|(go_simp; rfl)); intro sg6_w hw; have ng1_:Aside0 (sg6_w.heap[g1]? =some (.cells #[.int .i64 A8,.slice A0_1 l0_1.length c0_1] 34 (0,0))):=⟨(by rw [hw]; exact AV Bg1.out Eg1g6 _)⟩; have ng2_:Aside0 (sg6_w.heap[g2]? =some (.cells #[.slice none 0 0] 26 (0,0))):=⟨(by rw [hw]; exact AV Bg2.out Eg2g6 _)⟩; have ng3_:Aside0 (sg6_w.heap[g3]? =some (.cells #[.int .i64 0] 3 (0,0))):=⟨(by rw [hw]; exact AV Bg3.out Eg3g6 _)⟩; have ng5_:Aside0 (sg6_w.heap[g5]? =some (.cells #[.int .i64 (l0_1.length:Int)] 3 (0,0))):=⟨(by rw [hw]; exact AV Bg5.out Eg5g6 _)⟩; have ng6_:Aside0 (sg6_w.heap[g6]? =some (.cells #[.bool false] 4 (0,0))):=⟨(by rw [hw]; exact At (cs:= #[.bool false]) Bg6.out 0 _ rfl)⟩; have nHB_:Aside0 (Below w.heap.size w sg6_w):=⟨(by rw [hw]; exact AH HB.out Gg6.out)⟩; clear Bg1 Bg2 Bg3 Bg5 Bg6 HB kg6 qg6; have Bg1:=ng1_; have Bg2:=ng2_; have Bg3:=ng3_; have Bg5:=ng5_; have Bg6:=ng6_; have HB:=nHB_; clear hw ng1_ ng2_ ng3_ ng5_ ng6_ nHB_)|((with_reducible refine Am (N:=7) rfl ?_); refine Ak ?hg (N:=7) ?hd (cs:= #[.nilFunc]) (t:=69) ?hr ?_; (case hd=>rfl); (case hg=>rfl); (case hr=>first|(go_simp; done)|(go_simp; rfl)); intro g7 hg g7_w hbox hb; have Eg1g7:g1≠g7:=(by rw [hg]; exact Nat.ne_of_lt (Ar Bg1.out)); have Eg7g1:=Eg1g7.symm; have Eg2g7:g2≠g7:=(by rw [hg]; exact Nat.ne_of_lt (Ar Bg2.out)); have Eg7g2:=Eg2g7.symm; have Eg3g7:g3≠g7:=(by rw [hg]; exact Nat.ne_of_lt (Ar Bg3.out)); have Eg7g3:=Eg3g7.symm; have Eg5g7:g5≠g7:=(by rw [hg]; exact Nat.ne_of_lt (Ar Bg5.out)); have Eg7g5:=Eg5g7.symm; have Eg6g7:g6≠g7:=(by rw [hg]; exact Nat.ne_of_lt (Ar Bg6.out)); have Eg7g6:=Eg6g7.symm; have ng1_:=Aside0.mk (AN Bg1.out hb); have ng2_:=Aside0.mk (AN Bg2.out hb); have ng3_:=Aside0.mk (AN Bg3.out hb); have ng5_:=Aside0.mk (AN Bg5.out hb); have ng6_:=Aside0.mk (AN Bg6.out hb); have nHB_:=Aside0.mk (AO HB.out hb); have Gg7:=Aside0.mk (show w.heap.size≤g7 by rw [hg]; exact HB.out.size); have Bg7:=Aside0.mk hbox; clear Bg1 Bg2 Bg3 Bg5 Bg6 HB; have Bg1:=ng1_; have Bg2:=ng2_; have Bg3:=ng3_; have Bg5:=ng5_; have Bg6:=ng6_; have HB:=nHB_; clear hb hbox hg ng1_ ng2_ ng3_ ng5_ ng6_ nHB_; have kg7:=AJ Bg7.out 0; have qg7:g7_w.cell? ⟨g7,0,none⟩=some (.nilFunc):=(AK Bg7.out 0).trans rfl)|((with_reducible refine Bg (t:=69) (p:=7) rfl ?_); refine Bc (t:=69) (p:=7) (v:= ?vo_g7) (w1:=(g7_w.setCell ⟨g7,0,none⟩ (.func (.func 32) #[] #[.pointer (some ⟨g5,0,none⟩),.pointer (some ⟨g1,0,none⟩),.pointer (some ⟨g6,0,none⟩),.pointer (some ⟨g3,0,none⟩),.pointer (some ⟨g2,0,none⟩),.pointer (some ⟨g7,0,none⟩)]))) ?hg ?ho ?hn ?hr ?_; (case ho=>rfl); (case hg=>rfl); (case hn=>rfl); (case hr=>first|(go_simp; done)|(go_simp; rfl)); intro sg7_w hw; have ng1_:Aside0 (sg7_w.heap[g1]? =some (.cells #[.int .i64 A8,.slice A0_1 l0_1.length c0_1] 34 (0,0))):=⟨(by rw [hw]; exact AV Bg1.out Eg1g7 _)⟩; have ng2_:Aside0 (sg7_w.heap[g2]? =some (.cells #[.slice none 0 0] 26 (0,0))):=⟨(by rw [hw]; exact AV Bg2.out Eg2g7 _)⟩; have ng3_:Aside0 (sg7_w.heap[g3]? =some (.cells #[.int .i64 0] 3 (0,0))):=⟨(by rw [hw]; exact AV Bg3.out Eg3g7 _)⟩; have ng5_:Aside0 (sg7_w.heap[g5]? =some (.cells #[.int .i64 (l0_1.length:Int)] 3 (0,0))):=⟨(by rw [hw]; exact AV Bg5.out Eg5g7 _)⟩; have ng6_:Aside0 (sg7_w.heap[g6]? =some (.cells #[.bool false] 4 (0,0))):=⟨(by rw [hw]; exact AV Bg6.out Eg6g7 _)⟩; have ng7_:Aside0 (sg7_w.heap[g7]? =some (.cells #[.func (.func 32) #[] #[.pointer (some ⟨g5,0,none⟩),.pointer (some ⟨g1,0,none⟩),.pointer (some ⟨g6,0,none⟩),.pointer (some ⟨g3,0,none⟩),.pointer (some ⟨g2,0,none⟩),.pointer (some ⟨g7,0,none⟩)]] 69 (0,0))):=⟨(by rw [hw]; exact At (cs:= #[.nilFunc]) Bg7.out 0 _ rfl)⟩; have nHB_:Aside0 (Below w.heap.size w sg7_w):=⟨(by rw [hw]; exact AH HB.out Gg7.out)⟩; clear Bg1 Bg2 Bg3 Bg5 Bg6 Bg7 HB kg7 qg7; have Bg1:=ng1_; have Bg2:=ng2_; have Bg3:=ng3_; have Bg5:=ng5_; have Bg6:=ng6_; have Bg7:=ng7_; have HB:=nHB_; clear hw ng1_ ng2_ ng3_ ng5_ ng6_ ng7_ nHB_; have qe:sg7_w.cell? ⟨g7,0,none⟩=some (.func (.func 32) #[] #[.pointer (some ⟨g5,0,none⟩),.pointer (some ⟨g1,0,none⟩),.pointer (some ⟨g6,0,none⟩),.pointer (some ⟨g3,0,none⟩),.pointer (some ⟨g2,0,none⟩),.pointer (some ⟨g7,0,none⟩)]):=(AK Bg7.out 0).trans rfl; have HI:=Aside0.mk (show BInv ⟨A8,A0_1,c0_1,l0_1,(l0_1.length:Int),g5,g1,g6,g3,g2,g7⟩ w sg7_w ([],0,false) from ⟨Bg5.out,Bg1.out,Bg6.out,Bg3.out,⟨_,Bg2.out,Kd.R_nil _ _ _ _ _⟩,Bg7.out,HB.out,Eg5g3,Gg6.out,Gg3.out,Gg2.out,HR.out,HC.out⟩))|(go_at_fn 32; refine (hext sg7_w HI.out).mono ?_; rintro e w9 ⟨rfl,hI9,hK9⟩; have HI9:=Aside0.mk hI9; clear hI9 hK9 HI qe))
   obtain ⟨vo,ho1,ho2⟩:=HI9.out.o
   obtain ⟨Ao,co,eo⟩:=Kd.R_slice ho2
   subst eo
   have Bo:=Aside0.mk (show w9.drew.heap[g2]? =some (.cells #[.slice Ao st.1.length co] 26 (0,0)) from ho1)
   have Bl:=Aside0.mk (show w9.drew.heap[g3]? =some (.cells #[.int .i64 st.2.1] 3 (0,0)) from HI9.out.l)
   have HO:=Aside0.mk (Kd.R_drew ho2)
   have HB9:=Aside0.mk (AD HI9.out.b)
   refine Bv (n:=5) (S:=fun w'=>w'.cell? ⟨g2,0,none⟩=some (.slice Ao st.1.length co)∧w'.cell? ⟨g3,0,none⟩=some (.int .i64 st.2.1)) (ds:=[]) #[false,false,false,false,false] zF rfl rfl ⟨(AK Bo.out 0).trans rfl,(AK Bl.out 0).trans rfl⟩ (fun hHeld=> ?_)
   clear HI9 ho1 ho2 HB Bg1 Bg2 Bg3 Bg5 Bg6 Bg7
   have hne:g2≠g3:=CK Bo.out Bl.out zX
   have hne':=hne.symm
   generalize w9.drew=wd at hHeld Bo Bl HO HB9 ⊢
   have fo:=AJ Bo.out 0
   have fl:=AJ Bl.out 0
   refine BE (i:=0) (N:=some 23) (v:= ?_) (a':= ?_) #[true,false,false,false,false] rfl rfl zF (fun _ _ _ h=>h) (Or.inl ⟨by rfl,?_⟩) hHeld ?_ ?_
   rotate_left
   ·rintro w' ⟨s0,s1⟩
    go_simp
    with_reducible rfl
   rotate_left
   ·simp only [Act.put,List.setIfInBounds_toArray,List.set_cons_zero,List.set_cons_succ,AZ,Aa]
    rfl
   refine BE (i:=1) (N:=some 24) (v:= ?_) (a':= ?_) #[true,true,false,false,false] rfl rfl zF (fun _ _ _ h=>h) (Or.inl ⟨by rfl,?_⟩) hHeld ?_ ?_
   rotate_left
   ·rintro w' ⟨s0,s1⟩
    go_simp
    with_reducible rfl
   rotate_left
   ·simp only [Act.put,List.setIfInBounds_toArray,List.set_cons_zero,List.set_cons_succ,AZ,Aa]
    rfl
   refine one_ (i:=2) (N:=none) #[true,true,true,false,false] rfl rfl zF zX (fun K hK=> ?_)
   have hc0:=hHeld.1
   refine Eq (w1:=wd.setCell ⟨g2,0,none⟩ (.slice Ao st.1.length co)) (by rfl) rfl ?_ ?_
   ·first|(go_simp; done)|(go_simp; rfl)
   have Bo2:=Aside0.mk (show (wd.setCell ⟨g2,0,none⟩ (.slice Ao st.1.length co)).heap[g2]? =some (.cells #[.slice Ao st.1.length co] 26 (0,0)) from At (cs:= #[.slice Ao st.1.length co]) Bo.out 0 _ rfl)
   have Bl2:=Aside0.mk (AV Bl.out hne' (.slice Ao st.1.length co):(wd.setCell ⟨g2,0,none⟩ (.slice Ao st.1.length co)).heap[g3]? =_)
   have HO2:=Aside0.mk (Kd.R_set HO.out Bo.out zX 0 (.slice Ao st.1.length co))
   have HB10:=Aside0.mk (AH (j:=0) (v:= .slice Ao st.1.length co) HB9.out Gg2.out)
   refine hK.out _ _ ⟨(AK Bo2.out 0).trans rfl,(AK Bl2.out 0).trans rfl⟩ (fun hHeld=> ?_)
   clear hK K hc0 Bo Bl HO HB9 fo fl
   generalize wd.setCell ⟨g2,0,none⟩ (.slice Ao st.1.length co)=we at hHeld Bo2 Bl2 HO2 HB10 ⊢
   have fo:=AJ Bo2.out 0
   have fl:=AJ Bl2.out 0
   refine one_ (i:=3) (N:=none) #[true,true,true,true,false] rfl rfl zF zX (fun K hK=> ?_)
   have hc0:=hHeld.2
   refine Eq (w1:=we.setCell ⟨g3,0,none⟩ (.int .i64 st.2.1)) (by rfl) rfl ?_ ?_
   ·first|(go_simp; done)|(go_simp; rfl)
   have Bl3:=Aside0.mk (show (we.setCell ⟨g3,0,none⟩ (.int .i64 st.2.1)).heap[g3]? =some (.cells #[.int .i64 st.2.1] 3 (0,0)) from At (cs:= #[.int .i64 st.2.1]) Bl2.out 0 _ rfl)
   have Bo3:=Aside0.mk (AV Bo2.out hne (.int .i64 st.2.1):(we.setCell ⟨g3,0,none⟩ (.int .i64 st.2.1)).heap[g2]? =_)
   have HO3:=Aside0.mk (Kd.R_mono (Kd.R_far (p:=⟨g3,0,none⟩) HO2.out (fun k hk=>hk.2) (.int .i64 st.2.1)) (fun _ _=>trivial):Kd.R (Kd.int .i64) 3 _ w.heap.size (fun _=>True) _ _)
   have HB11:=Aside0.mk (AH (j:=0) (v:= .int .i64 st.2.1) HB10.out Gg3.out)
   refine hK.out _ _ ⟨(AK Bo3.out 0).trans rfl,(AK Bl3.out 0).trans rfl⟩ (fun hHeld=> ?_)
   clear hK K hc0 Bo2 Bl2 HO2 HB10 fo fl
   generalize we.setCell ⟨g3,0,none⟩ (.int .i64 st.2.1)=wf at hHeld Bo3 Bl3 HO3 HB11 ⊢
   refine Ah (i:=4) (N:=some 4) (v:= ?_) (a':= ?_) #[true,true,true,true,true] rfl rfl zF (fun _ _ _ h=>h) (Or.inl ⟨by rfl,?_⟩) ?_ ?_
   rotate_left
   ·intro w'
    go_simp
    with_reducible rfl
   rotate_left
   ·simp only [Act.put,List.setIfInBounds_toArray,List.set_cons_zero,List.set_cons_succ,AZ,Aa]
    rfl
   refine CJ zF ?_
   go_wp2
   have z2:=hHeld.1
   have z3:=hHeld.2
   have hs:=HS.out
   cases hs
   refine bodyPost_ret (v:= .tuple #[.slice Ao st.1.length co,.int .i64 st.2.1,.int .i64 0]) ?_ rfl ?_
   ·show (results Try.f17 _).run Try.prog _=_
    rw [results,show Try.f17.results= #[.cell 2 26,.cell 3 3,.tmp 4] from rfl]
    go_simp
   ·exact ⟨_,rfl,HO3.out,HB11.out⟩
def An.f (k:Nat):Option (Bool):=(some (([(⟨(⟨#[97]⟩:ByteArray),2,5,([]:List Int)⟩:S64),(⟨(⟨#[98]⟩:ByteArray),2,5,([]:List Int)⟩:S64),(⟨(⟨#[99]⟩:ByteArray),3,4,([]:List Int)⟩:S64)]:List (S64)):List (S64))).bind fun y205=>((AU.f k 2 y205 (([0,1,2]:List Int))).bind fun bt212=>((Ai.f k 2 y205 bt212.1).bind fun bt216=>((Al.f k 2 y205).bind fun bt218=>((B0.f k 2 y205).bind fun bt220=>(if bt212.2=0 then (if bt216.2=0 then (if bt218.2=0 then (if bt220.2.2=0 then (if (bt212.1.length:Int)=3 then (if 2<(bt212.1.length:Int) then (if ((Ae bt212.1 2).f1)=2 then (if bt216.1=5 then (if bt218.1=4 then (if bt220.2.1=(-1) then ((AM.f k 2 y205).bind fun t226=>(some t226)) else (some false)) else (some false)) else (some false)) else (some false)) else (none)) else (some false)) else (some false)) else (some false)) else (some false)) else (some false))))))
theorem An.mono:∀k,LeO (An.f k) (An.f (k+1)):=by
 intro k
 unfold An.f
 repeat' first
  |(with_reducible exact B0.mono _ _ _)
  |(with_reducible exact Al.mono _ _ _)
  |(with_reducible exact Ai.mono _ _ _ _)
  |(with_reducible exact AU.mono _ _ _ _)
  |(with_reducible exact AM.mono _ _ _)
  |(with_reducible exact LeO.refl _)
  |(with_reducible exact LeO.none _)
  |(with_reducible refine LeO.ite ?_ ?_)
  |(with_reducible refine LeO.bind ?_ (fun _=> ?_))
  |exact B0.mono _ _ _
  |exact Al.mono _ _ _
  |exact Ai.mono _ _ _ _
  |exact AU.mono _ _ _ _
  |exact AM.mono _ _ _
  |exact LeO.none _
  |refine LeO.ite ?_ ?_
  |refine LeO.bind ?_ (fun _=> ?_)
section
set_option maxRecDepth 100000
def exT:List S64:=[(⟨(⟨#[97]⟩:ByteArray),2,5,([]:List Int)⟩:S64),(⟨(⟨#[98]⟩:ByteArray),2,5,([]:List Int)⟩:S64),(⟨(⟨#[99]⟩:ByteArray),3,4,([]:List Int)⟩:S64)]
theorem nm (c:UInt8) (h:CC (c.toNat:Int)=true):B8.f ⟨#[c]⟩=some true:=by
 have hb:bt ⟨#[c]⟩ 0=(c.toNat:Int):=rfl
 have hg:C6 ⟨#[c]⟩ (ByteArray.size ⟨#[c]⟩) 0=1:=by
  show C6 ⟨#[c]⟩ 1 0=1
  rw [C6,if_pos,C6]
  show DX (bt ⟨#[c]⟩ 0)=true
  rw [hb]; unfold DX; rw [h]; rfl
 have hl:ByteArray.toList ⟨#[c]⟩=[c]:=ByteArray.toList_eq _
 have hr:BA.f ⟨#[c]⟩=some false:=by
  unfold BA.f
  rw [hl]
  simp
 have hs:ByteArray.size ⟨#[c]⟩=1:=rfl
 unfold B8.f
 rw [hl,if_neg zA1,if_pos (by rw [hs]; decide),BR.f,if_pos (by rw [hs]; decide),hb,if_pos h,hg,Option.bind_some,if_pos (by rw [hs]),hr]
 rfl
theorem tl (c:UInt8):ByteArray.toList ⟨#[c]⟩=[c]:=ByteArray.toList_eq _
theorem exV:AM.f 60 2 exT=some true:=by
 have na:=nm 97 zX; have nb:=nm 98 zX; have nc:=nm 99 zX
 simp [exT,AM.f,AM.j0,AM.l0,AM.j2,AM.l1,AL,na,nb,nc,BT.f,wrap64,tl]
theorem awake60:An.f 60=some true:=by
 unfold An.f
 simp only [Option.bind_some,AU.f,Ai.f,AT.f,Al.f,Ac.f,B0.f,show ([(⟨(⟨#[97]⟩:ByteArray),2,5,([]:List Int)⟩:S64),(⟨(⟨#[98]⟩:ByteArray),2,5,([]:List Int)⟩:S64),(⟨(⟨#[99]⟩:ByteArray),3,4,([]:List Int)⟩:S64)]:List S64)=exT from rfl,exV]
 decide+kernel
theorem Eh {k:Nat} {r:Bool} (h:An.f k=some r):r=true:=by
 have h1:=Co (fun k=>An.mono k) (Nat.le_max_left k 60) h
 have h2:=Co (fun k=>An.mono k) (Nat.le_max_right k 60) awake60
 rw [h1] at h2
 exact Option.some.inj h2
end
set_option maxHeartbeats 8000000 in
theorem An.calls0 (k:Nat) (r:Bool) (w:World) (h:An.f k=some r) (HRT:Aside0 (r=true)):
  Calls Try.prog 9 #[] w fun e w'=>e= .returned (.bool r)∧Below w.heap.size w w':=by
 have hu64:=Try.underlying64
 have hu34:=Try.underlying34
 have HB:=Aside0.mk (Below.refl w.heap.size w)
 have H:((some (([(⟨(⟨#[97]⟩:ByteArray),2,5,([]:List Int)⟩:S64),(⟨(⟨#[98]⟩:ByteArray),2,5,([]:List Int)⟩:S64),(⟨(⟨#[99]⟩:ByteArray),3,4,([]:List Int)⟩:S64)]:List (S64)):List (S64))).bind fun y205=>((AU.f k 2 y205 (([0,1,2]:List Int))).bind fun bt212=>((Ai.f k 2 y205 bt212.1).bind fun bt216=>((Al.f k 2 y205).bind fun bt218=>((B0.f k 2 y205).bind fun bt220=>(if bt212.2=0 then (if bt216.2=0 then (if bt218.2=0 then (if bt220.2.2=0 then (if (bt212.1.length:Int)=3 then (if 2<(bt212.1.length:Int) then (if ((Ae bt212.1 2).f1)=2 then (if bt216.1=5 then (if bt218.1=4 then (if bt220.2.1=(-1) then ((AM.f k 2 y205).bind fun t226=>(some t226)) else (some false)) else (some false)) else (some false)) else (some false)) else (none)) else (some false)) else (some false)) else (some false)) else (some false)) else (some false)))))))=some r:=h
 clear h
 obtain ⟨y205,hy205⟩:∃y_:List (S64),y_=(([(⟨(⟨#[97]⟩:ByteArray),2,5,([]:List Int)⟩:S64),(⟨(⟨#[98]⟩:ByteArray),2,5,([]:List Int)⟩:S64),(⟨(⟨#[99]⟩:ByteArray),3,4,([]:List Int)⟩:S64)]:List (S64))):=⟨_,rfl⟩
 replace H:((AU.f k 2 y205 (([0,1,2]:List Int))).bind fun bt212=>((Ai.f k 2 y205 bt212.1).bind fun bt216=>((Al.f k 2 y205).bind fun bt218=>((B0.f k 2 y205).bind fun bt220=>(if bt212.2=0 then (if bt216.2=0 then (if bt218.2=0 then (if bt220.2.2=0 then (if (bt212.1.length:Int)=3 then (if 2<(bt212.1.length:Int) then (if ((Ae bt212.1 2).f1)=2 then (if bt216.1=5 then (if bt218.1=4 then (if bt220.2.1=(-1) then ((AM.f k 2 y205).bind fun t226=>(some t226)) else (some false)) else (some false)) else (some false)) else (some false)) else (none)) else (some false)) else (some false)) else (some false)) else (some false)) else (some false))))))=some r:=by first|(rw [hy205]; with_reducible exact H)|(have H2_:=(Option.bind_some _ _).symm.trans H; rw [hy205]; with_reducible exact H2_)|(have H2_:=(Option.bind_some _ _).symm.trans H; with_reducible exact H2_)|with_reducible exact H|(rw [hy205]; exact H)|exact H
 have Ny205:=Aside0.mk hy205
 clear hy205
 obtain ⟨y209,hy209⟩:∃y_:List Int,y_=(([0,1,2]:List Int)):=⟨_,rfl⟩
 replace H:((AU.f k 2 y205 y209).bind fun bt212=>((Ai.f k 2 y205 bt212.1).bind fun bt216=>((Al.f k 2 y205).bind fun bt218=>((B0.f k 2 y205).bind fun bt220=>(if bt212.2=0 then (if bt216.2=0 then (if bt218.2=0 then (if bt220.2.2=0 then (if (bt212.1.length:Int)=3 then (if 2<(bt212.1.length:Int) then (if ((Ae bt212.1 2).f1)=2 then (if bt216.1=5 then (if bt218.1=4 then (if bt220.2.1=(-1) then ((AM.f k 2 y205).bind fun t226=>(some t226)) else (some false)) else (some false)) else (some false)) else (some false)) else (none)) else (some false)) else (some false)) else (some false)) else (some false)) else (some false))))))=some r:=by first|(rw [hy209]; with_reducible exact H)|(have H2_:=(Option.bind_some _ _).symm.trans H; rw [hy209]; with_reducible exact H2_)|(have H2_:=(Option.bind_some _ _).symm.trans H; with_reducible exact H2_)|with_reducible exact H|(rw [hy209]; exact H)|exact H
 have Ny209:=Aside0.mk hy209
 clear hy209
 replace H:=Option.bind_eq_some_iff.mp H
 obtain ⟨⟨t212,t215⟩,A10,H⟩:=H
 replace H:((Ai.f k 2 y205 t212).bind fun bt216=>((Al.f k 2 y205).bind fun bt218=>((B0.f k 2 y205).bind fun bt220=>(if t215=0 then (if bt216.2=0 then (if bt218.2=0 then (if bt220.2.2=0 then (if (t212.length:Int)=3 then (if 2<(t212.length:Int) then (if ((Ae t212 2).f1)=2 then (if bt216.1=5 then (if bt218.1=4 then (if bt220.2.1=(-1) then ((AM.f k 2 y205).bind fun t226=>(some t226)) else (some false)) else (some false)) else (some false)) else (some false)) else (none)) else (some false)) else (some false)) else (some false)) else (some false)) else (some false)))))=some r:=H
 have A1:=Aside0.mk A10
 clear A10
 replace H:=Option.bind_eq_some_iff.mp H
 obtain ⟨⟨t216,t217⟩,A20,H⟩:=H
 replace H:((Al.f k 2 y205).bind fun bt218=>((B0.f k 2 y205).bind fun bt220=>(if t215=0 then (if t217=0 then (if bt218.2=0 then (if bt220.2.2=0 then (if (t212.length:Int)=3 then (if 2<(t212.length:Int) then (if ((Ae t212 2).f1)=2 then (if t216=5 then (if bt218.1=4 then (if bt220.2.1=(-1) then ((AM.f k 2 y205).bind fun t226=>(some t226)) else (some false)) else (some false)) else (some false)) else (some false)) else (none)) else (some false)) else (some false)) else (some false)) else (some false)) else (some false))))=some r:=H
 have A2:=Aside0.mk A20
 clear A20
 replace H:=Option.bind_eq_some_iff.mp H
 obtain ⟨⟨t218,t219⟩,A30,H⟩:=H
 replace H:((B0.f k 2 y205).bind fun bt220=>(if t215=0 then (if t217=0 then (if t219=0 then (if bt220.2.2=0 then (if (t212.length:Int)=3 then (if 2<(t212.length:Int) then (if ((Ae t212 2).f1)=2 then (if t216=5 then (if t218=4 then (if bt220.2.1=(-1) then ((AM.f k 2 y205).bind fun t226=>(some t226)) else (some false)) else (some false)) else (some false)) else (some false)) else (none)) else (some false)) else (some false)) else (some false)) else (some false)) else (some false)))=some r:=H
 have A3:=Aside0.mk A30
 clear A30
 replace H:=Option.bind_eq_some_iff.mp H
 obtain ⟨⟨t220,t223,t224⟩,A40,H⟩:=H
 replace H:(if t215=0 then (if t217=0 then (if t219=0 then (if t224=0 then (if (t212.length:Int)=3 then (if 2<(t212.length:Int) then (if ((Ae t212 2).f1)=2 then (if t216=5 then (if t218=4 then (if t223=(-1) then ((AM.f k 2 y205).bind fun t226=>(some t226)) else (some false)) else (some false)) else (some false)) else (some false)) else (none)) else (some false)) else (some false)) else (some false)) else (some false)) else (some false))=some r:=H
 have A4:=Aside0.mk A40
 clear A40
 by_cases c5:t215=0
 ·rw [if_pos c5] at H
  have c5b0:(t215==0)=true:=beq_iff_eq.mpr c5
  have c5b1:(t215 !=0)=false:=bne_eq_false_iff_eq.mpr c5
  clear c5
  by_cases c6:t217=0
  ·rw [if_pos c6] at H
   have c6b0:(t217==0)=true:=beq_iff_eq.mpr c6
   have c6b1:(t217 !=0)=false:=bne_eq_false_iff_eq.mpr c6
   clear c6
   by_cases c7:t219=0
   ·rw [if_pos c7] at H
    have c7b0:(t219==0)=true:=beq_iff_eq.mpr c7
    have c7b1:(t219 !=0)=false:=bne_eq_false_iff_eq.mpr c7
    clear c7
    by_cases c8:t224=0
    ·rw [if_pos c8] at H
     have c8b0:(t224==0)=true:=beq_iff_eq.mpr c8
     have c8b1:(t224 !=0)=false:=bne_eq_false_iff_eq.mpr c8
     clear c8
     by_cases c9:(t212.length:Int)=3
     ·rw [if_pos c9] at H
      have c9b0:((t212.length:Int)==3)=true:=beq_iff_eq.mpr c9
      have c9b1:((t212.length:Int) !=3)=false:=bne_eq_false_iff_eq.mpr c9
      clear c9
      by_cases c10:2<(t212.length:Int)
      ·rw [if_pos c10] at H
       have c10b0:decide (2<(t212.length:Int))=true:=decide_eq_true c10
       have c10b1:decide (2<t212.length)=true:=decide_eq_true zD
       clear c10
       by_cases c11:((Ae t212 2).f1)=2
       ·rw [if_pos c11] at H
        have c11b0:(((Ae t212 2).f1)==2)=true:=beq_iff_eq.mpr c11
        have c11b1:(((Ae t212 2).f1) !=2)=false:=bne_eq_false_iff_eq.mpr c11
        clear c11
        by_cases c12:t216=5
        ·rw [if_pos c12] at H
         have c12b0:(t216==5)=true:=beq_iff_eq.mpr c12
         have c12b1:(t216 !=5)=false:=bne_eq_false_iff_eq.mpr c12
         clear c12
         by_cases c13:t218=4
         ·rw [if_pos c13] at H
          have c13b0:(t218==4)=true:=beq_iff_eq.mpr c13
          have c13b1:(t218 !=4)=false:=bne_eq_false_iff_eq.mpr c13
          clear c13
          by_cases c14:t223=(-1)
          ·rw [if_pos c14] at H
           have c14b0:(t223==(-1))=true:=beq_iff_eq.mpr c14
           have c14b1:(t223 !=(-1))=false:=bne_eq_false_iff_eq.mpr c14
           clear c14
           replace H:=Option.bind_eq_some_iff.mp H
           obtain ⟨t226,A150,H⟩:=H
           replace H:(some t226)=some r:=H
           have A15:=Aside0.mk A150
           clear A150
           obtain rfl:=Option.some.inj H
           go_enter Try.func9,Try.ntmps9
           go_wp2_with (first|((with_reducible refine Am (N:=14) rfl ?_); (try (refine B9 (by rfl) ?_; dsimp only)); refine Kd.S_lit k64 _ 64 ?hg (N:=14) ?hd (xs:=([(⟨(⟨#[97]⟩:ByteArray),2,5,([]:List Int)⟩:S64),(⟨(⟨#[98]⟩:ByteArray),2,5,([]:List Int)⟩:S64),(⟨(⟨#[99]⟩:ByteArray),3,4,([]:List Int)⟩:S64)]:List (S64))) (inner:=[.string (⟨#[97]⟩:ByteArray),.int .i64 2,.int .i64 5,.slice none 0 0,.string (⟨#[98]⟩:ByteArray),.int .i64 2,.int .i64 5,.slice none 0 0,.string (⟨#[99]⟩:ByteArray),.int .i64 3,.int .i64 4,.slice none 0 0]) (ok:=fun _=>True) (okp:=fun _=>True) ?hr ?hp (fun _ hk=>hk) trivial (Below.refl _ _) (Nat.le_refl _) zA1 ?_; (case hd=>rfl); (case hg=>rfl); (case hr=>first|(go_simp; done)|(go_simp; rfl)); (case hp=>exact (Reps.c4 (show Kd.M k64 _ _ _ (⟨(⟨#[97]⟩:ByteArray),2,5,([]:List Int)⟩:S64) [.string (⟨#[97]⟩:ByteArray),.int .i64 2,.int .i64 5,.slice none 0 0] from (Dk _ _ _ (⟨(⟨#[97]⟩:ByteArray),2,5,([]:List Int)⟩:S64) (Kd.R_nil _ _ _ _ _))) (Reps.c4 (show Kd.M k64 _ _ _ (⟨(⟨#[98]⟩:ByteArray),2,5,([]:List Int)⟩:S64) [.string (⟨#[98]⟩:ByteArray),.int .i64 2,.int .i64 5,.slice none 0 0] from (Dk _ _ _ (⟨(⟨#[98]⟩:ByteArray),2,5,([]:List Int)⟩:S64) (Kd.R_nil _ _ _ _ _))) (Reps.c4 (show Kd.M k64 _ _ _ (⟨(⟨#[99]⟩:ByteArray),3,4,([]:List Int)⟩:S64) [.string (⟨#[99]⟩:ByteArray),.int .i64 3,.int .i64 4,.slice none 0 0] from (Dk _ _ _ (⟨(⟨#[99]⟩:ByteArray),3,4,([]:List Int)⟩:S64) (Kd.R_nil _ _ _ _ _))) (Reps.none _ _))))); intro v206 w16 ho17 hb hg_ hnew_; clear hg_ hnew_; (first|rw [←Ny205.out] at ho17|(simp only [Int.reduceToNat] at ho17; rw [←Ny205.out] at ho17)); have n0_:=Aside0.mk (Kd.S_lower ho17 (AP zA)); have n1_:=Aside0.mk (AO zA hb); clear HB; have HO207:=n0_; have HB:=n1_; clear n0_ n1_; clear hb ho17; obtain ⟨Ao18,co18,eo18⟩:=Kd.S_slice HO207.out; subst eo18)|((with_reducible refine Am (N:=1) rfl ?_); (try (refine B9 (by rfl) ?_; dsimp only)); refine Ak ?hg (N:=1) ?hd (cs:= #[.int .i64 0,.slice none 0 0]) (t:=34) ?hr ?_; (case hd=>rfl); (case hg=>rfl); (case hr=>first|(go_simp; done)|(go_simp; rfl)); intro gb208 hg w19 hbox hb; have n0_:=Aside0.mk (Kd.S_below zA8 hb); have n1_:=Aside0.mk (AO zA hb); have n2_:=Aside0.mk (hbox); have n3_:=Aside0.mk ((by rw [hg]; exact (AP zA):w.heap.size≤gb208)); have n4_:=Aside0.mk ((by rw [hg]; exact (AP zA):w.heap.size≤gb208)); clear HO207; clear HB; have HO207:=n0_; have HB:=n1_; have BK208:=n2_; have GW208:=n3_; have GE208:=n4_; clear n0_ n1_ n2_ n3_ n4_; clear hb hbox hg; have hcz20_0:w19.cell? ⟨gb208,0,none⟩=some (.int .i64 0):=(AK BK208.out 0).trans rfl; have hcz20_1:w19.cell? ⟨gb208,1,none⟩=some (.slice none 0 0):=(AK BK208.out 1).trans rfl; have hfz20_0:=AJ BK208.out 0; have hfz20_1:=AJ BK208.out 1)|((with_reducible refine Am (N:=18) rfl ?_); (try (refine B9 (by rfl) ?_; dsimp only)); refine Kd.R_lit (Kd.int .i64) _ 3 ?hg (N:=18) ?hd (xs:=([0,1,2]:List Int)) (inner:=[.int .i64 0,.int .i64 1,.int .i64 2]) (ok:=fun _=>True) (okp:=fun _=>True) ?hr ?hp (fun _ hk=>hk) trivial (Below.refl _ _) (Nat.le_refl _) zA1 ?_; (case hd=>rfl); (case hg=>rfl); (case hr=>first|(go_simp; done)|(go_simp; rfl)); (case hp=>exact (Reps.one (show Kd.M (Kd.int .i64) _ _ _ 0 [.int .i64 0] from rfl) (Reps.one (show Kd.M (Kd.int .i64) _ _ _ 1 [.int .i64 1] from rfl) (Reps.one (show Kd.M (Kd.int .i64) _ _ _ 2 [.int .i64 2] from rfl) (Reps.none _ _))))); intro v210 w21 ho22 hb hg_ hnew_; clear hg_ hnew_; (first|rw [←Ny209.out] at ho22|(simp only [Int.reduceToNat] at ho22; rw [←Ny209.out] at ho22)); have n0_:=Aside0.mk (Kd.S_elder' (by (with_reducible repeat (first|apply Kd.S_alloc|apply Kd.S_drewN|apply Kd.S_drew)); exact (Kd.S_mono (Kd.S_far (p:=⟨gb208,1,none⟩) (Kd.S_far (p:=⟨gb208,0,none⟩) (Kd.S_types HO207.out BK208.out zX) (fun _ hk=>hk.2) (.int .i64 2)) (fun _ hk=>hk.2) (.slice Ao18 y205.length co18)) (fun _ h_=>h_.1))) (Kd.R_base ho22) hb); have n1_:=Aside0.mk (Kd.R_lower ho22 (AP zW)); have n2_:=Aside0.mk (AN (g:=gb208) (o:= .cells #[.int .i64 2,.slice Ao18 y205.length co18] 34 (0,0)) (by (with_reducible repeat (first|refine AF ?_ _|refine AI ?_|refine AG ?_ _)); refine At (cs:= #[.int .i64 2,.slice none 0 0]) ?_ 1 _ rfl; (with_reducible repeat (first|refine AF ?_ _|refine AI ?_|refine AG ?_ _)); refine At (cs:= #[.int .i64 0,.slice none 0 0]) ?_ 0 _ rfl; (with_reducible repeat (first|refine AF ?_ _|refine AI ?_|refine AG ?_ _)); exact BK208.out) hb); have n3_:=Aside0.mk (AO zW hb); clear HO207; clear BK208; clear HB; have HO207:=n0_; have HO211:=n1_; have BK208:=n2_; have HB:=n3_; clear n0_ n1_ n2_ n3_; clear hb ho22; obtain ⟨Ao23,co23,eo23⟩:=Kd.R_slice HO211.out; subst eo23)|((with_reducible refine Ad (f:=15) rfl ?_); refine Ax (some 19) rfl rfl Try.func15 zF rfl #[.agg #[.int .i64 2,.slice Ao18 y205.length co18],.slice Ao23 y209.length co23] rfl zB ?_; (with_reducible refine (AU.calls k 2 _ _ y205 _ _ y209 t212 t215 _ ?side1 ?side2 ?side3 ?side4 A1.out).mono ?_); (case side1=>repeat (first|exact (Kd.S_reads' HO207.out).2.2|(with_reducible refine Kd.C_alloc ?_ _)|(with_reducible refine Kd.C_drewN ?_ _)|(with_reducible refine Kd.C_drew ?_))); (case side2=>exact (Kd.S_reads' HO207.out).2.1); (case side3=>repeat (first|exact (Kd.R_reads' HO211.out).2.2|(with_reducible refine Kd.C_alloc ?_ _)|(with_reducible refine Kd.C_drewN ?_ _)|(with_reducible refine Kd.C_drew ?_))); (case side4=>exact (Kd.R_reads' HO211.out).2.1); rintro e w24 ⟨v213,rfl,ho0,hb⟩; refine ⟨_,rfl,?_⟩; have n0_:=Aside0.mk (Kd.S_below zA8 hb); have n1_:=Aside0.mk (Kd.R_below zA9 hb); have n2_:=Aside0.mk (Kd.R_lower ho0 (AP zW)); have n3_:=Aside0.mk (AN (g:=gb208) (o:= .cells #[.int .i64 2,.slice Ao18 y205.length co18] 34 (0,0)) (by (with_reducible repeat (first|refine AF ?_ _|refine AI ?_|refine AG ?_ _)); exact BK208.out) hb); have n4_:=Aside0.mk (AO zW hb); clear HO207; clear HO211; clear BK208; clear HB; have HO207:=n0_; have HO211:=n1_; have HO214:=n2_; have BK208:=n3_; have HB:=n4_; clear n0_ n1_ n2_ n3_ n4_; (try clear hb); (try clear hb2); (try clear hk); (try clear hi); (try clear ho0); have hcz25_0:w24.cell? ⟨gb208,0,none⟩=some (.int .i64 2):=(AK BK208.out 0).trans rfl; have hcz25_1:w24.cell? ⟨gb208,1,none⟩=some (.slice Ao18 y205.length co18):=(AK BK208.out 1).trans rfl; have hfz25_0:=AJ BK208.out 0; have hfz25_1:=AJ BK208.out 1; obtain ⟨Ao26,co26,eo26⟩:=Kd.R_slice HO214.out; subst eo26)|((with_reducible refine Ad (f:=13) rfl ?_); refine Ax (some 25) rfl rfl Try.func13 zF rfl #[.agg #[.int .i64 2,.slice Ao18 y205.length co18],.slice Ao26 t212.length co26] rfl zB ?_; (with_reducible refine (Ai.calls k 2 _ _ y205 _ _ t212 t216 t217 _ ?side1 ?side2 ?side3 ?side4 A2.out).mono ?_); (case side1=>repeat (first|exact (Kd.S_reads' HO207.out).2.2|(with_reducible refine Kd.C_alloc ?_ _)|(with_reducible refine Kd.C_drewN ?_ _)|(with_reducible refine Kd.C_drew ?_))); (case side2=>exact (Kd.S_reads' HO207.out).2.1); (case side3=>repeat (first|exact (Kd.R_reads' HO214.out).2.2|(with_reducible refine Kd.C_alloc ?_ _)|(with_reducible refine Kd.C_drewN ?_ _)|(with_reducible refine Kd.C_drew ?_))); (case side4=>exact (Kd.R_reads' HO214.out).2.1); rintro e w27 ⟨rfl,hb⟩; refine ⟨_,rfl,?_⟩; have n0_:=Aside0.mk (Kd.S_below zA8 hb); have n1_:=Aside0.mk (Kd.R_below zA9 hb); have n2_:=Aside0.mk (Kd.R_below (by (with_reducible repeat (first|apply Kd.R_alloc|apply Kd.R_drewN|apply Kd.R_drew)); exact HO214.out) hb); have n3_:=Aside0.mk (AN (g:=gb208) (o:= .cells #[.int .i64 2,.slice Ao18 y205.length co18] 34 (0,0)) (by (with_reducible repeat (first|refine AF ?_ _|refine AI ?_|refine AG ?_ _)); exact BK208.out) hb); have n4_:=Aside0.mk (AO zW hb); clear HO207; clear HO211; clear HO214; clear BK208; clear HB; have HO207:=n0_; have HO211:=n1_; have HO214:=n2_; have BK208:=n3_; have HB:=n4_; clear n0_ n1_ n2_ n3_ n4_; (try clear hb); (try clear hb2); (try clear hk); (try clear hi); have hcz28_0:w27.cell? ⟨gb208,0,none⟩=some (.int .i64 2):=(AK BK208.out 0).trans rfl; have hcz28_1:w27.cell? ⟨gb208,1,none⟩=some (.slice Ao18 y205.length co18):=(AK BK208.out 1).trans rfl; have hfz28_0:=AJ BK208.out 0; have hfz28_1:=AJ BK208.out 1)|((with_reducible refine Ad (f:=11) rfl ?_); refine Ax (some 30) rfl rfl Try.func11 zF rfl #[.agg #[.int .i64 2,.slice Ao18 y205.length co18]] rfl zB ?_; (with_reducible refine (Al.calls k 2 _ _ y205 t218 t219 _ ?side1 ?side2 A3.out).mono ?_); (case side1=>repeat (first|exact (Kd.S_reads' HO207.out).2.2|(with_reducible refine Kd.C_alloc ?_ _)|(with_reducible refine Kd.C_drewN ?_ _)|(with_reducible refine Kd.C_drew ?_))); (case side2=>exact (Kd.S_reads' HO207.out).2.1); rintro e w29 ⟨rfl,hb⟩; refine ⟨_,rfl,?_⟩; have n0_:=Aside0.mk (Kd.S_below zA8 hb); have n1_:=Aside0.mk (Kd.R_below zA9 hb); have n2_:=Aside0.mk (Kd.R_below (by (with_reducible repeat (first|apply Kd.R_alloc|apply Kd.R_drewN|apply Kd.R_drew)); exact HO214.out) hb); have n3_:=Aside0.mk (AN (g:=gb208) (o:= .cells #[.int .i64 2,.slice Ao18 y205.length co18] 34 (0,0)) (by (with_reducible repeat (first|refine AF ?_ _|refine AI ?_|refine AG ?_ _)); exact BK208.out) hb); have n4_:=Aside0.mk (AO zW hb); clear HO207; clear HO211; clear HO214; clear BK208; clear HB; have HO207:=n0_; have HO211:=n1_; have HO214:=n2_; have BK208:=n3_; have HB:=n4_; clear n0_ n1_ n2_ n3_ n4_; (try clear hb); (try clear hb2); (try clear hk); (try clear hi); have hcz30_0:w29.cell? ⟨gb208,0,none⟩=some (.int .i64 2):=(AK BK208.out 0).trans rfl; have hcz30_1:w29.cell? ⟨gb208,1,none⟩=some (.slice Ao18 y205.length co18):=(AK BK208.out 1).trans rfl; have hfz30_0:=AJ BK208.out 0; have hfz30_1:=AJ BK208.out 1)|((with_reducible refine Ad (f:=17) rfl ?_); refine Ax (some 35) rfl rfl Try.func17 zF rfl #[.agg #[.int .i64 2,.slice Ao18 y205.length co18]] rfl zB ?_; (with_reducible refine (B0.calls k 2 _ _ y205 t220 t223 t224 _ ?side1 ?side2 A4.out).mono ?_); (case side1=>repeat (first|exact (Kd.S_reads' HO207.out).2.2|(with_reducible refine Kd.C_alloc ?_ _)|(with_reducible refine Kd.C_drewN ?_ _)|(with_reducible refine Kd.C_drew ?_))); (case side2=>exact (Kd.S_reads' HO207.out).2.1); rintro e w31 ⟨v221,rfl,ho0,hb⟩; refine ⟨_,rfl,?_⟩; have n0_:=Aside0.mk (Kd.S_elder' zA8 (Kd.R_base ho0) hb); have n1_:=Aside0.mk (Kd.R_elder' zA9 (Kd.R_base ho0) hb); have n2_:=Aside0.mk (Kd.R_below (by (with_reducible repeat (first|apply Kd.R_alloc|apply Kd.R_drewN|apply Kd.R_drew)); exact HO214.out) hb); have n3_:=Aside0.mk (Kd.R_lower (Kd.R_new' ho0 (Kd.R_lt zA9)) (AP zW)); have n4_:=Aside0.mk (AN (g:=gb208) (o:= .cells #[.int .i64 2,.slice Ao18 y205.length co18] 34 (0,0)) (by (with_reducible repeat (first|refine AF ?_ _|refine AI ?_|refine AG ?_ _)); exact BK208.out) hb); have n5_:=Aside0.mk (AO zW hb); clear HO207; clear HO211; clear HO214; clear BK208; clear HB; have HO207:=n0_; have HO211:=n1_; have HO214:=n2_; have HO222:=n3_; have BK208:=n4_; have HB:=n5_; clear n0_ n1_ n2_ n3_ n4_ n5_; (try clear hb); (try clear hb2); (try clear hk); (try clear hi); (try clear ho0); have p225:0≤(2:Int):=zD; have q225:2<(t212.length:Int):=of_decide_eq_true zC; obtain ⟨ad225,e225,hx225_0,hx225_1⟩:=BV (Kd.R_reads' HO214.out).2.2 2 p225 q225; cases e225; (try simp only [show (2:Int).toNat=2 from rfl,Nat.reduceMul,Nat.reduceEqDiff,Go.Addr.add,↓reduceIte] at hx225_0); (try simp only [show (2:Int).toNat=2 from rfl,Nat.reduceMul,Nat.reduceEqDiff,Go.Addr.add,↓reduceIte] at hx225_1); have qi225:(2<t212.length)=True:=eq_true zD; (try rw [show ((2:Int)).toNat=2 from rfl] at hx225_0); (try rw [show 2*2=4 from rfl] at hx225_0); (try rw [show ((2:Int)).toNat=2 from rfl] at hx225_1); (try rw [show 2*2=4 from rfl] at hx225_1); replace p225:=eq_true p225; replace q225:=eq_true q225; have hcz32_0:w31.cell? ⟨gb208,0,none⟩=some (.int .i64 2):=(AK BK208.out 0).trans rfl; have hcz32_1:w31.cell? ⟨gb208,1,none⟩=some (.slice Ao18 y205.length co18):=(AK BK208.out 1).trans rfl; have hfz32_0:=AJ BK208.out 0; have hfz32_1:=AJ BK208.out 1)|(go_at_call 29; (with_reducible refine (AM.calls k 2 _ _ y205 t226 _ ?side1 ?side2 A15.out).mono ?_); (case side1=>repeat (first|exact (Kd.S_reads' HO207.out).2.2|(with_reducible refine Kd.C_alloc ?_ _)|(with_reducible refine Kd.C_drewN ?_ _)|(with_reducible refine Kd.C_drew ?_))); (case side2=>exact (Kd.S_reads' HO207.out).2.1); rintro e w33 ⟨rfl,hb⟩; have n0_:=Aside0.mk (Kd.S_below zA8 hb); have n1_:=Aside0.mk (Kd.R_below zA9 hb); have n2_:=Aside0.mk (Kd.R_below (by (with_reducible repeat (first|apply Kd.R_alloc|apply Kd.R_drewN|apply Kd.R_drew)); exact HO214.out) hb); have n3_:=Aside0.mk (Kd.R_below (by (with_reducible repeat (first|apply Kd.R_alloc|apply Kd.R_drewN|apply Kd.R_drew)); exact HO222.out) hb); have n4_:=Aside0.mk (AN (g:=gb208) (o:= .cells #[.int .i64 2,.slice Ao18 y205.length co18] 34 (0,0)) (by (with_reducible repeat (first|refine AF ?_ _|refine AI ?_|refine AG ?_ _)); exact BK208.out) hb); have n5_:=Aside0.mk (AO zW hb); clear HO207; clear HO211; clear HO214; clear HO222; clear BK208; clear HB; have HO207:=n0_; have HO211:=n1_; have HO214:=n2_; have HO222:=n3_; have BK208:=n4_; have HB:=n5_; clear n0_ n1_ n2_ n3_ n4_ n5_; (try clear hb); (try clear hb2); (try clear hk); (try clear hi)))
           go_ret
           exact ⟨by first|rfl|(simp [AY,AX]<;>rfl)|(simp [*,AY,AX]<;>rfl),by repeat (first|(with_reducible first|exact HB.out|apply AE|apply AC|apply AD|refine AH ?_ GE208.out)|exact HB.out)⟩
          ·rw [if_neg c14] at H
           have c14b0:(t223==(-1))=false:=beq_eq_false_iff_ne.mpr c14
           have c14b1:(t223 !=(-1))=true:=bne_iff_ne.mpr c14
           obtain rfl:=Option.some.inj H
           exact absurd HRT.out zX
         ·rw [if_neg c13] at H
          have c13b0:(t218==4)=false:=beq_eq_false_iff_ne.mpr c13
          have c13b1:(t218 !=4)=true:=bne_iff_ne.mpr c13
          obtain rfl:=Option.some.inj H
          exact absurd HRT.out zX
        ·rw [if_neg c12] at H
         have c12b0:(t216==5)=false:=beq_eq_false_iff_ne.mpr c12
         have c12b1:(t216 !=5)=true:=bne_iff_ne.mpr c12
         obtain rfl:=Option.some.inj H
         exact absurd HRT.out zX
       ·rw [if_neg c11] at H
        have c11b0:(((Ae t212 2).f1)==2)=false:=beq_eq_false_iff_ne.mpr c11
        have c11b1:(((Ae t212 2).f1) !=2)=true:=bne_iff_ne.mpr c11
        obtain rfl:=Option.some.inj H
        exact absurd HRT.out zX
      ·rw [if_neg c10] at H
       exact absurd H zA1
     ·rw [if_neg c9] at H
      have c9b0:((t212.length:Int)==3)=false:=beq_eq_false_iff_ne.mpr c9
      have c9b1:((t212.length:Int) !=3)=true:=bne_iff_ne.mpr c9
      obtain rfl:=Option.some.inj H
      exact absurd HRT.out zX
    ·rw [if_neg c8] at H
     have c8b0:(t224==0)=false:=beq_eq_false_iff_ne.mpr c8
     have c8b1:(t224 !=0)=true:=bne_iff_ne.mpr c8
     obtain rfl:=Option.some.inj H
     exact absurd HRT.out zX
   ·rw [if_neg c7] at H
    have c7b0:(t219==0)=false:=beq_eq_false_iff_ne.mpr c7
    have c7b1:(t219 !=0)=true:=bne_iff_ne.mpr c7
    obtain rfl:=Option.some.inj H
    exact absurd HRT.out zX
  ·rw [if_neg c6] at H
   have c6b0:(t217==0)=false:=beq_eq_false_iff_ne.mpr c6
   have c6b1:(t217 !=0)=true:=bne_iff_ne.mpr c6
   obtain rfl:=Option.some.inj H
   exact absurd HRT.out zX
 ·rw [if_neg c5] at H
  have c5b0:(t215==0)=false:=beq_eq_false_iff_ne.mpr c5
  have c5b1:(t215 !=0)=true:=bne_iff_ne.mpr c5
  obtain rfl:=Option.some.inj H
  exact absurd HRT.out zX
theorem An.calls (k:Nat) (r:Bool) (w:World) (h:An.f k=some r):
 Calls Try.prog 9 #[] w fun e w'=>e= .returned (.bool r)∧Below w.heap.size w w':=An.calls0 k r w h (Aside0.mk (Eh h))
end Go.Proofs.Ytdadecjefafflaa.PLst
end
section
namespace Go.Proofs.Ytdadecjefafflaa.PLst
set_option maxRecDepth 100000
open Go.RowKit Go.Proofs.YtdadecjefafflaaW.PrintWords Go.Proofs.YtdadecjefafflaaW.PrintLast Go.Proofs.YtdadecjefafflaaW.PrintMore
attribute [local go_sem] BP BN Bb Ba BG BF BO BM
mutual
def Ap.l0:Nat→Int→Int→List (S42)→Option (Bool)
 |0,_,_,_=>none
 |k+1,x3,x228000,x228001=>if x3<(x228001.length:Int) then (Ap.j1 k x3 (decide (x3<43)) x228000 x228001) else (Ap.j1 k x3 false x228000 x228001)
def Ap.j1:Nat→Int→Bool→Int→List (S42)→Option (Bool)
 |0,_,_,_,_=>none
 |k+1,x3,x12,x228000,x228001=>if x12=true then (if 0≤x3 then (if x3<(x228001.length:Int) then (if (((Aj x228001 x3).f0).size:Int)>40 then (some false) else (if (((Aj x228001 x3).f3).length:Int)>42 then (some false) else (Ap.l0 k (wrap64 (x3+1)) x228000 x228001))) else (none)) else (none)) else (some (decide ((x228001.length:Int)≤42)))
end
def Ap.f (k:Nat) (A8:Int) (l0_1:List (S42)):Option (Bool):=Ap.l0 k 0 A8 l0_1
set_option maxHeartbeats 8000000 in
theorem Ap.calls (k:Nat) (A8:Int) (A0_1:Option Addr) (c0_1:Nat) (l0_1:List (S42)) (r:Bool) (w:World) (hr0_1:Kd.C k42 w A0_1 l0_1.length l0_1) (hc0_1:l0_1.length≤c0_1) (h:Ap.f k A8 l0_1=some r):
  Calls Try.prog 10 #[.agg #[.int .i64 A8,.slice A0_1 l0_1.length c0_1]] w fun e w'=>e= .returned (.bool r)∧Below w.heap.size w w':=by
 have hu24:=Try.underlying24
 have HR0_1:=Aside0.mk hr0_1
 have HC0_1:=Aside0.mk hc0_1
 clear hr0_1 hc0_1
 have HB:=Aside0.mk (Below.refl w.heap.size w)
 have H:(Ap.l0 k 0 A8 l0_1)=some r:=h
 clear h
 have H':=Aside0.mk H
 clear H
 go_enter Try.func10,Try.ntmps10
 go_wp2_with (first|((with_reducible refine Am (N:=1) rfl ?_); (try (refine B9 (by rfl) ?_; dsimp only)); refine Ak ?hg (N:=1) ?hd (cs:= #[.int .i64 A8,.slice A0_1 l0_1.length c0_1]) (t:=24) ?hr ?_; (case hd=>rfl); (case hg=>rfl); (case hr=>first|(go_simp; done)|(go_simp; rfl)); intro gb227 hg w2 hbox hb; have n0_:=Aside0.mk (AO zA hb); have n1_:=Aside0.mk (hbox); have n2_:=Aside0.mk ((by rw [hg]; exact (AP zA):w.heap.size≤gb227)); have n3_:=Aside0.mk ((by rw [hg]; exact (AP zA):w.heap.size≤gb227)); clear HB; have HB:=n0_; have BK227:=n1_; have GW227:=n2_; have GE227:=n3_; clear n0_ n1_ n2_ n3_; clear hb hbox hg))
 go_loopg [3] k (fun kq v3 w'=>∃(x3_1:Int),v3= .int .i64 x3_1∧Aside0 (Ap.l0 kq x3_1 A8 l0_1=some r)∧Aside0 (kq≤k)∧Aside0 (w'.heap[gb227]? =some (.cells #[.int .i64 A8,(.slice A0_1 l0_1.length c0_1)] 24 (0,0)))∧Aside0 (Below w.heap.size w w'))
 case atStart=>exact ⟨(0),zH,H',⟨Nat.le_refl _⟩,⟨by (with_reducible repeat (first|refine AF ?_ _|refine AI ?_|refine AG ?_ _)); exact BK227.out⟩,⟨by repeat (first|(with_reducible first|exact HB.out|apply AE|apply AC|apply AD|refine AH ?_ GE227.out)|exact HB.out)⟩⟩
 case round=>
  clear H'
  try clear c1
  try clear p2
  obtain ⟨x3_1,rfl,HA,HK1,BK227,HB⟩:=hrel
  cases gk with
  |zero=>exact absurd HA.out (by simp [Ap.l0])
  | succ k1 =>
   have H:=HA.out
   clear HA
   simp only [Ap.l0] at H
   have HC3:=Aside0.mk H
   clear H
   go_upto_region 2 with (fail)
   go_cut [12] (fun v12 wc=>∃(kq:Nat) (x12_2:Bool),v12= .bool x12_2∧Aside0 (Ap.j1 kq x3_1 x12_2 A8 l0_1=some r)∧Aside0 (kq≤k1)∧Aside0 (wc.heap[gb227]? =some (.cells #[.int .i64 A8,(.slice A0_1 l0_1.length c0_1)] 24 (0,0)))∧Aside0 (Below w.heap.size w wc))
   case first=>
    have H:=HC3.out
    clear HC3
    by_cases c4:x3_1<(l0_1.length:Int)
    ·rw [if_pos c4] at H
     have c4b0:decide (x3_1<(l0_1.length:Int))=true:=decide_eq_true c4
     clear c4
     (first|rw [c4b0]|(simp only [AZ,Aa]; rw [c4b0])|skip)
     have H':=Aside0.mk H
     clear H
     have hcz5_0:wr.cell? ⟨gb227,0,none⟩=some (.int .i64 A8):=(AK BK227.out 0).trans rfl
     have hcz5_1:wr.cell? ⟨gb227,1,none⟩=some (.slice A0_1 l0_1.length c0_1):=(AK BK227.out 1).trans rfl
     have hfz5_0:=AJ BK227.out 0
     have hfz5_1:=AJ BK227.out 1
     go_wp2
     go_meet
     case rel=>exact ⟨_,(decide (x3_1<43)),zH,H',⟨by have:=HK1.out; first|omega|exact Nat.le_refl _⟩,⟨by (with_reducible repeat (first|refine AF ?_ _|refine AI ?_|refine AG ?_ _)); exact BK227.out⟩,⟨by repeat (first|(with_reducible first|exact HB.out|apply AE|apply AC|apply AD|refine AH ?_ GE227.out)|exact HB.out)⟩⟩
    ·rw [if_neg c4] at H
     have c4b0:decide (x3_1<(l0_1.length:Int))=false:=decide_eq_false c4
     clear c4
     (first|rw [c4b0]|(simp only [AZ,Aa]; rw [c4b0])|skip)
     have H':=Aside0.mk H
     clear H
     have hcz6_0:wr.cell? ⟨gb227,0,none⟩=some (.int .i64 A8):=(AK BK227.out 0).trans rfl
     have hcz6_1:wr.cell? ⟨gb227,1,none⟩=some (.slice A0_1 l0_1.length c0_1):=(AK BK227.out 1).trans rfl
     have hfz6_0:=AJ BK227.out 0
     have hfz6_1:=AJ BK227.out 1
     go_wp2
     go_meet
     case rel=>exact ⟨_,(false),zH,H',⟨by have:=HK1.out; first|omega|exact Nat.le_refl _⟩,⟨by (with_reducible repeat (first|refine AF ?_ _|refine AI ?_|refine AG ?_ _)); exact BK227.out⟩,⟨by repeat (first|(with_reducible first|exact HB.out|apply AE|apply AC|apply AD|refine AH ?_ GE227.out)|exact HB.out)⟩⟩
   case rest =>
    clear HC3
    try clear c1
    try clear p2
    try clear c4
    try clear c4b0
    try clear hcz5_0
    try clear hcz5_1
    try clear hcz6_0
    try clear hcz6_1
    try clear hfz5_0
    try clear hfz5_1
    try clear hfz6_0
    try clear hfz6_1
    try clear p2
    obtain ⟨kq,x12_2,rfl,HA,HJ2,BK227,HB⟩:=hcut
    cases kq with
    |zero=>exact absurd HA.out (by simp [Ap.j1])
    | succ kj2=>
     have H:=HA.out
     clear HA
     simp only [Ap.j1] at H
     by_cases c7:x12_2=true
     ·subst c7
      have H1:(if 0≤x3_1 then (if x3_1<(l0_1.length:Int) then (if (((Aj l0_1 x3_1).f0).size:Int)>40 then (some false) else (if (((Aj l0_1 x3_1).f3).length:Int)>42 then (some false) else (Ap.l0 kj2 (wrap64 (x3_1+1)) A8 l0_1))) else (none)) else (none))=some r:=by rw [if_pos rfl] at H; exact H
      clear H
      have H:=H1
      clear H1
      by_cases c8:0≤x3_1
      ·rw [if_pos c8] at H
       have c8b0:decide (0≤x3_1)=true:=decide_eq_true c8
       clear c8
       by_cases c9:x3_1<(l0_1.length:Int)
       ·rw [if_pos c9] at H
        have c9b0:decide (x3_1<(l0_1.length:Int))=true:=decide_eq_true c9
        clear c9
        by_cases c10:(((Aj l0_1 x3_1).f0).size:Int)>40
        ·rw [if_pos c10] at H
         have c10b0:decide (40<(((Aj l0_1 x3_1).f0).size:Int))=true:=decide_eq_true c10
         have c10b1:decide (40<((Aj l0_1 x3_1).f0).size)=true:=decide_eq_true zD
         clear c10
         obtain rfl:=Option.some.inj H
         have hcz11_0:wc.cell? ⟨gb227,0,none⟩=some (.int .i64 A8):=(AK BK227.out 0).trans rfl
         have hcz11_1:wc.cell? ⟨gb227,1,none⟩=some (.slice A0_1 l0_1.length c0_1):=(AK BK227.out 1).trans rfl
         have hfz11_0:=AJ BK227.out 0
         have hfz11_1:=AJ BK227.out 1
         have p228:0≤(x3_1:Int):=of_decide_eq_true zC
         have q228:x3_1<(l0_1.length:Int):=of_decide_eq_true zC
         obtain ⟨ad228,A228_3,c228_3,e228,hx228_0,hx228_1,hx228_2,hx228_3,hl228_3,hi228_3⟩:=CL HR0_1.out x3_1 p228 q228
         cases e228
         replace hx228_0:=(HB.out.cell (World.block_lt_of_cell? w _ hx228_0)).trans hx228_0
         replace hx228_1:=(HB.out.cell (World.block_lt_of_cell? w _ hx228_1)).trans hx228_1
         replace hx228_2:=(HB.out.cell (World.block_lt_of_cell? w _ hx228_2)).trans hx228_2
         replace hx228_3:=(HB.out.cell (World.block_lt_of_cell? w _ hx228_3)).trans hx228_3
         have HR228_3:=Aside0.mk hi228_3
         have HC228_3:=Aside0.mk hl228_3
         clear hi228_3 hl228_3
         replace p228:=eq_true p228
         replace q228:=eq_true q228
         go_wp2
         go_ret
         exact ⟨by first|rfl|(simp [AY,AX]<;>rfl)|(simp [*,AY,AX]<;>rfl),by repeat (first|(with_reducible first|exact HB.out|apply AE|apply AC|apply AD|refine AH ?_ GE227.out)|exact HB.out)⟩
        ·rw [if_neg c10] at H
         have c10b0:decide (40<(((Aj l0_1 x3_1).f0).size:Int))=false:=decide_eq_false c10
         have c10b1:decide (40<((Aj l0_1 x3_1).f0).size)=false:=decide_eq_false zD
         clear c10
         by_cases c12:(((Aj l0_1 x3_1).f3).length:Int)>42
         ·rw [if_pos c12] at H
          have c12b0:decide (42<(((Aj l0_1 x3_1).f3).length:Int))=true:=decide_eq_true c12
          have c12b1:decide (42<((Aj l0_1 x3_1).f3).length)=true:=decide_eq_true zD
          clear c12
          obtain rfl:=Option.some.inj H
          have hcz13_0:wc.cell? ⟨gb227,0,none⟩=some (.int .i64 A8):=(AK BK227.out 0).trans rfl
          have hcz13_1:wc.cell? ⟨gb227,1,none⟩=some (.slice A0_1 l0_1.length c0_1):=(AK BK227.out 1).trans rfl
          have hfz13_0:=AJ BK227.out 0
          have hfz13_1:=AJ BK227.out 1
          have p228:0≤(x3_1:Int):=of_decide_eq_true zC
          have q228:x3_1<(l0_1.length:Int):=of_decide_eq_true zC
          obtain ⟨ad228,A228_3,c228_3,e228,hx228_0,hx228_1,hx228_2,hx228_3,hl228_3,hi228_3⟩:=CL HR0_1.out x3_1 p228 q228
          cases e228
          replace hx228_0:=(HB.out.cell (World.block_lt_of_cell? w _ hx228_0)).trans hx228_0
          replace hx228_1:=(HB.out.cell (World.block_lt_of_cell? w _ hx228_1)).trans hx228_1
          replace hx228_2:=(HB.out.cell (World.block_lt_of_cell? w _ hx228_2)).trans hx228_2
          replace hx228_3:=(HB.out.cell (World.block_lt_of_cell? w _ hx228_3)).trans hx228_3
          have HR228_3:=Aside0.mk hi228_3
          have HC228_3:=Aside0.mk hl228_3
          clear hi228_3 hl228_3
          replace p228:=eq_true p228
          replace q228:=eq_true q228
          have p229:0≤(x3_1:Int):=of_decide_eq_true zC
          have q229:x3_1<(l0_1.length:Int):=of_decide_eq_true zC
          obtain ⟨ad229,A229_3,c229_3,e229,hx229_0,hx229_1,hx229_2,hx229_3,hl229_3,hi229_3⟩:=CL HR0_1.out x3_1 p229 q229
          obtain rfl:ad228=ad229:=(by injection e229)
          replace hx229_0:=(HB.out.cell (World.block_lt_of_cell? w _ hx229_0)).trans hx229_0
          replace hx229_1:=(HB.out.cell (World.block_lt_of_cell? w _ hx229_1)).trans hx229_1
          replace hx229_2:=(HB.out.cell (World.block_lt_of_cell? w _ hx229_2)).trans hx229_2
          replace hx229_3:=(HB.out.cell (World.block_lt_of_cell? w _ hx229_3)).trans hx229_3
          have HR229_3:=Aside0.mk hi229_3
          have HC229_3:=Aside0.mk hl229_3
          clear hi229_3 hl229_3
          replace p229:=eq_true p229
          replace q229:=eq_true q229
          have ea_:=Option.some.inj (hx228_3.symm.trans hx229_3)
          injection ea_ with ea_ en_ ec_
          subst ea_
          subst ec_
          clear en_
          go_wp2
          go_ret
          exact ⟨by first|rfl|(simp [AY,AX]<;>rfl)|(simp [*,AY,AX]<;>rfl),by repeat (first|(with_reducible first|exact HB.out|apply AE|apply AC|apply AD|refine AH ?_ GE227.out)|exact HB.out)⟩
         ·rw [if_neg c12] at H
          have c12b0:decide (42<(((Aj l0_1 x3_1).f3).length:Int))=false:=decide_eq_false c12
          have c12b1:decide (42<((Aj l0_1 x3_1).f3).length)=false:=decide_eq_false zD
          clear c12
          have H':=Aside0.mk H
          clear H
          have hcz14_0:wc.cell? ⟨gb227,0,none⟩=some (.int .i64 A8):=(AK BK227.out 0).trans rfl
          have hcz14_1:wc.cell? ⟨gb227,1,none⟩=some (.slice A0_1 l0_1.length c0_1):=(AK BK227.out 1).trans rfl
          have hfz14_0:=AJ BK227.out 0
          have hfz14_1:=AJ BK227.out 1
          have p228:0≤(x3_1:Int):=of_decide_eq_true zC
          have q228:x3_1<(l0_1.length:Int):=of_decide_eq_true zC
          obtain ⟨ad228,A228_3,c228_3,e228,hx228_0,hx228_1,hx228_2,hx228_3,hl228_3,hi228_3⟩:=CL HR0_1.out x3_1 p228 q228
          cases e228
          replace hx228_0:=(HB.out.cell (World.block_lt_of_cell? w _ hx228_0)).trans hx228_0
          replace hx228_1:=(HB.out.cell (World.block_lt_of_cell? w _ hx228_1)).trans hx228_1
          replace hx228_2:=(HB.out.cell (World.block_lt_of_cell? w _ hx228_2)).trans hx228_2
          replace hx228_3:=(HB.out.cell (World.block_lt_of_cell? w _ hx228_3)).trans hx228_3
          have HR228_3:=Aside0.mk hi228_3
          have HC228_3:=Aside0.mk hl228_3
          clear hi228_3 hl228_3
          replace p228:=eq_true p228
          replace q228:=eq_true q228
          have p229:0≤(x3_1:Int):=of_decide_eq_true zC
          have q229:x3_1<(l0_1.length:Int):=of_decide_eq_true zC
          obtain ⟨ad229,A229_3,c229_3,e229,hx229_0,hx229_1,hx229_2,hx229_3,hl229_3,hi229_3⟩:=CL HR0_1.out x3_1 p229 q229
          obtain rfl:ad228=ad229:=(by injection e229)
          replace hx229_0:=(HB.out.cell (World.block_lt_of_cell? w _ hx229_0)).trans hx229_0
          replace hx229_1:=(HB.out.cell (World.block_lt_of_cell? w _ hx229_1)).trans hx229_1
          replace hx229_2:=(HB.out.cell (World.block_lt_of_cell? w _ hx229_2)).trans hx229_2
          replace hx229_3:=(HB.out.cell (World.block_lt_of_cell? w _ hx229_3)).trans hx229_3
          have HR229_3:=Aside0.mk hi229_3
          have HC229_3:=Aside0.mk hl229_3
          clear hi229_3 hl229_3
          replace p229:=eq_true p229
          replace q229:=eq_true q229
          have ea_:=Option.some.inj (hx228_3.symm.trans hx229_3)
          injection ea_ with ea_ en_ ec_
          subst ea_
          subst ec_
          clear en_
          go_wp2
          go_roundg kj2
          case measure=>have:=HK1.out; have:=HJ2.out; omega
          case rel=>exact ⟨(wrap64 (x3_1+1)),zH,H',⟨by have:=HK1.out; have:=HJ2.out; omega⟩,⟨by (with_reducible repeat (first|refine AF ?_ _|refine AI ?_|refine AG ?_ _)); exact BK227.out⟩,⟨by repeat (first|(with_reducible first|exact HB.out|apply AE|apply AC|apply AD|refine AH ?_ GE227.out)|exact HB.out)⟩⟩
       ·rw [if_neg c9] at H
        exact absurd H zA1
      ·rw [if_neg c8] at H
       exact absurd H zA1
     ·replace c7:=Bool.eq_false_iff.mpr c7
      subst c7
      have H1:(some (decide ((l0_1.length:Int)≤42)))=some r:=by rw [if_neg (show ¬(false=true) by decide)] at H; exact H
      clear H
      have H:=H1
      clear H1
      obtain rfl:=Option.some.inj H
      have hcz15_0:wc.cell? ⟨gb227,0,none⟩=some (.int .i64 A8):=(AK BK227.out 0).trans rfl
      have hcz15_1:wc.cell? ⟨gb227,1,none⟩=some (.slice A0_1 l0_1.length c0_1):=(AK BK227.out 1).trans rfl
      have hfz15_0:=AJ BK227.out 0
      have hfz15_1:=AJ BK227.out 1
      go_wp2
      go_ret
      exact ⟨by first|rfl|(simp [AY,AX]<;>rfl)|(simp [*,AY,AX]<;>rfl),by repeat (first|(with_reducible first|exact HB.out|apply AE|apply AC|apply AD|refine AH ?_ GE227.out)|exact HB.out)⟩
def Ag.l0:Nat→List (S42)→Int→Int→Int→List (S64)→Option (Int×(List (S64)))
 |0,_,_,_,_,_=>none
 |k+1,x10,x11,x12,x233000,x233001=>if x12<x11 then (if 0≤x12 then (if x12<(x10.length:Int) then (if x233001.length<2513169434916 then (Ag.l0 k x10 x11 (wrap64 (x12+1)) x233000 (x233001++[(⟨(Aj x10 x12).f0,(Aj x10 x12).f1,(Aj x10 x12).f2,(Aj x10 x12).f3⟩:S64)])) else (none)) else (none)) else (none)) else (some (x233000,x233001))
def Ag.f (k:Nat) (A8:Int) (l0_1:List (S42)):Option (Int×(List (S64))):=Ag.l0 k l0_1 (l0_1.length:Int) 0 A8 ([]:List (S64))
set_option maxHeartbeats 8000000 in
theorem Ag.calls (k:Nat) (A8:Int) (P0_1_:Nat→Prop) (A0_1:Option Addr) (c0_1:Nat) (l0_1:List (S42)) (r1:Int) (r2:List (S64)) (w:World) (hs0_1:Kd.V k42 42 w w.heap.size (fun k_=>P0_1_ k_) (.slice A0_1 l0_1.length c0_1) l0_1) (h:Ag.f k A8 l0_1=some (r1,r2)):
  Calls Try.prog 12 #[.agg #[.int .i64 A8,.slice A0_1 l0_1.length c0_1]] w fun e w'=>∃v1_:Value,e= .returned (.agg #[.int .i64 r1,v1_])∧Kd.N k64 64 w' w.heap.size (fun k_=>(P0_1_ k_∨w.heap.size≤k_)) v1_ r2∧Below w.heap.size w w':=by
 have hu24:=Try.underlying24
 have hu34:=Try.underlying34
 have hu42:=Try.underlying42
 have HO0_1:=Aside0.mk (show Kd.V k42 42 w w.heap.size (fun k_=>(P0_1_ k_∨w.heap.size≤k_)) (.slice A0_1 l0_1.length c0_1) l0_1 from Kd.V_mono hs0_1 (fun k_ hk=> .inl hk))
 have HB:=Aside0.mk (Below.refl w.heap.size w)
 have H:(Ag.l0 k l0_1 (l0_1.length:Int) 0 A8 ([]:List (S64)))=some (r1,r2):=h
 clear h
 have H':=Aside0.mk H
 clear H
 go_enter Try.func12,Try.ntmps12
 go_wp2_with (first|((with_reducible refine Am (N:=1) rfl ?_); refine Ak ?hg (N:=1) ?hd (cs:= #[.int .i64 A8,.slice A0_1 l0_1.length c0_1]) (t:=24) ?hr ?_; (case hd=>rfl); (case hg=>rfl); (case hr=>first|(go_simp; done)|(go_simp; rfl)); intro gb230 hg w2 hbox hb; have n0_:=Aside0.mk (Kd.V_below (Kd.V_elderB (by (with_reducible repeat (first|apply Kd.V_alloc|apply Kd.V_drewN|apply Kd.V_drew)); exact HO0_1.out) gb230 (Nat.le_of_eq hg.symm)) hb); have n1_:=Aside0.mk (AO zA hb); have n2_:=Aside0.mk (hbox); have n3_:=Aside0.mk ((by rw [hg]; exact (AP zA):w.heap.size≤gb230)); have n4_:=Aside0.mk ((by rw [hg]; exact (AP zA):w.heap.size≤gb230)); clear HO0_1; clear HB; have HO0_1:=n0_; have HB:=n1_; have BK230:=n2_; have GW230:=n3_; have GE230:=n4_; clear n0_ n1_ n2_ n3_ n4_; clear hb hbox hg)|((with_reducible refine Am (N:=2) rfl ?_); refine Ak ?hg (N:=2) ?hd (cs:= #[.int .i64 0,.slice none 0 0]) (t:=34) ?hr ?_; (case hd=>rfl); (case hg=>rfl); (case hr=>first|(go_simp; done)|(go_simp; rfl)); intro gb231 hg w3 hbox hb; have n0_:=Aside0.mk (Kd.V_below (Kd.V_elderB (by (with_reducible repeat (first|apply Kd.V_alloc|apply Kd.V_drewN|apply Kd.V_drew)); exact HO0_1.out) gb231 (Nat.le_of_eq hg.symm)) hb); have n1_:=Aside0.mk (AN (g:=gb230) (o:= .cells #[.int .i64 A8,.slice A0_1 l0_1.length c0_1] 24 (0,0)) zV hb); have n2_:=Aside0.mk (AO (by repeat (first|(with_reducible first|exact HB.out|apply AE|apply AC|apply AD|refine AH ?_ GE230.out)|exact HB.out)) hb); have n3_:=Aside0.mk (hbox); have n4_:=Aside0.mk ((by rw [hg]; exact (AP (by repeat (first|(with_reducible first|exact HB.out|apply AE|apply AC|apply AD|refine AH ?_ GE230.out)|exact HB.out))):w.heap.size≤gb231)); have n5_:=Aside0.mk ((by rw [hg]; exact (AP (by repeat (first|(with_reducible first|exact HB.out|apply AE|apply AC|apply AD|refine AH ?_ GE230.out)|exact HB.out))):w.heap.size≤gb231)); have n6_:=Aside0.mk ((by rw [hg]; exact Nat.ne_of_lt (Ar (g:=gb230) (o:= .cells #[.int .i64 A8,.slice A0_1 l0_1.length c0_1] 24 (0,0)) zV):gb230≠gb231)); have n7_:=Aside0.mk ((by rw [hg]; exact Nat.ne_of_gt (Ar (g:=gb230) (o:= .cells #[.int .i64 A8,.slice A0_1 l0_1.length c0_1] 24 (0,0)) zV):gb231≠gb230)); clear HO0_1; clear BK230; clear HB; have HO0_1:=n0_; have BK230:=n1_; have HB:=n2_; have BK231:=n3_; have GW231:=n4_; have GE231:=n5_; have NB230_231:=n6_; have NB231_230:=n7_; clear n0_ n1_ n2_ n3_ n4_ n5_ n6_ n7_; clear hb hbox hg; have hnb4:=NB230_231.out; have hnc4:=NB231_230.out; have hcz5_0:w3.cell? ⟨gb230,0,none⟩=some (.int .i64 A8):=(AK BK230.out 0).trans rfl; have hcz5_1:w3.cell? ⟨gb230,1,none⟩=some (.slice A0_1 l0_1.length c0_1):=(AK BK230.out 1).trans rfl; have hfz5_0:=AJ BK230.out 0; have hfz5_1:=AJ BK230.out 1)|((with_reducible refine Am (N:=3) rfl ?_); refine Ak ?hg (N:=3) ?hd (cs:= #[.int .i64 0,.slice none 0 0]) (t:=34) ?hr ?_; (case hd=>rfl); (case hg=>rfl); (case hr=>first|(go_simp; done)|(go_simp; rfl)); intro gb232 hg w6 hbox hb; have n0_:=Aside0.mk (Kd.V_below (Kd.V_elderB (by (with_reducible repeat (first|apply Kd.V_alloc|apply Kd.V_drewN|apply Kd.V_drew)); exact HO0_1.out) gb232 (Nat.le_of_eq hg.symm)) hb); have n1_:=Aside0.mk (AN (g:=gb230) (o:= .cells #[.int .i64 A8,.slice A0_1 l0_1.length c0_1] 24 (0,0)) zV hb); have n2_:=Aside0.mk (AN (g:=gb231) (o:= .cells #[.int .i64 0,.slice none 0 0] 34 (0,0)) zA0 hb); have n3_:=Aside0.mk (AO (by repeat (first|(with_reducible first|exact HB.out|apply AE|apply AC|apply AD|refine AH ?_ GE230.out|refine AH ?_ GE231.out)|exact HB.out)) hb); have n4_:=Aside0.mk (hbox); have n5_:=Aside0.mk ((by rw [hg]; exact (AP (by repeat (first|(with_reducible first|exact HB.out|apply AE|apply AC|apply AD|refine AH ?_ GE230.out|refine AH ?_ GE231.out)|exact HB.out))):w.heap.size≤gb232)); have n6_:=Aside0.mk ((by rw [hg]; exact (AP (by repeat (first|(with_reducible first|exact HB.out|apply AE|apply AC|apply AD|refine AH ?_ GE230.out|refine AH ?_ GE231.out)|exact HB.out))):w.heap.size≤gb232)); have n7_:=Aside0.mk ((by rw [hg]; exact Nat.ne_of_lt (Ar (g:=gb230) (o:= .cells #[.int .i64 A8,.slice A0_1 l0_1.length c0_1] 24 (0,0)) zV):gb230≠gb232)); have n8_:=Aside0.mk ((by rw [hg]; exact Nat.ne_of_gt (Ar (g:=gb230) (o:= .cells #[.int .i64 A8,.slice A0_1 l0_1.length c0_1] 24 (0,0)) zV):gb232≠gb230)); have n9_:=Aside0.mk ((by rw [hg]; exact Nat.ne_of_lt (Ar (g:=gb231) (o:= .cells #[.int .i64 0,.slice none 0 0] 34 (0,0)) zA0):gb231≠gb232)); have n10_:=Aside0.mk ((by rw [hg]; exact Nat.ne_of_gt (Ar (g:=gb231) (o:= .cells #[.int .i64 0,.slice none 0 0] 34 (0,0)) zA0):gb232≠gb231)); clear HO0_1; clear BK230; clear BK231; clear HB; have HO0_1:=n0_; have BK230:=n1_; have BK231:=n2_; have HB:=n3_; have BK232:=n4_; have GW232:=n5_; have GE232:=n6_; have NB230_232:=n7_; have NB232_230:=n8_; have NB231_232:=n9_; have NB232_231:=n10_; clear n0_ n1_ n2_ n3_ n4_ n5_ n6_ n7_ n8_ n9_ n10_; clear hb hbox hg; have hnb7:=NB232_230.out; have hnc7:=NB230_232.out; have hnb8:=NB232_231.out; have hnc8:=NB231_232.out; have hcz9_0:w6.cell? ⟨gb232,0,none⟩=some (.int .i64 0):=(AK BK232.out 0).trans rfl; have hcz9_1:w6.cell? ⟨gb232,1,none⟩=some (.slice none 0 0):=(AK BK232.out 1).trans rfl; have hfz9_0:=AJ BK232.out 0; have hfz9_1:=AJ BK232.out 1; have hcz10_0:w6.cell? ⟨gb230,0,none⟩=some (.int .i64 A8):=(AK BK230.out 0).trans rfl; have hcz10_1:w6.cell? ⟨gb230,1,none⟩=some (.slice A0_1 l0_1.length c0_1):=(AK BK230.out 1).trans rfl; have hfz10_0:=AJ BK230.out 0; have hfz10_1:=AJ BK230.out 1))
 go_loopg [12] k (fun kq v12 w'=>∃(x12_1:Int) (x233001_1:List (S64)) (u233001:Value),v12= .int .i64 x12_1∧Aside0 (Ag.l0 kq l0_1 (l0_1.length:Int) x12_1 A8 x233001_1=some (r1,r2))∧Aside0 (kq≤k)∧Aside0 (Kd.V k42 42 w' w.heap.size (fun k_=>(P0_1_ k_∨w.heap.size≤k_)∧some k_≠(u233001:Value).ownBlock∧k_≠gb230∧k_≠gb231∧k_≠gb232) (.slice A0_1 l0_1.length c0_1) l0_1)∧Aside0 (Kd.V k42 42 w' w.heap.size (fun k_=>(P0_1_ k_∨w.heap.size≤k_)∧some k_≠(u233001:Value).ownBlock∧k_≠gb230∧k_≠gb231∧k_≠gb232) (.slice A0_1 l0_1.length c0_1) l0_1)∧Aside0 (Kd.N k64 64 w' w.heap.size (fun k_=>(P0_1_ k_∨w.heap.size≤k_)∧k_≠gb230∧k_≠gb231∧k_≠gb232) u233001 x233001_1)∧Aside0 (w'.heap[gb230]? =some (.cells #[.int .i64 A8,(.slice A0_1 l0_1.length c0_1)] 24 (0,0)))∧Aside0 (w'.heap[gb231]? =some (.cells #[.int .i64 0,(.slice none 0 0)] 34 (0,0)))∧Aside0 (w'.heap[gb232]? =some (.cells #[.int .i64 A8,u233001] 34 (0,0)))∧Aside0 (Below w.heap.size w w'))
 case atStart=>exact ⟨(0),(([]:List (S64))),(.slice none 0 0),zH,H',⟨Nat.le_refl _⟩,⟨by (with_reducible repeat (first|apply Kd.V_alloc|apply Kd.V_drewN|apply Kd.V_drew)); exact Kd.V_mono (Kd.V_far (p:=⟨gb232,1,none⟩) (Kd.V_far (p:=⟨gb232,0,none⟩) (Kd.V_mono HO0_1.out (fun k_ hk=>(⟨hk,hk.2⟩:_∧k_≠gb232))) (fun _ hk=>hk.2) (.int .i64 A8)) (fun _ hk=>hk.2) (.slice none 0 0)) (fun _ hk=>⟨hk.1.1.1.1,⟨(by simp [Value.ownBlock]),⟨hk.1.1.1.2,⟨hk.1.1.2,hk.1.2⟩⟩⟩⟩)⟩,⟨by (with_reducible repeat (first|apply Kd.V_alloc|apply Kd.V_drewN|apply Kd.V_drew)); exact Kd.V_mono (Kd.V_far (p:=⟨gb232,1,none⟩) (Kd.V_far (p:=⟨gb232,0,none⟩) (Kd.V_mono HO0_1.out (fun k_ hk=>(⟨hk,hk.2⟩:_∧k_≠gb232))) (fun _ hk=>hk.2) (.int .i64 A8)) (fun _ hk=>hk.2) (.slice none 0 0)) (fun _ hk=>⟨hk.1.1.1.1,⟨(by simp [Value.ownBlock]),⟨hk.1.1.1.2,⟨hk.1.1.2,hk.1.2⟩⟩⟩⟩)⟩,⟨by first|exact Kd.S_nil _ _ _ _ _|exact Kd.N_nil _ _ _ _ _|exact Kd.V_nil _ _ _ _ _|exact Kd.Q_nil _ _ _ _ _|exact Kd.R_nil _ _ _ _ _⟩,⟨by (with_reducible repeat (first|refine AF ?_ _|refine AI ?_|refine AG ?_ _)); refine AV ?_ NB230_232.out _; (with_reducible repeat (first|refine AF ?_ _|refine AI ?_|refine AG ?_ _)); refine AV ?_ NB230_232.out _; (with_reducible repeat (first|refine AF ?_ _|refine AI ?_|refine AG ?_ _)); exact BK230.out⟩,⟨by (with_reducible repeat (first|refine AF ?_ _|refine AI ?_|refine AG ?_ _)); refine AV ?_ NB231_232.out _; (with_reducible repeat (first|refine AF ?_ _|refine AI ?_|refine AG ?_ _)); refine AV ?_ NB231_232.out _; (with_reducible repeat (first|refine AF ?_ _|refine AI ?_|refine AG ?_ _)); exact BK231.out⟩,⟨by (with_reducible repeat (first|refine AF ?_ _|refine AI ?_|refine AG ?_ _)); refine At (cs:= #[.int .i64 A8,.slice none 0 0]) ?_ 1 _ rfl; (with_reducible repeat (first|refine AF ?_ _|refine AI ?_|refine AG ?_ _)); refine At (cs:= #[.int .i64 0,.slice none 0 0]) ?_ 0 _ rfl; (with_reducible repeat (first|refine AF ?_ _|refine AI ?_|refine AG ?_ _)); exact BK232.out⟩,⟨by repeat (first|(with_reducible first|exact HB.out|apply AE|apply AC|apply AD|refine AH ?_ GE230.out|refine AH ?_ GE231.out|refine AH ?_ GE232.out)|exact HB.out)⟩⟩
 case round=>
  clear H'
  try clear c1
  try clear p2
  try clear c4
  try clear c7
  try clear c8
  try clear hcz10_0
  try clear hcz10_1
  try clear hcz5_0
  try clear hcz5_1
  try clear hcz9_0
  try clear hcz9_1
  try clear hfz10_0
  try clear hfz10_1
  try clear hfz5_0
  try clear hfz5_1
  try clear hfz9_0
  try clear hfz9_1
  obtain ⟨x12_1,x233001_1,u233001,rfl,HA,HK1,HO_10,HO_231001,HO_233001,BK230,BK231,BK232,HB⟩:=hrel
  cases gk with
  |zero=>exact absurd HA.out (by simp [Ag.l0])
  | succ k1 =>
   have H:=HA.out
   clear HA
   simp only [Ag.l0] at H
   by_cases c11:x12_1<(l0_1.length:Int)
   ·rw [if_pos c11] at H
    have c11b0:decide (x12_1<(l0_1.length:Int))=true:=decide_eq_true c11
    clear c11
    by_cases c12:0≤x12_1
    ·rw [if_pos c12] at H
     have c12b0:decide (0≤x12_1)=true:=decide_eq_true c12
     clear c12
     by_cases c13:x12_1<(l0_1.length:Int)
     ·rw [if_pos c13] at H
      have c13b0:decide (x12_1<(l0_1.length:Int))=true:=decide_eq_true c13
      clear c13
      by_cases c14:x233001_1.length<2513169434916
      ·rw [if_pos c14] at H
       have LMc14:=Aside0.mk c14
       clear c14
       obtain ⟨y235,hy235⟩:∃y_:List (S64),y_=(x233001_1++[(⟨(Aj l0_1 x12_1).f0,(Aj l0_1 x12_1).f1,(Aj l0_1 x12_1).f2,(Aj l0_1 x12_1).f3⟩:S64)]):=⟨_,rfl⟩
       replace H:(Ag.l0 k1 l0_1 (l0_1.length:Int) (wrap64 (x12_1+1)) A8 y235)=some (r1,r2):=by first|(rw [hy235]; with_reducible exact H)|(have H2_:=(Option.bind_some _ _).symm.trans H; rw [hy235]; with_reducible exact H2_)|(have H2_:=(Option.bind_some _ _).symm.trans H; with_reducible exact H2_)|with_reducible exact H|(rw [hy235]; exact H)|exact H
       have Ny235:=Aside0.mk hy235
       clear hy235
       have H':=Aside0.mk H
       clear H
       have p233:0≤(x12_1:Int):=of_decide_eq_true zC
       have q233:x12_1<(l0_1.length:Int):=of_decide_eq_true zC
       obtain ⟨ad233,A233_3,c233_3,e233,hx233_0,hx233_1,hx233_2,hx233_3,hl233_3,hi233_3⟩:=CL (Kd.V_reads' HO_10.out).2.2 x12_1 p233 q233
       cases e233
       obtain ⟨ce233,hce233,hMe233,hcc233⟩:=Kd.V_get HO_10.out z42 x12_1 p233 (by first|exact q233|exact of_decide_eq_true zC|(have e_:=(Kd.V_reads' HO_10.out).1; omega))
       obtain ⟨ua233_3,uc233_3,rfl,ul233_3,ge233_3⟩:=FH hMe233
       have hv233_3:=hcc233 3 _ rfl
       rw [Be _ _ 3 zD] at hv233_3
       replace hv233_3:=Option.some.inj (hv233_3.symm.trans hx233_3)
       injection hv233_3 with hva_ hvn_ hvc_
       rw [hva_] at ge233_3
       rw [hvc_] at ul233_3
       have HL233_3:=Aside0.mk (show Kd.V (Kd.int .i64) 3 _ w.heap.size _ _ ((Aj l0_1 x12_1).f3) from Kd.V_mk ul233_3 ge233_3)
       clear hva_ hvn_ hvc_ ge233_3 ul233_3
       clear hcc233 hce233
       have HR233_3:=Aside0.mk hi233_3
       have HC233_3:=Aside0.mk hl233_3
       clear hi233_3 hl233_3
       replace p233:=eq_true p233
       replace q233:=eq_true q233
       go_wp2_with (first|((with_reducible refine Am (N:=5) rfl ?_); refine Ak ?hg (N:=5) ?hd (cs:= #[.string (⟨#[]⟩:ByteArray),.int .i64 0,.int .i64 0,.slice none 0 0]) (t:=42) ?hr ?_; (case hd=>rfl); (case hg=>rfl); (case hr=>first|(go_simp; done)|(go_simp; rfl)); intro gb234 hg w15 hbox hb; have n0_:=Aside0.mk (Kd.V_below (Kd.V_elderB (by (with_reducible repeat (first|apply Kd.V_alloc|apply Kd.V_drewN|apply Kd.V_drew)); exact HO_10.out) gb234 (Nat.le_of_eq hg.symm)) hb); have n1_:=Aside0.mk (Kd.V_below (Kd.V_elderB (by (with_reducible repeat (first|apply Kd.V_alloc|apply Kd.V_drewN|apply Kd.V_drew)); exact HO_231001.out) gb234 (Nat.le_of_eq hg.symm)) hb); have n2_:=Aside0.mk (Kd.N_below (Kd.N_elderB (by (with_reducible repeat (first|apply Kd.N_alloc|apply Kd.N_drewN|apply Kd.N_drew)); exact HO_233001.out) gb234 (Nat.le_of_eq hg.symm)) hb); have n3_:=Aside0.mk (Kd.V_below (Kd.V_elderB (by (with_reducible repeat (first|apply Kd.V_alloc|apply Kd.V_drewN|apply Kd.V_drew)); exact HL233_3.out) gb234 (Nat.le_of_eq hg.symm)) hb); have n4_:=Aside0.mk (AN (g:=gb230) (o:= .cells #[.int .i64 A8,.slice (some ad233) l0_1.length c0_1] 24 (0,0)) zV hb); have n5_:=Aside0.mk (AN (g:=gb231) (o:= .cells #[.int .i64 0,.slice none 0 0] 34 (0,0)) zA0 hb); have n6_:=Aside0.mk (AN (g:=gb232) (o:= .cells #[.int .i64 A8,u233001] 34 (0,0)) (by (with_reducible repeat (first|refine AF ?_ _|refine AI ?_|refine AG ?_ _)); exact BK232.out) hb); have n7_:=Aside0.mk (Kd.C_below (by repeat (first|(with_reducible exact HR233_3.out)|(with_reducible refine Kd.C_alloc ?_ _)|(with_reducible refine Kd.C_drewN ?_ _)|(with_reducible refine Kd.C_drew ?_)|exact HR233_3.out)) hb); have n8_:=Aside0.mk (AO (by repeat (first|(with_reducible first|exact HB.out|apply AE|apply AC|apply AD|refine AH ?_ GE230.out|refine AH ?_ GE231.out|refine AH ?_ GE232.out)|exact HB.out)) hb); have n9_:=Aside0.mk (hbox); have n10_:=Aside0.mk ((by rw [hg]; exact (AP (by repeat (first|(with_reducible first|exact HB.out|apply AE|apply AC|apply AD|refine AH ?_ GE230.out|refine AH ?_ GE231.out|refine AH ?_ GE232.out)|exact HB.out))):w.heap.size≤gb234)); have n11_:=Aside0.mk ((by rw [hg]; exact (AP (by repeat (first|(with_reducible first|exact HB.out|apply AE|apply AC|apply AD|refine AH ?_ GE230.out|refine AH ?_ GE231.out|refine AH ?_ GE232.out)|exact HB.out))):w.heap.size≤gb234)); have n12_:=Aside0.mk ((by rw [hg]; exact Nat.ne_of_lt (Ar (g:=gb230) (o:= .cells #[.int .i64 A8,.slice (some ad233) l0_1.length c0_1] 24 (0,0)) zV):gb230≠gb234)); have n13_:=Aside0.mk ((by rw [hg]; exact Nat.ne_of_gt (Ar (g:=gb230) (o:= .cells #[.int .i64 A8,.slice (some ad233) l0_1.length c0_1] 24 (0,0)) zV):gb234≠gb230)); have n14_:=Aside0.mk ((by rw [hg]; exact Nat.ne_of_lt (Ar (g:=gb231) (o:= .cells #[.int .i64 0,.slice none 0 0] 34 (0,0)) zA0):gb231≠gb234)); have n15_:=Aside0.mk ((by rw [hg]; exact Nat.ne_of_gt (Ar (g:=gb231) (o:= .cells #[.int .i64 0,.slice none 0 0] 34 (0,0)) zA0):gb234≠gb231)); have n16_:=Aside0.mk ((by rw [hg]; exact Nat.ne_of_lt (Ar (g:=gb232) (o:= .cells #[.int .i64 A8,u233001] 34 (0,0)) (by (with_reducible repeat (first|refine AF ?_ _|refine AI ?_|refine AG ?_ _)); exact BK232.out)):gb232≠gb234)); have n17_:=Aside0.mk ((by rw [hg]; exact Nat.ne_of_gt (Ar (g:=gb232) (o:= .cells #[.int .i64 A8,u233001] 34 (0,0)) (by (with_reducible repeat (first|refine AF ?_ _|refine AI ?_|refine AG ?_ _)); exact BK232.out)):gb234≠gb232)); clear HO_10; clear HO_231001; clear HO_233001; clear HL233_3; clear BK230; clear BK231; clear BK232; clear HR233_3; clear HB; have HO_10:=n0_; have HO_231001:=n1_; have HO_233001:=n2_; have HL233_3:=n3_; have BK230:=n4_; have BK231:=n5_; have BK232:=n6_; have HR233_3:=n7_; have HB:=n8_; have BK234:=n9_; have GW234:=n10_; have GE234:=n11_; have NB230_234:=n12_; have NB234_230:=n13_; have NB231_234:=n14_; have NB234_231:=n15_; have NB232_234:=n16_; have NB234_232:=n17_; clear n0_ n1_ n2_ n3_ n4_ n5_ n6_ n7_ n8_ n9_ n10_ n11_ n12_ n13_ n14_ n15_ n16_ n17_; clear hb hbox hg; have hnb16:=NB234_230.out; have hnc16:=NB230_234.out; have hnb17:=NB234_231.out; have hnc17:=NB231_234.out; have hnb18:=NB234_232.out; have hnc18:=NB232_234.out; have hcz19_0:w15.cell? ⟨gb234,0,none⟩=some (.string (⟨#[]⟩:ByteArray)):=(AK BK234.out 0).trans rfl; have hcz19_1:w15.cell? ⟨gb234,1,none⟩=some (.int .i64 0):=(AK BK234.out 1).trans rfl; have hcz19_2:w15.cell? ⟨gb234,2,none⟩=some (.int .i64 0):=(AK BK234.out 2).trans rfl; have hcz19_3:w15.cell? ⟨gb234,3,none⟩=some (.slice none 0 0):=(AK BK234.out 3).trans rfl; have hfz19_0:=AJ BK234.out 0; have hfz19_1:=AJ BK234.out 1; have hfz19_2:=AJ BK234.out 2; have hfz19_3:=AJ BK234.out 3)|((with_reducible refine Bg (t:=42) (p:=5) rfl ?_); refine Bc (t:=42) (p:=5) (v:= ?vo_w20) (w1:=((((w15.setCell ⟨gb234,0,none⟩ (.string ((Aj l0_1 x12_1).f0))).setCell ⟨gb234,1,none⟩ (.int .i64 ((Aj l0_1 x12_1).f1))).setCell ⟨gb234,2,none⟩ (.int .i64 ((Aj l0_1 x12_1).f2))).setCell ⟨gb234,3,none⟩ (.slice A233_3 ((Aj l0_1 x12_1).f3).length c233_3))) ?hg ?ho ?hn ?hr ?_; (case ho=>rfl); (case hg=>rfl); (case hn=>rfl); (case hr=>first|(go_simp; done)|(go_simp; rfl)); intro w20 hw; have n0_:Aside0 (Kd.V k42 42 w20 w.heap.size (fun k_=>(P0_1_ k_∨w.heap.size≤k_)∧some k_≠(u233001:Value).ownBlock∧k_≠gb230∧k_≠gb231∧k_≠gb232∧k_≠gb234) (.slice (some ad233) l0_1.length c0_1) l0_1):=⟨(by rw [hw]; exact (by (with_reducible repeat (first|apply Kd.V_alloc|apply Kd.V_drewN|apply Kd.V_drew)); exact Kd.V_mono (Kd.V_far (p:=⟨gb234,3,none⟩) (Kd.V_far (p:=⟨gb234,2,none⟩) (Kd.V_far (p:=⟨gb234,1,none⟩) (Kd.V_far (p:=⟨gb234,0,none⟩) (Kd.V_mono HO_10.out (fun k_ hk=>(⟨hk,hk.2⟩:_∧k_≠gb234))) (fun _ hk=>hk.2) (.string ((Aj l0_1 x12_1).f0))) (fun _ hk=>hk.2) (.int .i64 ((Aj l0_1 x12_1).f1))) (fun _ hk=>hk.2) (.int .i64 ((Aj l0_1 x12_1).f2))) (fun _ hk=>hk.2) (.slice A233_3 ((Aj l0_1 x12_1).f3).length c233_3)) (fun _ hk=>⟨hk.1.1.1,⟨hk.1.1.2.1,⟨hk.1.1.2.2.1,⟨hk.1.1.2.2.2.1,⟨hk.1.1.2.2.2.2,hk.1.2⟩⟩⟩⟩⟩)))⟩; have n1_:Aside0 (Kd.V k42 42 w20 w.heap.size (fun k_=>(P0_1_ k_∨w.heap.size≤k_)∧some k_≠(u233001:Value).ownBlock∧k_≠gb230∧k_≠gb231∧k_≠gb232∧k_≠gb234) (.slice (some ad233) l0_1.length c0_1) l0_1):=⟨(by rw [hw]; exact (by (with_reducible repeat (first|apply Kd.V_alloc|apply Kd.V_drewN|apply Kd.V_drew)); exact Kd.V_mono (Kd.V_far (p:=⟨gb234,3,none⟩) (Kd.V_far (p:=⟨gb234,2,none⟩) (Kd.V_far (p:=⟨gb234,1,none⟩) (Kd.V_far (p:=⟨gb234,0,none⟩) (Kd.V_mono HO_231001.out (fun k_ hk=>(⟨hk,hk.2⟩:_∧k_≠gb234))) (fun _ hk=>hk.2) (.string ((Aj l0_1 x12_1).f0))) (fun _ hk=>hk.2) (.int .i64 ((Aj l0_1 x12_1).f1))) (fun _ hk=>hk.2) (.int .i64 ((Aj l0_1 x12_1).f2))) (fun _ hk=>hk.2) (.slice A233_3 ((Aj l0_1 x12_1).f3).length c233_3)) (fun _ hk=>⟨hk.1.1.1,⟨hk.1.1.2.1,⟨hk.1.1.2.2.1,⟨hk.1.1.2.2.2.1,⟨hk.1.1.2.2.2.2,hk.1.2⟩⟩⟩⟩⟩)))⟩; have n2_:Aside0 (Kd.N k64 64 w20 w.heap.size (fun k_=>(P0_1_ k_∨w.heap.size≤k_)∧k_≠gb230∧k_≠gb231∧k_≠gb232∧k_≠gb234) u233001 x233001_1):=⟨(by rw [hw]; exact (by (with_reducible repeat (first|apply Kd.N_alloc|apply Kd.N_drewN|apply Kd.N_drew)); exact Kd.N_mono (Kd.N_far (p:=⟨gb234,3,none⟩) (Kd.N_far (p:=⟨gb234,2,none⟩) (Kd.N_far (p:=⟨gb234,1,none⟩) (Kd.N_far (p:=⟨gb234,0,none⟩) (Kd.N_mono HO_233001.out (fun k_ hk=>(⟨hk,hk.2⟩:_∧k_≠gb234))) (fun _ hk=>hk.2) (.string ((Aj l0_1 x12_1).f0))) (fun _ hk=>hk.2) (.int .i64 ((Aj l0_1 x12_1).f1))) (fun _ hk=>hk.2) (.int .i64 ((Aj l0_1 x12_1).f2))) (fun _ hk=>hk.2) (.slice A233_3 ((Aj l0_1 x12_1).f3).length c233_3)) (fun _ hk=>⟨hk.1.1.1,⟨hk.1.1.2.1,⟨hk.1.1.2.2.1,⟨hk.1.1.2.2.2,hk.1.2⟩⟩⟩⟩)))⟩; have n3_:Aside0 (Kd.V (Kd.int .i64) 3 w20 w.heap.size (fun k_=>(P0_1_ k_∨w.heap.size≤k_)∧some k_≠(u233001:Value).ownBlock∧k_≠gb230∧k_≠gb231∧k_≠gb232∧k_≠gb234) (.slice A233_3 ((Aj l0_1 x12_1).f3).length c233_3) ((Aj l0_1 x12_1).f3)):=⟨(by rw [hw]; exact (by (with_reducible repeat (first|apply Kd.V_alloc|apply Kd.V_drewN|apply Kd.V_drew)); exact Kd.V_mono (Kd.V_far (p:=⟨gb234,3,none⟩) (Kd.V_far (p:=⟨gb234,2,none⟩) (Kd.V_far (p:=⟨gb234,1,none⟩) (Kd.V_far (p:=⟨gb234,0,none⟩) (Kd.V_mono HL233_3.out (fun k_ hk=>(⟨hk,hk.2⟩:_∧k_≠gb234))) (fun _ hk=>hk.2) (.string ((Aj l0_1 x12_1).f0))) (fun _ hk=>hk.2) (.int .i64 ((Aj l0_1 x12_1).f1))) (fun _ hk=>hk.2) (.int .i64 ((Aj l0_1 x12_1).f2))) (fun _ hk=>hk.2) (.slice A233_3 ((Aj l0_1 x12_1).f3).length c233_3)) (fun _ hk=>⟨hk.1.1.1,⟨hk.1.1.2.1,⟨hk.1.1.2.2.1,⟨hk.1.1.2.2.2.1,⟨hk.1.1.2.2.2.2,hk.1.2⟩⟩⟩⟩⟩)))⟩; have n4_:Aside0 (w20.heap[gb230]? =some (.cells #[.int .i64 A8,.slice (some ad233) l0_1.length c0_1] 24 (0,0))):=⟨(by rw [hw]; exact (by (with_reducible repeat (first|refine AF ?_ _|refine AI ?_|refine AG ?_ _)); refine AV ?_ NB230_234.out _; (with_reducible repeat (first|refine AF ?_ _|refine AI ?_|refine AG ?_ _)); refine AV ?_ NB230_234.out _; (with_reducible repeat (first|refine AF ?_ _|refine AI ?_|refine AG ?_ _)); refine AV ?_ NB230_234.out _; (with_reducible repeat (first|refine AF ?_ _|refine AI ?_|refine AG ?_ _)); refine AV ?_ NB230_234.out _; (with_reducible repeat (first|refine AF ?_ _|refine AI ?_|refine AG ?_ _)); exact BK230.out))⟩; have n5_:Aside0 (w20.heap[gb231]? =some (.cells #[.int .i64 0,.slice none 0 0] 34 (0,0))):=⟨(by rw [hw]; exact (by (with_reducible repeat (first|refine AF ?_ _|refine AI ?_|refine AG ?_ _)); refine AV ?_ NB231_234.out _; (with_reducible repeat (first|refine AF ?_ _|refine AI ?_|refine AG ?_ _)); refine AV ?_ NB231_234.out _; (with_reducible repeat (first|refine AF ?_ _|refine AI ?_|refine AG ?_ _)); refine AV ?_ NB231_234.out _; (with_reducible repeat (first|refine AF ?_ _|refine AI ?_|refine AG ?_ _)); refine AV ?_ NB231_234.out _; (with_reducible repeat (first|refine AF ?_ _|refine AI ?_|refine AG ?_ _)); exact BK231.out))⟩; have n6_:Aside0 (w20.heap[gb232]? =some (.cells #[.int .i64 A8,u233001] 34 (0,0))):=⟨(by rw [hw]; exact (by (with_reducible repeat (first|refine AF ?_ _|refine AI ?_|refine AG ?_ _)); refine AV ?_ NB232_234.out _; (with_reducible repeat (first|refine AF ?_ _|refine AI ?_|refine AG ?_ _)); refine AV ?_ NB232_234.out _; (with_reducible repeat (first|refine AF ?_ _|refine AI ?_|refine AG ?_ _)); refine AV ?_ NB232_234.out _; (with_reducible repeat (first|refine AF ?_ _|refine AI ?_|refine AG ?_ _)); refine AV ?_ NB232_234.out _; (with_reducible repeat (first|refine AF ?_ _|refine AI ?_|refine AG ?_ _)); exact BK232.out))⟩; have n7_:Aside0 (w20.heap[gb234]? =some (.cells #[.string ((Aj l0_1 x12_1).f0),.int .i64 ((Aj l0_1 x12_1).f1),.int .i64 ((Aj l0_1 x12_1).f2),.slice A233_3 ((Aj l0_1 x12_1).f3).length c233_3] 42 (0,0))):=⟨(by rw [hw]; exact (by (with_reducible repeat (first|refine AF ?_ _|refine AI ?_|refine AG ?_ _)); refine At (cs:= #[.string ((Aj l0_1 x12_1).f0),.int .i64 ((Aj l0_1 x12_1).f1),.int .i64 ((Aj l0_1 x12_1).f2),.slice none 0 0]) ?_ 3 _ rfl; (with_reducible repeat (first|refine AF ?_ _|refine AI ?_|refine AG ?_ _)); refine At (cs:= #[.string ((Aj l0_1 x12_1).f0),.int .i64 ((Aj l0_1 x12_1).f1),.int .i64 0,.slice none 0 0]) ?_ 2 _ rfl; (with_reducible repeat (first|refine AF ?_ _|refine AI ?_|refine AG ?_ _)); refine At (cs:= #[.string ((Aj l0_1 x12_1).f0),.int .i64 0,.int .i64 0,.slice none 0 0]) ?_ 1 _ rfl; (with_reducible repeat (first|refine AF ?_ _|refine AI ?_|refine AG ?_ _)); refine At (cs:= #[.string (⟨#[]⟩:ByteArray),.int .i64 0,.int .i64 0,.slice none 0 0]) ?_ 0 _ rfl; (with_reducible repeat (first|refine AF ?_ _|refine AI ?_|refine AG ?_ _)); exact BK234.out))⟩; have n8_:Aside0 (Below w.heap.size w w20):=⟨(by rw [hw]; exact zA7)⟩; clear hw; clear HO_10; clear HO_231001; clear HO_233001; clear HL233_3; clear BK230; clear BK231; clear BK232; clear BK234; clear HB; have HO_10:=n0_; have HO_231001:=n1_; have HO_233001:=n2_; have HL233_3:=n3_; have BK230:=n4_; have BK231:=n5_; have BK232:=n6_; have BK234:=n7_; have HB:=n8_; clear n0_ n1_ n2_ n3_ n4_ n5_ n6_ n7_ n8_; have hnb21:=NB232_230.out; have hnc21:=NB230_232.out; have hnb22:=NB232_231.out; have hnc22:=NB231_232.out; have hcz23_0:w20.cell? ⟨gb232,0,none⟩=some (.int .i64 A8):=(AK BK232.out 0).trans rfl; have hcz23_1:w20.cell? ⟨gb232,1,none⟩=some (u233001):=(AK BK232.out 1).trans rfl; have hfz23_0:=AJ BK232.out 0; have hfz23_1:=AJ BK232.out 1; have hcz24_0:w20.cell? ⟨gb234,0,none⟩=some (.string ((Aj l0_1 x12_1).f0)):=(AK BK234.out 0).trans rfl; have hcz24_1:w20.cell? ⟨gb234,1,none⟩=some (.int .i64 ((Aj l0_1 x12_1).f1)):=(AK BK234.out 1).trans rfl; have hcz24_2:w20.cell? ⟨gb234,2,none⟩=some (.int .i64 ((Aj l0_1 x12_1).f2)):=(AK BK234.out 2).trans rfl; have hcz24_3:w20.cell? ⟨gb234,3,none⟩=some (.slice A233_3 ((Aj l0_1 x12_1).f3).length c233_3):=(AK BK234.out 3).trans rfl; have hfz24_0:=AJ BK234.out 0; have hfz24_1:=AJ BK234.out 1; have hfz24_2:=AJ BK234.out 2; have hfz24_3:=AJ BK234.out 3)|((with_reducible refine Bm (b:= .append) (xs:= #[.tmp 17,.tmp 19]) rfl ?_); at_builtin; refine Kd.N_append k64 (w0:=w) w.heap.size rfl (.tmp 17) (.tmp 19) 32 64 (.agg #[(.string ⟨#[]⟩),(.int .i64 0),(.int .i64 0),(.slice none 0 0)]) 56 rfl Try.underlying32 info64 rfl zX zD u233001 x233001_1 (⟨(Aj l0_1 x12_1).f0,(Aj l0_1 x12_1).f1,(Aj l0_1 x12_1).f2,(Aj l0_1 x12_1).f3⟩:S64) [.string ((Aj l0_1 x12_1).f0),.int .i64 ((Aj l0_1 x12_1).f1),.int .i64 ((Aj l0_1 x12_1).f2),.slice A233_3 ((Aj l0_1 x12_1).f3).length c233_3] (fun k_=>(P0_1_ k_∨w.heap.size≤k_)∧k_≠gb230∧k_≠gb231∧k_≠gb232∧k_≠gb234) (fun k_=>((fun k_=>(P0_1_ k_∨w.heap.size≤k_)∧k_≠gb230∧k_≠gb231∧k_≠gb232∧k_≠gb234)) k_∧some k_≠(u233001:Value).ownBlock) rfl rfl ?aP (fun _ hk=>hk) ?aF ?aO ?aB ?aS ?aL ?_; (case aP=>exact (k64_mkF _ _ (⟨(Aj l0_1 x12_1).f0,(Aj l0_1 x12_1).f1,(Aj l0_1 x12_1).f2,(Aj l0_1 x12_1).f3⟩:S64) (Kd.V_reads' (Kd.V_mono (ok':=(fun k_=>((fun k_=>(P0_1_ k_∨w.heap.size≤k_)∧k_≠gb230∧k_≠gb231∧k_≠gb232∧k_≠gb234)) k_∧some k_≠(u233001:Value).ownBlock)) (HL233_3.out) (fun k_ hk=>⟨⟨hk.1,⟨hk.2.2.1,⟨hk.2.2.2.1,⟨hk.2.2.2.2.1,hk.2.2.2.2.2⟩⟩⟩⟩,hk.2.1⟩))).2.1 (Kd.V_F (Kd.V_mono (ok':=(fun k_=>((fun k_=>(P0_1_ k_∨w.heap.size≤k_)∧k_≠gb230∧k_≠gb231∧k_≠gb232∧k_≠gb234)) k_∧some k_≠(u233001:Value).ownBlock)) (HL233_3.out) (fun k_ hk=>⟨⟨hk.1,⟨hk.2.2.1,⟨hk.2.2.2.1,⟨hk.2.2.2.2.1,hk.2.2.2.2.2⟩⟩⟩⟩,hk.2.1⟩))))); (case aB=>exact zA7); (case aF=>exact (fun k_ hk=>⟨(.inr (Nat.le_trans (AP zA7) hk)),Kd.freshB (g:=gb230) (o:= .cells #[.int .i64 A8,.slice (some ad233) l0_1.length c0_1] 24 (0,0)) zV k_ hk,Kd.freshB (g:=gb231) (o:= .cells #[.int .i64 0,.slice none 0 0] 34 (0,0)) zA0 k_ hk,Kd.freshB (g:=gb232) (o:= .cells #[.int .i64 A8,u233001] 34 (0,0)) (by (with_reducible repeat (first|refine AF ?_ _|refine AI ?_|refine AG ?_ _)); exact BK232.out) k_ hk,Kd.freshB (g:=gb234) (o:= .cells #[.string ((Aj l0_1 x12_1).f0),.int .i64 ((Aj l0_1 x12_1).f1),.int .i64 ((Aj l0_1 x12_1).f2),.slice A233_3 ((Aj l0_1 x12_1).f3).length c233_3] 42 (0,0)) (by (with_reducible repeat (first|refine AF ?_ _|refine AI ?_|refine AG ?_ _)); exact BK234.out) k_ hk⟩)); (case aO=>exact (by (with_reducible repeat (first|apply Kd.N_alloc|apply Kd.N_drewN|apply Kd.N_drew)); exact HO_233001.out)); (case aS=>exact (AP zA7)); (case aL=>have:=LMc14.out; omega); intro v236 w25 ho hb hg hat; rw [←Ny235.out] at ho; have n0_:=Aside0.mk (Kd.V_afterv (ok:=(fun k_=>(P0_1_ k_∨w.heap.size≤k_)∧k_≠gb230∧k_≠gb231∧k_≠gb232∧k_≠gb234)) (by (with_reducible repeat (first|apply Kd.V_alloc|apply Kd.V_drewN|apply Kd.V_drew)); exact Kd.V_mono HO_10.out (fun _ hk=>⟨⟨hk.1,⟨hk.2.2.1,⟨hk.2.2.2.1,⟨hk.2.2.2.2.1,hk.2.2.2.2.2⟩⟩⟩⟩,hk.2.1⟩)) hg hat); have n1_:=Aside0.mk (Kd.V_afterv (ok:=(fun k_=>(P0_1_ k_∨w.heap.size≤k_)∧k_≠gb230∧k_≠gb231∧k_≠gb232∧k_≠gb234)) (by (with_reducible repeat (first|apply Kd.V_alloc|apply Kd.V_drewN|apply Kd.V_drew)); exact Kd.V_mono HO_231001.out (fun _ hk=>⟨⟨hk.1,⟨hk.2.2.1,⟨hk.2.2.2.1,⟨hk.2.2.2.2.1,hk.2.2.2.2.2⟩⟩⟩⟩,hk.2.1⟩)) hg hat); have n2_:=Aside0.mk (BC (g:=gb230) (o:= .cells #[.int .i64 A8,.slice (some ad233) l0_1.length c0_1] 24 (0,0)) zV hg (Kd.N_ne HO_233001.out BK230.out zX)); have n3_:=Aside0.mk (BC (g:=gb231) (o:= .cells #[.int .i64 0,.slice none 0 0] 34 (0,0)) zA0 hg (Kd.N_ne HO_233001.out BK231.out zX)); have n4_:=Aside0.mk (BC (g:=gb232) (o:= .cells #[.int .i64 A8,u233001] 34 (0,0)) (by (with_reducible repeat (first|refine AF ?_ _|refine AI ?_|refine AG ?_ _)); exact BK232.out) hg (Kd.N_ne HO_233001.out BK232.out zX)); have n5_:=Aside0.mk (Kd.V_afterv (ok:=(fun k_=>(P0_1_ k_∨w.heap.size≤k_)∧k_≠gb230∧k_≠gb231∧k_≠gb232∧k_≠gb234)) (by (with_reducible repeat (first|apply Kd.V_alloc|apply Kd.V_drewN|apply Kd.V_drew)); exact Kd.V_mono HL233_3.out (fun _ hk=>⟨⟨hk.1,⟨hk.2.2.1,⟨hk.2.2.2.1,⟨hk.2.2.2.2.1,hk.2.2.2.2.2⟩⟩⟩⟩,hk.2.1⟩)) hg hat); have n6_:=Aside0.mk (BC (g:=gb234) (o:= .cells #[.string ((Aj l0_1 x12_1).f0),.int .i64 ((Aj l0_1 x12_1).f1),.int .i64 ((Aj l0_1 x12_1).f2),.slice A233_3 ((Aj l0_1 x12_1).f3).length c233_3] 42 (0,0)) (by (with_reducible repeat (first|refine AF ?_ _|refine AI ?_|refine AG ?_ _)); exact BK234.out) hg (Kd.N_ne HO_233001.out BK234.out zX)); have n7_:=Aside0.mk (hb); have n8_:=Aside0.mk (ho); clear HO_10; clear HO_231001; clear BK230; clear BK231; clear BK232; clear HL233_3; clear BK234; clear HB; clear HO_233001; have HO_10:=n0_; have HO_231001:=n1_; have BK230:=n2_; have BK231:=n3_; have BK232:=n4_; have HL233_3:=n5_; have BK234:=n6_; have HB:=n7_; have HO237:=n8_; clear n0_ n1_ n2_ n3_ n4_ n5_ n6_ n7_ n8_; clear ho hb hg hat; obtain ⟨Ao26,co26,eo26⟩:=Kd.N_slice HO237.out; subst eo26; have hcz27_0:w25.cell? ⟨gb232,0,none⟩=some (.int .i64 A8):=(AK BK232.out 0).trans rfl; have hcz27_1:w25.cell? ⟨gb232,1,none⟩=some (u233001):=(AK BK232.out 1).trans rfl; have hfz27_0:=AJ BK232.out 0; have hfz27_1:=AJ BK232.out 1))
       go_roundg k1
       case measure=>have:=HK1.out; omega
       case rel=>exact ⟨(wrap64 (x12_1+1)),(y235),(.slice Ao26 y235.length co26),zH,H',⟨by have:=HK1.out; omega⟩,⟨by (with_reducible repeat (first|apply Kd.V_alloc|apply Kd.V_drewN|apply Kd.V_drew)); exact Kd.V_mono (Kd.V_far (p:=⟨gb232,1,none⟩) (Kd.V_mono HO_10.out (fun k_ hk=>(⟨hk,hk.1.2.2.2.1⟩:_∧k_≠gb232))) (fun _ hk=>hk.2) (.slice Ao26 y235.length co26)) (fun _ hk=>⟨hk.1.1.1,⟨hk.1.2,⟨hk.1.1.2.1,⟨hk.1.1.2.2.1,hk.1.1.2.2.2.1⟩⟩⟩⟩)⟩,⟨by (with_reducible repeat (first|apply Kd.V_alloc|apply Kd.V_drewN|apply Kd.V_drew)); exact Kd.V_mono (Kd.V_far (p:=⟨gb232,1,none⟩) (Kd.V_mono HO_231001.out (fun k_ hk=>(⟨hk,hk.1.2.2.2.1⟩:_∧k_≠gb232))) (fun _ hk=>hk.2) (.slice Ao26 y235.length co26)) (fun _ hk=>⟨hk.1.1.1,⟨hk.1.2,⟨hk.1.1.2.1,⟨hk.1.1.2.2.1,hk.1.1.2.2.2.1⟩⟩⟩⟩)⟩,⟨by (with_reducible repeat (first|apply Kd.N_alloc|apply Kd.N_drewN|apply Kd.N_drew)); exact Kd.N_mono (Kd.N_far (p:=⟨gb232,1,none⟩) (Kd.N_mono HO237.out (fun k_ hk=>(⟨hk,hk.2.2.2.1⟩:_∧k_≠gb232))) (fun _ hk=>hk.2) (.slice Ao26 y235.length co26)) (fun _ hk=>⟨hk.1.1,⟨hk.1.2.1,⟨hk.1.2.2.1,hk.1.2.2.2.1⟩⟩⟩)⟩,⟨by (with_reducible repeat (first|refine AF ?_ _|refine AI ?_|refine AG ?_ _)); refine AV ?_ NB230_232.out _; (with_reducible repeat (first|refine AF ?_ _|refine AI ?_|refine AG ?_ _)); exact BK230.out⟩,⟨by (with_reducible repeat (first|refine AF ?_ _|refine AI ?_|refine AG ?_ _)); refine AV ?_ NB231_232.out _; (with_reducible repeat (first|refine AF ?_ _|refine AI ?_|refine AG ?_ _)); exact BK231.out⟩,⟨by (with_reducible repeat (first|refine AF ?_ _|refine AI ?_|refine AG ?_ _)); refine At (cs:= #[.int .i64 A8,u233001]) ?_ 1 _ rfl; (with_reducible repeat (first|refine AF ?_ _|refine AI ?_|refine AG ?_ _)); exact BK232.out⟩,⟨by repeat (first|(with_reducible first|exact HB.out|apply AE|apply AC|apply AD|refine AH ?_ GE230.out|refine AH ?_ GE231.out|refine AH ?_ GE232.out|refine AH ?_ GE234.out)|exact HB.out)⟩⟩
      ·rw [if_neg c14] at H
       exact absurd H zA1
     ·rw [if_neg c13] at H
      exact absurd H zA1
    ·rw [if_neg c12] at H
     exact absurd H zA1
   ·rw [if_neg c11] at H
    have c11b0:decide (x12_1<(l0_1.length:Int))=false:=decide_eq_false c11
    clear c11
    simp only [Option.some.injEq,Prod.mk.injEq] at H
    obtain ⟨rfl,rfl⟩:=H
    have hnb28:=NB232_230.out
    have hnc28:=NB230_232.out
    have hnb29:=NB232_231.out
    have hnc29:=NB231_232.out
    have hcz30_0:wr.cell? ⟨gb232,0,none⟩=some (.int .i64 A8):=(AK BK232.out 0).trans rfl
    have hcz30_1:wr.cell? ⟨gb232,1,none⟩=some (u233001):=(AK BK232.out 1).trans rfl
    have hfz30_0:=AJ BK232.out 0
    have hfz30_1:=AJ BK232.out 1
    have hnb31:=NB231_230.out
    have hnc31:=NB230_231.out
    have hcz32_0:wr.cell? ⟨gb231,0,none⟩=some (.int .i64 0):=(AK BK231.out 0).trans rfl
    have hcz32_1:wr.cell? ⟨gb231,1,none⟩=some (.slice none 0 0):=(AK BK231.out 1).trans rfl
    have hfz32_0:=AJ BK231.out 0
    have hfz32_1:=AJ BK231.out 1
    obtain ⟨Ao33,co33,eo33⟩:=Kd.N_slice HO_233001.out
    subst eo33
    go_wp2
    refine bodyPost_ret (results_cell_row rfl _ _ gb231 34 #[.int .i64 A8,.slice Ao33 x233001_1.length co33] (0,0) _ rfl (by (with_reducible repeat (first|refine AF ?_ _|refine AI ?_|refine AG ?_ _)); refine At (cs:= #[.int .i64 A8,.slice none 0 0]) ?_ 1 _ rfl; (with_reducible repeat (first|refine AF ?_ _|refine AI ?_|refine AG ?_ _)); refine At (cs:= #[.int .i64 0,.slice none 0 0]) ?_ 0 _ rfl; (with_reducible repeat (first|refine AF ?_ _|refine AI ?_|refine AG ?_ _)); exact BK231.out) Try.underlying34 rfl zF) rfl ?_
    exact ⟨_,by first|rfl|(simp [AY,AX]<;>rfl)|(simp [*,AY,AX]<;>rfl),by (with_reducible repeat (first|apply Kd.N_alloc|apply Kd.N_drewN|apply Kd.N_drew)); exact Kd.N_mono (Kd.N_far (p:=⟨gb231,1,none⟩) (Kd.N_far (p:=⟨gb231,0,none⟩) (Kd.N_mono HO_233001.out (fun k_ hk=>(⟨hk,hk.2.2.1⟩:_∧k_≠gb231))) (fun _ hk=>hk.2) (.int .i64 A8)) (fun _ hk=>hk.2) (.slice Ao33 x233001_1.length co33)) (fun _ hk=>hk.1.1),by repeat (first|(with_reducible first|exact HB.out|apply AE|apply AC|apply AD|refine AH ?_ GE230.out|refine AH ?_ GE231.out|refine AH ?_ GE232.out)|exact HB.out)⟩
end Go.Proofs.Ytdadecjefafflaa.PLst
end
section
namespace Go.Proofs.Ytdadecjefafflaa.PLst
set_option maxRecDepth 100000
open Go.RowKit Go.Proofs.YtdadecjefafflaaW.PrintWords Go.Proofs.YtdadecjefafflaaW.PrintLast Go.Proofs.YtdadecjefafflaaW.PrintMore
attribute [local go_sem] BP BN Bb Ba BG BF BO BM
theorem eqA54 (d:Nat) (w:World) (x0 y0:Int) (x1 y1:Int):
  (Op.equalIn (d+2) 54 (.agg #[.int .i64 x0,.int .i64 x1]) (.agg #[.int .i64 y0,.int .i64 y1])).run Try.prog w= .ok (x0==y0&&(x1==y1)) w:=by
 refine eqA_of Try.underlying54 zF ?_
 refine Fw (by rfl) (by go_simp; rfl) (by go_simp; rfl) (by go_simp) ?_
 exact Fv (by rfl) (by go_simp; rfl) (by go_simp; rfl) (by go_simp)
end Go.Proofs.Ytdadecjefafflaa.PLst
end
section
namespace Go.Proofs.StSort
set_option maxRecDepth 100000
open Go.Sort
variable {α:Type} [Inhabited α] {key:α→Int} {idx:α→Nat}
def R (key:α→Int) (idx:α→Nat) (x y:α):Prop:=key x<key y∨(key x=key y∧idx x<idx y)
theorem R.trans {x y z:α} (h:R key idx x y) (g:R key idx y z):R key idx x z:=by unfold R at*; omega
def cfk (key:α→Int) (x y:α):Int:=key x-key y
def ltk (key:α→Int) (x y:α):Bool:=decide (cfk key x y<0)
theorem Fi {x y:α} :ltk key x y=true↔key x<key y:=by unfold ltk cfk; simp only [decide_eq_true_eq]; omega
theorem Es {x y:α} :ltk key x y=false↔key y≤key x:=by unfold ltk cfk; simp only [decide_eq_false_iff_not]; omega
def SR (key:α→Int) (idx:α→Nat) (a b:Nat) (d:Array α):Prop:=∀p q,a≤p→p<q→q<b→R key idx d[p]! d[q]!
def Cross (idx:α→Nat) (a m b:Nat) (d:Array α):Prop:=∀p q,a≤p→p<m→m≤q→q<b→idx d[p]! <idx d[q]!
structure Pre (key:α→Int) (idx:α→Nat) (a m b:Nat) (d:Array α):Prop where
 l:SR key idx a m d
 r:SR key idx m b d
 c:Cross idx a m b d
def Post (key:α→Int) (idx:α→Nat) (a b:Nat) (d d':Array α):Prop:=PermIn a b d d'∧SR key idx a b d'
structure Rot (d:Array α) (s m e:Nat) (d':Array α):Prop where
 size:d'.size=d.size
 lo:∀p,s≤p→p<s+(e-m)→d'[p]! =d[p+(m-s)]!
 hi:∀p,s+(e-m)≤p→p<e→d'[p]! =d[p-(e-m)]!
 out:∀p,p<s∨e≤p→d'[p]! =d[p]!
structure SwR (d:Array α) (a b n:Nat) (d':Array α):Prop where
 size:d'.size=d.size
 lo:∀p,a≤p→p<a+n→d'[p]! =d[p-a+b]!
 hi:∀p,b≤p→p<b+n→d'[p]! =d[p-b+a]!
 out:∀p,(p<a∨a+n≤p)→(p<b∨b+n≤p)→d'[p]! =d[p]!
theorem Rot.none {d:Array α} {s m e:Nat} (h:s=m∨m=e) (hs:s≤m) (he:m≤e):Rot d s m e d:=by
 refine ⟨rfl,fun p h1 h2=> ?_,fun p h1 h2=> ?_,fun _ _=>rfl⟩
 ·rcases h with rfl|rfl
  ·rw [show p+(s-s)=p by omega]
  ·omega
 ·rcases h with rfl|rfl
  ·omega
  ·rw [show p-(m-m)=p by omega]
theorem Rot.perm {d d':Array α} {s m e:Nat} (h:Rot d s m e d') (hs:s≤m) (he:m≤e) (hb:e≤d.size):PermIn s e d d':=by
 refine ⟨h.size,h.out,?_⟩
 rw [extract_toList d' s e (by rw [h.size]; exact hb),extract_toList d s e hb]
 have e1:(List.range' s (e-s)).map (fun i=>d'[i]!)=(List.range' m (e-m)).map (fun i=>d[i]!)++(List.range' s (m-s)).map (fun i=>d[i]!):=by
  apply List.ext_getElem
  ·simp; omega
  ·intro k h1 h2
   have hk:k<e-s:=by simpa using h1
   rw [List.getElem_append]
   simp only [List.getElem_map,List.getElem_range',Nat.one_mul,List.length_map,List.length_range']
   by_cases hc:k<e-m
   ·rw [dif_pos hc,h.lo (s+k) zD zD,show s+k+(m-s)=m+k by omega]
   ·rw [dif_neg hc,h.hi (s+k) zD zD,show s+k-(e-m)=s+(k-(e-m)) by omega]
 have e2:List.range' s (e-s)=List.range' s (m-s)++List.range' m (e-m):=by
  have:=List.range'_append_1 (s:=s) (m:=m-s) (n:=e-m)
  rw [show s+(m-s)=m by omega,show m-s+(e-m)=e-s by omega] at this
  exact this.symm
 rw [e1,e2,List.map_append]
 exact List.perm_append_comm
theorem SwR.rot {d d':Array α} {m i:Nat} (h:SwR d (m-i) m i d') (hi:i≤m):Rot d (m-i) m (m+i) d':=by
 refine ⟨h.size,fun p h1 h2=> ?_,fun p h1 h2=> ?_,fun p hp=>h.out p zD zD⟩
 ·rw [h.lo p h1 zD,show p-(m-i)+m=p+(m-(m-i)) by omega]
 ·rw [h.hi p zD zD,show p-m+(m-i)=p-(m+i-m) by omega]
theorem SwR.step_i {d d' D:Array α} {m i j:Nat} (h:SwR d (m-i) m j d') (hi:i≤m) (hj:j<i) (hR:Rot d' (m-(i-j)) m (m+j) D):Rot d (m-i) m (m+j) D:=by
 refine ⟨hR.size.trans h.size,fun p h1 h2=> ?_,fun p h1 h2=> ?_,fun p hp=> ?_⟩
 ·rw [hR.out p zD,h.lo p h1 zD,show p-(m-i)+m=p+(m-(m-i)) by omega]
 ·by_cases hc:p<m-(i-j)+(m+j-m)
  ·rw [hR.lo p zD hc,h.hi (p+(m-(m-(i-j)))) zD zD]; congr 1; omega
  ·rw [hR.hi p zD h2,h.out (p-(m+j-m)) zD zD]
 ·rw [hR.out p zD,h.out p zD zD]
theorem SwR.step_j {d d' D:Array α} {m i j:Nat} (h:SwR d (m-i) (m+j-i) i d') (hi:i≤m) (hj:i<j) (hR:Rot d' (m-i) m (m+(j-i)) D):Rot d (m-i) m (m+j) D:=by
 refine ⟨hR.size.trans h.size,fun p h1 h2=> ?_,fun p h1 h2=> ?_,fun p hp=> ?_⟩
 ·by_cases hc:p<m-i+(m+(j-i)-m)
  ·rw [hR.lo p h1 hc,h.out (p+(m-(m-i))) zD zD]
  ·rw [hR.hi p zD zD,h.lo (p-(m+(j-i)-m)) zD zD]; congr 1; omega
 ·rw [hR.out p zD,h.hi p zD zD]; congr 1; omega
 ·rw [hR.out p zD,h.out p zD zD]
theorem SwR.zero {d:Array α} {a b:Nat} :SwR d a b 0 d:=⟨rfl,fun p h1 h2=>by omega,fun p h1 h2=>by omega,fun _ _ _=>rfl⟩
theorem SwR.succ {d d':Array α} {a b n:Nat} (h:SwR d a b n d') (hab:a+n<b) (hb:b+n<d.size):SwR d a b (n+1) (swp d' (a+n) (b+n)):=by
 have g:=fun k=>swp_get d' (i:=a+n) (j:=b+n) (by rw [h.size]; omega) (by rw [h.size]; omega) k
 refine ⟨by rw [swp_size]; exact h.size,fun p h1 h2=> ?_,fun p h1 h2=> ?_,fun p h1 h2=> ?_⟩
 ·rw [g,if_neg zD]
  by_cases hp:p=a+n
  ·rw [if_pos hp,h.out (b+n) zD zD]; congr 1; omega
  ·rw [if_neg hp,h.lo p h1 zD]
 ·rw [g]
  by_cases hp:p=b+n
  ·rw [if_pos hp,h.out (a+n) zD zD]; congr 1; omega
  ·rw [if_neg hp,if_neg zD,h.hi p h1 zD]
 ·rw [g,if_neg zD,if_neg zD,h.out p zD zD]
theorem Rot.up {d d':Array α} {a k:Nat} (h:Rot d a (a+1) (k+1) d') (hk:a≤k) (hb:k+1<d.size):Rot d a (a+1) (k+2) (swp d' k (k+1)):=by
 have g:=fun p=>swp_get d' (i:=k) (j:=k+1) (by rw [h.size]; omega) (by rw [h.size]; omega) p
 refine ⟨by rw [swp_size]; exact h.size,fun p h1 h2=> ?_,fun p h1 h2=> ?_,fun p hp=> ?_⟩
 ·rw [g,if_neg zD]
  by_cases hp:p=k
  ·rw [if_pos hp,h.out (k+1) zD]; congr 1; omega
  ·rw [if_neg hp,h.lo p h1 zD]
 ·have hp:p=k+1:=by omega
  rw [g,if_pos hp,h.hi k zD zD]; congr 1; omega
 ·rw [g,if_neg zD,if_neg zD,h.out p zD]
theorem Rot.down {d d':Array α} {m k:Nat} (h:Rot d (k+1) m (m+1) d') (hk:k+1≤m) (hb:m<d.size):Rot d k m (m+1) (swp d' (k+1) k):=by
 have g:=fun p=>swp_get d' (i:=k+1) (j:=k) (by rw [h.size]; omega) (by rw [h.size]; omega) p
 refine ⟨by rw [swp_size]; exact h.size,fun p h1 h2=> ?_,fun p h1 h2=> ?_,fun p hp=> ?_⟩
 ·have hp:p=k:=by omega
  rw [g,if_pos hp,h.lo (k+1) zD zD]; congr 1; omega
 ·rw [g,if_neg zD]
  by_cases hp:p=k+1
  ·rw [if_pos hp,h.out k zD]; congr 1; omega
  ·rw [if_neg hp,h.hi p zD h2]
 ·rw [g,if_neg zD,if_neg zD,h.out p zD]
theorem Dh {x y:α} (hi:idx x<idx y):ltk key y x=true↔R key idx y x:=by rw [Fi]; unfold R; omega
theorem DC {x y:α} (hi:idx x<idx y):ltk key y x=false↔R key idx x y:=by rw [Es]; unfold R; omega
theorem Rot.from_lo {d d':Array α} {s m e:Nat} (h:Rot d s m e d') (hs:s≤m) (he:m≤e) {a p:Nat} (hp:a≤p) (hp2:p<s+(e-m)):
  (p<s∧d'[p]! =d[p]!)∨(s≤p∧m≤p+(m-s)∧p+(m-s)<e∧d'[p]! =d[p+(m-s)]!):=by
 by_cases hc:p<s
 ·exact .inl ⟨hc,h.out p (.inl hc)⟩
 ·exact .inr ⟨by omega,by omega,by omega,h.lo p zD hp2⟩
theorem Rot.from_hi {d d':Array α} {s m e:Nat} (h:Rot d s m e d') (hs:s≤m) (he:m≤e) {p:Nat} (hp:s+(e-m)≤p):
  (p<e∧s≤p-(e-m)∧p-(e-m)<m∧d'[p]! =d[p-(e-m)]!)∨(e≤p∧d'[p]! =d[p]!):=by
 by_cases hc:p<e
 ·exact .inl ⟨hc,by omega,by omega,h.hi p hp hc⟩
 ·exact .inr ⟨by omega,h.out p (.inr zD)⟩
structure Cut (key:α→Int) (idx:α→Nat) (a m b s e:Nat) (d:Array α):Prop where
 ls:a≤s
 sm:s≤m
 me:m≤e
 eb:e≤b
 c1:∀p q,m≤p→p<e→s≤q→q<m→R key idx d[p]! d[q]!
 c2:∀p q,a≤p→p<s→e≤q→q<b→R key idx d[p]! d[q]!
theorem Cut.parts {a m b s e:Nat} {d d':Array α} (hP:Pre key idx a m b d) (hC:Cut key idx a m b s e d) (hR:Rot d s m e d'):
  Pre key idx a s (s+(e-m)) d'∧Pre key idx (s+(e-m)) e b d'∧(∀p q,a≤p→p<s+(e-m)→s+(e-m)≤q→q<b→R key idx d'[p]! d'[q]!):=by
 obtain ⟨ls,sm,me,eb,c1,c2⟩:=hC
 obtain ⟨pl,pr,pc⟩:=hP
 refine ⟨⟨fun p q h1 h2 h3=> ?_,fun p q h1 h2 h3=> ?_,fun p q h1 h2 h3 h4=> ?_⟩,⟨fun p q h1 h2 h3=> ?_,fun p q h1 h2 h3=> ?_,fun p q h1 h2 h3 h4=> ?_⟩,fun p q h1 h2 h3 h4=> ?_⟩
 ·rw [hR.out p zD,hR.out q zD]; exact pl p q h1 h2 zD
 ·rw [hR.lo p h1 zD,hR.lo q zD h3]; exact pr _ _ zD zD zD
 ·rw [hR.out p zD,hR.lo q h3 h4]; exact pc _ _ h1 zD zD zD
 ·rw [hR.hi p h1 zD,hR.hi q zD h3]; exact pl _ _ zD zD zD
 ·rw [hR.out p zD,hR.out q zD]; exact pr p q zD h2 h3
 ·rw [hR.hi p h1 h2,hR.out q zD]; exact pc _ _ zD zD zD h4
 ·rcases hR.from_lo sm me h1 h2 with ⟨hp,ep⟩|⟨hp1,hp2,hp3,ep⟩<;>rcases hR.from_hi sm me h3 with ⟨hq1,hq2,hq3,eq⟩|⟨hq,eq⟩<;>rw [ep,eq]
  ·exact pl _ _ h1 zD hq3
  ·exact c2 _ _ h1 hp hq h4
  ·exact c1 _ _ hp2 hp3 hq2 hq3
  ·exact pr _ _ hp2 zD h4
theorem Eg {a c b:Nat} {d1 d2 d3:Array α} (ac:a≤c) (cb:c≤b) (hb:b≤d1.size) (hx:∀p q,a≤p→p<c→c≤q→q<b→R key idx d1[p]! d1[q]!) (h2:Post key idx a c d1 d2) (h3:Post key idx c b d2 d3):Post key idx a b d1 d3:=by
  have P2:=permIn_mono d1 d2 a c a b (Nat.le_refl _) cb hb h2.1
  have s2:d2.size=d1.size:=h2.1.1
  have P3:=permIn_mono d2 d3 c b a b ac (Nat.le_refl _) (by rw [s2]; exact hb) h3.1
  refine ⟨permIn_trans _ _ _ _ _ P2 P3,fun p q h1 hpq hq=> ?_⟩
  by_cases hqc:q<c
  · rw [h3.1.2.1 p zD,h3.1.2.1 q zD]; exact h2.2 p q h1 hpq hqc
  · by_cases hpc:p<c
    · rw [h3.1.2.1 p zD]
      refine permIn_all d2 d3 c b (fun y=>R key idx d2[p]! y) (by rw [s2]; exact hb) h3.1 (fun k hk1 hk2=> ?_) q zD hq
      rw [h2.1.2.1 k zD]
      exact permIn_all d1 d2 a c (fun x=>R key idx x d1[k]!) zD h2.1 (fun l hl1 hl2=>hx l k hl1 hl2 hk1 hk2) p h1 hpc
    · exact h3.2 p q zD hpq hq
theorem Cut.one {a m b s e:Nat} {d d':Array α} (hb:b≤d.size) (hP:Pre key idx a m b d) (hC:Cut key idx a m b s e d) (hR:Rot d s m e d')
    (c3:∀p q,s≤p→p<m→e≤q→q<b→R key idx d[p]! d[q]!) (c4:∀p q,a≤p→p<s→m≤q→q<e→R key idx d[p]! d[q]!):Post key idx a b d d':=by
  have hp:=hR.perm hC.sm hC.me (by have:=hC.eb; omega)
  obtain ⟨g1,g2,g3⟩:=hC.parts hP hR
  obtain ⟨ls,sm,me,eb,c1,c2⟩:=hC
  refine ⟨permIn_mono _ _ _ _ _ _ ls eb hb hp,fun p q h1 h2 h3=> ?_⟩
  by_cases hq:q<s+(e-m)
  · by_cases hp:s≤p
    · exact g1.r p q hp h2 hq
    · by_cases hqs:q<s
      · exact g1.l p q h1 h2 hqs
      · rw [hR.out p zD,hR.lo q zD hq]; exact c4 _ _ h1 zD zD zD
  · by_cases hp:p<s+(e-m)
    · exact g3 p q h1 hp zD h3
    · by_cases hqe:q<e
      · exact g2.l p q zD h2 hqe
      · by_cases hpe:e≤p
        · exact g2.r p q hpe h2 h3
        · rw [hR.hi p zD zD,hR.out q zD]; exact c3 _ _ zD zD zD h3
theorem Cut.found {a m b c:Nat} {d:Array α} {n s0 r0:Nat} (hP:Pre key idx a m b d) (am:a<m) (mb:m<b) (hn:n=(a+b)/2+m) (hs0:s0=if m>(a+b)/2 then n-b else a) (hr0:r0=if m>(a+b)/2 then (a+b)/2 else m)
  (h1:s0≤c) (h2:c≤r0) (hl:c=s0∨R key idx d[c-1]! d[n-1-(c-1)]!) (hr:c=r0∨R key idx d[n-1-c]! d[c]!):Cut key idx a m b c (n-c) d:=by
 have hs:a≤s0∧n-b≤s0∧(s0=a∨s0+b=n):=by subst hs0; split<;>omega
 have hrr:r0≤m∧r0+m≤n∧(r0=m∨r0+m=n):=by subst hr0; split<;>omega
 refine ⟨by omega,by omega,by omega,by omega,fun p q p1 p2 q1 q2=> ?_,fun p q p1 p2 q1 q2=> ?_⟩
 ·rcases hr with hr|hr
  ·omega
  ·have e1:R key idx d[p]! d[n-1-c]! ∨p=n-1-c:=by
    by_cases h:p=n-1-c
    ·exact .inr h
    ·exact .inl (hP.r p _ p1 zD zD)
   have e2:R key idx d[c]! d[q]! ∨q=c:=by
    by_cases h:q=c
    ·exact .inr h
    ·exact .inl (hP.l c q zD zD q2)
   rcases e1 with e1|rfl<;>rcases e2 with e2|rfl
   ·exact (e1.trans hr).trans e2
   ·exact e1.trans hr
   ·exact hr.trans e2
   ·exact hr
 ·rcases hl with hl|hl
  ·omega
  ·have e1:R key idx d[p]! d[c-1]! ∨p=c-1:=by
    by_cases h:p=c-1
    ·exact .inr h
    ·exact .inl (hP.l p _ p1 zD zD)
   have e2:R key idx d[n-1-(c-1)]! d[q]! ∨q=n-1-(c-1):=by
    by_cases h:q=n-1-(c-1)
    ·exact .inr h
    ·exact .inl (hP.r _ q zD zD q2)
   rcases e1 with e1|rfl<;>rcases e2 with e2|rfl
   ·exact (e1.trans hl).trans e2
   ·exact e1.trans hl
   ·exact hl.trans e2
   ·exact hl
def Stab (key:α→Int) (idx:α→Nat) (a b:Nat) (d:Array α):Prop:=∀p q,a≤p→p<q→q<b→key d[p]! =key d[q]! →idx d[p]! <idx d[q]!
theorem Stab.swp {a b j:Nat} {d:Array α} (h:Stab key idx a b d) (haj:a≤j) (hjb:j+1<b) (hb:b≤d.size) (hl:key d[j+1]! <key d[j]!):Stab key idx a b (swp d (j+1) j):=by
  have g:=fun p=>swp_get d (i:=j+1) (j:=j) zD zD p
  intro p q h1 h2 h3
  rw [g,g]
  by_cases p1:p=j
  · subst p1
    by_cases q1:q=p+1
    · subst q1; rw [if_pos rfl,if_neg zD,if_pos rfl]; omega
    · rw [if_pos rfl,if_neg zD,if_neg q1]; exact h (p+1) q zD zD h3
  · by_cases p2:p=j+1
    · subst p2; rw [if_neg zD,if_pos rfl,if_neg zD,if_neg zD]; exact h j q haj zD h3
    · rw [if_neg p1,if_neg p2]
      by_cases q1:q=j
      · subst q1; rw [if_pos rfl]; exact h p (q+1) h1 zD hjb
      · by_cases q2:q=j+1
        · subst q2; rw [if_neg q1,if_pos rfl]; exact h p j h1 zD zD
        · rw [if_neg q1,if_neg q2]; exact h p q h1 h2 h3
theorem swo_cfk:SWO (ltk (α:=α) key) where
 irrefl x:=Es.mpr zD
 trans x y z h1 h2:=by rw [Fi] at*; omega
 ntrans x y z h1 h2:=by rw [Es] at*; omega
end Go.Proofs.StSort
namespace Go.Proofs.StSort
set_option maxRecDepth 100000
open Go.Sort
variable {α:Type} [Inhabited α] {key:α→Int} {idx:α→Nat}
structure InsO (key:α→Int) (idx:α→Nat) (a b i:Nat) (d dk:Array α):Prop where
 p:PermIn a b d dk
 s:Stab key idx a b dk
 o:SortedIn (ltk key) a i dk
structure InsI (key:α→Int) (idx:α→Nat) (a b j i:Nat) (d dk:Array α):Prop where
 p:PermIn a b d dk
 s:Stab key idx a b dk
 o:Ins (ltk key) a j i dk
theorem InsO.start {a b:Nat} {d:Array α} (h:Stab key idx a b d):InsO key idx a b (a+1) d d:=⟨permIn_refl _ _ _,h,fun p q h1 h2 h3=>by omega⟩
theorem InsO.post {a b i:Nat} {d dk:Array α} (h:InsO key idx a b i d dk) (hi:b≤i):Post key idx a b d dk:=by
 refine ⟨h.p,fun p q p1 p2 p3=> ?_⟩
 have e1:=h.o p q p1 p2 zD
 have e2:=h.s p q p1 p2 p3
 rw [Es] at e1
 unfold R; omega
theorem InsO.enter {a b i:Nat} {d dk:Array α} (h:InsO key idx a b i d dk):InsI key idx a b i i d dk:=
 ⟨h.p,h.s,fun p q hap hpq hqi hp hq=>h.o p q hap hpq zD,fun q h1 h2=>by omega⟩
theorem InsI.stop {a b j i:Nat} {d dk:Array α} (h:InsI key idx a b j i d dk) (hs:j≤a∨ltk key dk[j]! dk[j-1]! =false):InsO key idx a b (i+1) d dk:=
 ⟨h.p,h.s,h.o.stop swo_cfk hs⟩
theorem InsI.step {a b j i:Nat} {d dk:Array α} (h:InsI key idx a b (j+1) i d dk) (haj:a≤j) (hjb:j+1<b) (hb:b≤dk.size) (hl:ltk key dk[j+1]! dk[j]! =true):InsI key idx a b j i d (swp dk (j+1) j):=
 ⟨permIn_trans _ _ _ _ _ h.p (swp_permIn dk a b (j+1) j zD hjb haj zD hb),h.s.swp haj hjb hb (Fi.mp hl),h.o.step hl haj zD⟩
end Go.Proofs.StSort
end
section
namespace Go.Proofs.StSort
set_option maxRecDepth 100000
open Go.Shelf Go.RowKit Go.Lib Go.Sort
variable {α:Type} [Inhabited α]
set_option maxHeartbeats 4000000 in
theorem Ck (enc:α→Value) (fv:Value) (blk off cap N a b n:Nat) (d0 d:Array α) (w0 w:World)
  (R1:Row1 enc w0 blk off d0) (h0:d0.size=N) (hN:d.size=N) (S:SW enc w0 blk off d w) (hab:a+n≤b) (hb:b+n≤N) (hsz:N<4611686018427387904):
  Calls Try.prog 73 #[.slice (some ⟨blk,off,none⟩) N cap,.int .i64 a,.int .i64 b,.int .i64 n,fv] w fun e w'=>e= .returned (.tuple #[])∧∃d',SwR d a b n d'∧d'.size=N∧SW enc w0 blk off d' w':=by
 have hcl0:=R1.hO.cells
 simp only [Value.cells] at hcl0
 have hst:=R1.hO.store Try.prog
 have mixed:Try.prog.follows .mixedOrders=true:=by kernel_rfl
 have hu26:=Try.underlying26
 have a3:=Try.isAgg3
 have z3:=Try.sizeOf3
 have S0:Aside (SW enc w0 blk off d w):=S
 clear S
 go_enter Try.func73,Try.ntmps73
 go_wp2
 go_loopg [10] n (fun kx s10 wr=>∃(i:Nat) (dk:Array α),s10= .int .i64 i∧i≤n∧n-i≤kx∧Aside (SwR d a b i dk)∧dk.size=N∧Aside (SW enc w0 blk off dk wr))
 case atStart=>exact ⟨0,d,rfl,by omega,by omega,SwR.zero,hN,S0⟩
 case round=>
  clear S0
  obtain ⟨i,dk,rfl,hin,hkx,HR,hds,S1⟩:=hrel
  by_cases hlt:i<n
  ·have hltz:(i:Int)<(n:Int):=by omega
   go_wp2_with fail
   obtain ⟨iN,hiN⟩:∃q,q=a+i:=⟨_,rfl⟩
   obtain ⟨jN,hjN⟩:∃q,q=b+i:=⟨_,rfl⟩
   have ea:((a:Int)+(i:Int)).toNat=iN:=by omega
   have pa:(0:Int)≤(a:Int)+(i:Int):=by omega
   have ba:(a:Int)+(i:Int)<(N:Int):=by omega
   have ra:IntKind.i64.wrap ((a:Int)+(i:Int))=(a:Int)+(i:Int):=by rw [IntKind.wrap_i64]; omega
   have ec:((b:Int)+(i:Int)).toNat=jN:=by omega
   have pc:(0:Int)≤(b:Int)+(i:Int):=by omega
   have bc:(b:Int)+(i:Int)<(N:Int):=by omega
   have rc:IntKind.i64.wrap ((b:Int)+(i:Int))=(b:Int)+(i:Int):=by rw [IntKind.wrap_i64]; omega
   obtain ⟨x,hx⟩:∃x,x=dk[a+i]! :=⟨_,rfl⟩
   obtain ⟨y,hy⟩:∃x,x=dk[b+i]! :=⟨_,rfl⟩
   have S2:Aside (SW enc w0 blk off (swp dk (a+i) (b+i)) ((wr.setCell ⟨blk,off+iN,none⟩ (enc y)).setCell ⟨blk,off+jN,none⟩ (enc x)).drew):=by rw [hiN,hjN,hx,hy]; exact S1.out.swapped R1 (a+i) (b+i) zD zD
   have ca:=S1.out.c1 R1 zD (a+i) zD
   have cb:=S1.out.c1 R1 zD (b+i) zD
   have fa:=S1.out.f1 R1 zD (a+i) zD
   have fb:=S1.out.f1 R1 zD (b+i) zD
   obtain ⟨u,cc⟩:=S1.out.c2 R1 zD (a+i) (b+i) zD zD (enc y)
   rw [←hjN,←hiN] at cc
   rw [←hx,←hiN] at ca
   rw [←hy,←hjN] at cb
   rw [←hiN] at fa
   rw [←hjN] at fb
   clear S1 hx hy hiN hjN
   go_wp2_with fail
   go_big_region_o
   clear ca cb cc fa fb
   generalize ((wr.setCell ⟨blk,off+iN,none⟩ (enc y)).setCell ⟨blk,off+jN,none⟩ (enc x)).drew=w2 at S2 ⊢
   clear ea ec
   go_wp2
   go_roundg (n-(i+1))
   case measure=>omega
   case rel=>exact ⟨i+1,swp dk (a+i) (b+i),by go_num,by omega,by omega,HR.out.succ zD zD,by rw [size_swp]; exact hds,S2⟩
  ·go_wp2
   go_end0
   obtain rfl:i=n:=by omega
   exact ⟨rfl,dk,HR.out,hds,S1.out⟩
set_option maxHeartbeats 4000000 in
theorem rotate (enc:α→Value) (fv:Value) (blk off cap N a m b:Nat) (d0 d:Array α) (w0 w:World)
  (R1:Row1 enc w0 blk off d0) (h0:d0.size=N) (hN:d.size=N) (S:SW enc w0 blk off d w) (ham:a<m) (hmb:m<b) (hb:b≤N) (hsz:N<4611686018427387904):
  Calls Try.prog 72 #[.slice (some ⟨blk,off,none⟩) N cap,.int .i64 a,.int .i64 m,.int .i64 b,fv] w fun e w'=>e= .returned (.tuple #[])∧∃d',Rot d a m b d'∧d'.size=N∧SW enc w0 blk off d' w':=by
 have mixed:Try.prog.follows .mixedOrders=true:=by kernel_rfl
 have hu26:=Try.underlying26
 have S0:Aside (SW enc w0 blk off d w):=S
 have HR1:Aside (Row1 enc w0 blk off d0):=R1
 clear S R1
 go_enter Try.func72,Try.ntmps72
 go_wp2
 go_loopg [10,11] (m-a+(b-m)) (fun kx s10 s11 wr=>∃(i j:Nat) (dk:Array α),s10= .int .i64 i∧s11= .int .i64 j∧Aside (0<i∧i≤m∧0<j∧m+j≤b)∧i+j≤kx∧Aside (∀D,Rot dk (m-i) m (m+j) D→Rot d a m b D)∧dk.size=N∧Aside (SW enc w0 blk off dk wr))
 case atStart=>exact ⟨m-a,b-m,d,by rw [show ((m-a:Nat):Int)=(m:Int)-a by omega],by rw [show ((b-m:Nat):Int)=(b:Int)-m by omega],⟨by omega,by omega,by omega,by omega⟩,by omega,(by rw [show m-(m-a)=a by omega,show m+(b-m)=b by omega]; exact fun D h=>h),hN,S0⟩
 case round=>
  clear S0
  obtain ⟨i,j,dk,rfl,rfl,HB,hkx,HR,hds,S1⟩:=hrel
  have hB:=HB.out
  by_cases hij:i=j
  ·subst hij
   have hcall:=Ck enc fv blk off cap N (m-i) m i d0 dk w0 wr HR1.out h0 hds S1.out zD zD hsz
   rw [show ((m-i:Nat):Int)=(m:Int)-i by omega] at hcall
   clear S1 HB
   go_wp2_with (go_at_call 73; refine hcall.mono ?_; rintro e w1 ⟨rfl,dk',hsw,hds',S3⟩)
   go_end0
   exact ⟨rfl,dk',HR.out _ (hsw.rot hB.2.1),hds',S3⟩
  ·have hijz:¬(i:Int)=(j:Int):=by omega
   by_cases hgt:j<i
   ·have hgtz:(j:Int)<(i:Int):=by omega
    have hcall:=Ck enc fv blk off cap N (m-i) m j d0 dk w0 wr HR1.out h0 hds S1.out zD zD hsz
    rw [show ((m-i:Nat):Int)=(m:Int)-i by omega] at hcall
    clear S1 HB
    go_wp2_with (go_at_call 73; refine hcall.mono ?_; rintro e w1 ⟨rfl,dk',hsw,hds',S3⟩)
    go_roundg (i-j+j)
    case measure=>omega
    case rel=>exact ⟨i-j,j,dk',by rw [show ((i-j:Nat):Int)=(i:Int)-j by omega],rfl,⟨by omega,by omega,by omega,by omega⟩,by omega,(fun D hD=>HR.out D (hsw.step_i hB.2.1 hgt hD)),hds',S3⟩
   ·have hgtz:¬(j:Int)<(i:Int):=by omega
    have hcall:=Ck enc fv blk off cap N (m-i) (m+j-i) i d0 dk w0 wr HR1.out h0 hds S1.out zD zD hsz
    rw [show ((m-i:Nat):Int)=(m:Int)-i by omega,show ((m+j-i:Nat):Int)=(m:Int)+j-i by omega] at hcall
    clear S1 HB
    go_wp2_with (go_at_call 73; refine hcall.mono ?_; rintro e w1 ⟨rfl,dk',hsw,hds',S3⟩)
    go_roundg (i+(j-i))
    case measure=>omega
    case rel=>exact ⟨i,j-i,dk',rfl,by rw [show ((j-i:Nat):Int)=(j:Int)-i by omega],⟨by omega,by omega,by omega,by omega⟩,by omega,(fun D hD=>HR.out D (hsw.step_j hB.2.1 zD hD)),hds',S3⟩
end Go.Proofs.StSort
end
section
namespace Go.Proofs.StSort
set_option maxRecDepth 100000
open Go.Shelf Go.RowKit Go.Lib Go.Sort
variable {α:Type} [Inhabited α]
set_option maxHeartbeats 16000000 in
theorem insertion (enc:α→Value) (key:α→Int) (idx:α→Nat) (g:Nat) (cb:Array Value) (blk off cap N a b:Nat) (d0 d:Array α) (w0 w:World)
  (eg:∀args w,(callFunc g args).run Try.prog w= .ok (.enter g args) w) (hcmp:CmpLays1 Try.prog g cb enc (cfk key) blk off N w0)
  (R1:Row1 enc w0 blk off d0) (h0:d0.size=N) (hN:d.size=N) (S:SW enc w0 blk off d w) (hab:a≤b) (hb:b≤N) (hsz:N<4611686018427387904) (hS:Stab key idx a b d):
  Calls Try.prog 64 #[.slice (some ⟨blk,off,none⟩) N cap,.int .i64 a,.int .i64 b,.func (.func g) #[] cb] w fun e w'=>e= .returned (.tuple #[])∧∃d',Post key idx a b d d'∧d'.size=N∧SW enc w0 blk off d' w':=by
 have hcl0:=R1.hO.cells
 simp only [Value.cells] at hcl0
 have hst:=R1.hO.store Try.prog
 have mixed:Try.prog.follows .mixedOrders=true:=by kernel_rfl
 have hu26:=Try.underlying26
 have a3:=Try.isAgg3
 have z3:=Try.sizeOf3
 have HC:Aside _:=hcmp
 have S0:Aside (SW enc w0 blk off d w):=S
 have HI0:Aside _:=InsO.start hS
 clear S hcmp hS
 go_enter Try.func64,Try.ntmps64
 go_wp2
 go_loopg [8] (b-a) (fun kx s8 wr=>∃(i:Nat) (dk:Array α),s8= .int .i64 i∧a<i∧b+1-i≤kx+1∧i≤b+1∧dk.size=N∧Aside (SW enc w0 blk off dk wr)∧Aside (InsO key idx a b i d dk))
 case atStart=>exact ⟨a+1,d,by go_num,by omega,by omega,by omega,hN,S0,HI0⟩
 case round=>
  clear S0 HI0
  obtain ⟨i,dk,rfl,hai,hkx,hib,hds,S1,HO⟩:=hrel
  by_cases hlt:i<b
  ·have hltz:(i:Int)<(b:Int):=by omega
   go_wp2
   go_loopg [9] i (fun kj s9 wr2=>∃(j:Nat) (dj:Array α),s9= .int .i64 j∧a≤j∧j≤i∧j≤kj∧dj.size=N∧Aside (SW enc w0 blk off dj wr2)∧Aside (InsI key idx a b j i d dj))
   case atStart=>exact ⟨i,dk,rfl,by omega,Nat.le_refl _,Nat.le_refl _,hds,S1,HO.out.enter⟩
   case round=>
    clear S1 HO
    obtain ⟨j,dj,rfl,haj,hji,hkj,hdj,S1,HI⟩:=hrel
    by_cases hja:a<j
    ·obtain ⟨jp,rfl⟩:∃q,j=q+1:=⟨j-1,by omega⟩
     have zjp:((jp+1:Nat):Int)=(jp:Int)+1:=by omega
     rw [zjp]
     have hjad:decide ((jp:Int)+1>(a:Int))=true:=decide_eq_true zD
     have hjaz':(a:Int)<(jp:Int)+1:=by omega
     obtain ⟨x,hx⟩:∃x,x=dj[jp+1]! :=⟨_,rfl⟩
     obtain ⟨y,hy⟩:∃x,x=dj[jp]! :=⟨_,rfl⟩
     obtain ⟨iN,hiN⟩:∃q,q=jp+1:=⟨_,rfl⟩
     obtain ⟨jN,hjN⟩:∃q,q=jp:=⟨_,rfl⟩
     have ea:((jp:Int)+1).toNat=iN:=by omega
     have pa:(0:Int)≤(jp:Int)+1:=by omega
     have ba:(jp:Int)+1<(N:Int):=by omega
     have ra:IntKind.i64.wrap ((jp:Int)+1)=(jp:Int)+1:=by rw [IntKind.wrap_i64]; omega
     have ec:((jp:Int)).toNat=jN:=by omega
     have pc:(0:Int)≤(jp:Int):=by omega
     have bc:(jp:Int)<(N:Int):=by omega
     have rc:IntKind.i64.wrap ((jp:Int))=(jp:Int):=by rw [IntKind.wrap_i64]; omega
     have la:=S1.out.cl R1 zD (jp+1) zD
     have lb:=S1.out.cl R1 zD jp zD
     rw [←hx,←hiN] at la
     rw [←hy,←hjN] at lb
     have hc:=S1.out.cmp HC.out zD x y
     cases hlv:ltk key x y with
     | true=>
      have hv:cfk key x y<0:=of_decide_eq_true hlv
      have hd:decide (cfk key x y<0)=true:=hlv
      have HX:Aside (InsI key idx a b jp i d (swp dj (jp+1) jp)):=HI.out.step zD zD zD (by rw [←hx,←hy]; exact hlv)
      have HS:Aside _:=S1.out.grown
      clear hlv S1 HI hx hy hiN hjN
      go_wp2_with fail
      go_quiet_grown (first|(go_at_fn g; refine Calls.grown_of (hc _ _)))
      have S2:Aside (SW enc w0 blk off dj (grow (wr.drewN nq) osq)):=HS.out nq osq
      clear la lb hc HS
      generalize grow (wr.drewN nq) osq=w2 at S2 ⊢
      clear nq osq
      clear ea ec hd hv
      go_wp2_with fail
      obtain ⟨x2,hx2⟩:∃q,q=dj[jp+1]! :=⟨_,rfl⟩
      obtain ⟨y2,hy2⟩:∃q,q=dj[jp]! :=⟨_,rfl⟩
      obtain ⟨iN2,hiN2⟩:∃q,q=jp+1:=⟨_,rfl⟩
      obtain ⟨jN2,hjN2⟩:∃q,q=jp:=⟨_,rfl⟩
      have ea:((jp:Int)+1).toNat=iN2:=by omega
      have ec:((jp:Int)).toNat=jN2:=by omega
      have S3:Aside (SW enc w0 blk off (swp dj (jp+1) jp) ((w2.setCell ⟨blk,off+iN2,none⟩ (enc y2)).setCell ⟨blk,off+jN2,none⟩ (enc x2)).drew):=by rw [hiN2,hjN2,hx2,hy2]; exact S2.out.swapped R1 (jp+1) jp zD zD
      have ca:=S2.out.c1 R1 zD (jp+1) zD
      have cb':=S2.out.c1 R1 zD jp zD
      have fa:=S2.out.f1 R1 zD (jp+1) zD
      have fb:=S2.out.f1 R1 zD jp zD
      obtain ⟨u,cc⟩:=S2.out.c2 R1 zD (jp+1) jp zD zD (enc y2)
      rw [←hiN2,←hjN2] at cc
      rw [←hx2,←hiN2] at ca
      rw [←hy2,←hjN2] at cb'
      rw [←hiN2] at fa
      rw [←hjN2] at fb
      clear S2 hx2 hy2 hiN2 hjN2
      go_wp2_with fail
      go_big_region_o
      clear ca cb' cc fa fb
      generalize ((w2.setCell ⟨blk,off+iN2,none⟩ (enc y2)).setCell ⟨blk,off+jN2,none⟩ (enc x2)).drew=w3 at S3 ⊢
      clear ea ec
      go_wp2
      go_roundg jp
      case measure=>omega
      case rel=>exact ⟨jp,swp dj (jp+1) jp,by first|rfl|go_num|(congr 1; omega),by omega,by omega,Nat.le_refl _,by rw [size_swp]; exact hdj,S3,HX⟩
     | false=>
      have hv:¬cfk key x y<0:=of_decide_eq_false hlv
      have hd:decide (cfk key x y<0)=false:=hlv
      have HX:Aside (InsO key idx a b (i+1) d dj):=HI.out.stop (Or.inr (by rw [show jp+1-1=jp from rfl,←hx,←hy]; exact hlv))
      have HS:Aside _:=S1.out.grown
      clear hlv S1 HI hx hy hiN hjN
      go_wp2_with fail
      go_quiet_grown (first|(go_at_fn g; refine Calls.grown_of (hc _ _)))
      have S2:Aside (SW enc w0 blk off dj (grow (wr.drewN nq) osq)):=HS.out nq osq
      clear la lb hc HS
      generalize grow (wr.drewN nq) osq=w2 at S2 ⊢
      clear nq osq
      clear ea ec
      go_wp2
      go_roundg (b-(i+1))
      case measure=>omega
      case rel=>exact ⟨i+1,dj,by go_num,by omega,by omega,by omega,hdj,S2,HX⟩
    ·have hjaz:decide ((j:Int)>(a:Int))=false:=decide_eq_false zD
     have hjaz':¬(a:Int)<(j:Int):=by omega
     go_wp2_with fail
     go_big_region_o
     have S2:Aside (SW enc w0 blk off dj wr.drew):=S1.out.drew
     clear S1
     generalize wr.drew=w2 at S2 ⊢
     go_wp2
     go_roundg (b-(i+1))
     case measure=>omega
     case rel=>exact ⟨i+1,dj,by go_num,by omega,by omega,by omega,hdj,S2,HI.out.stop (Or.inl zD)⟩
  ·have hltz:¬(i:Int)<(b:Int):=by omega
   go_wp2
   go_end0
   exact ⟨rfl,dk,HO.out.post zD,hds,S1.out⟩
end Go.Proofs.StSort
end
section
namespace Go.Proofs.StSort
set_option maxRecDepth 100000
open Go.Shelf Go.RowKit Go.Lib Go.Sort
variable {α:Type} [Inhabited α]
set_option maxHeartbeats 16000000 in
theorem ET (enc:α→Value) (key:α→Int) (idx:α→Nat) (g:Nat) (cb:Array Value) (blk off cap N a m b:Nat) (d0 d:Array α) (w0 w:World)
  (eg:∀args w,(callFunc g args).run Try.prog w= .ok (.enter g args) w) (hcmp:CmpLays1 Try.prog g cb enc (cfk key) blk off N w0)
  (R1:Row1 enc w0 blk off d0) (h0:d0.size=N) (hN:d.size=N) (S:SW enc w0 blk off d w) (ham:m=a+1) (hmb:m<b) (hb:b≤N) (hsz:N<4611686018427387904) (hP:Pre key idx a m b d):
  Calls Try.prog 65 #[.slice (some ⟨blk,off,none⟩) N cap,.int .i64 a,.int .i64 m,.int .i64 b,.func (.func g) #[] cb] w fun e w'=>e= .returned (.tuple #[])∧∃d',Post key idx a b d d'∧d'.size=N∧SW enc w0 blk off d' w':=by
 have hcl0:=R1.hO.cells
 simp only [Value.cells] at hcl0
 have hst:=R1.hO.store Try.prog
 have mixed:Try.prog.follows .mixedOrders=true:=by kernel_rfl
 have hu26:=Try.underlying26
 have a3:=Try.isAgg3
 have z3:=Try.sizeOf3
 have HC:Aside _:=hcmp
 have S0:Aside (SW enc w0 blk off d w):=S
 have HP:Aside _:=hP
 have c1:(m:Int)-(a:Int)=1:=by omega
 have hA:=ham
 have ha1:a<m:=by omega
 have ha2:m≤a+1:=by omega
 have HA:Aside (m=a+1):=ham
 clear S hcmp hP hA ham
 go_enter Try.func65,Try.ntmps65
 go_wp2
 go_loopg [10,11] (b-m) (fun kx s10 s11 wr=>∃(i j:Nat),s10= .int .i64 i∧s11= .int .i64 j∧m≤i∧i≤j∧j≤b∧j-i≤kx∧Aside (∀p,m≤p→p<i→R key idx d[p]! d[a]!)∧Aside (∀p,j≤p→p<b→R key idx d[a]! d[p]!)∧Aside (SW enc w0 blk off d wr))
 case atStart=>exact ⟨m,b,rfl,rfl,by omega,by omega,by omega,by omega,(fun p h1 h2=>by omega),(fun p h1 h2=>by omega),S0⟩
 case round=>
  clear S0
  obtain ⟨i,j,rfl,rfl,hmi,hij,hjb,hkx,H1,H2,S1⟩:=hrel
  by_cases hlt:i<j
  ·have hltz:(i:Int)<(j:Int):=by omega
   obtain ⟨h,hh⟩:∃h:Nat,h=(i+j)/2:=⟨_,rfl⟩
   have eh:((i:Int)+(j:Int))/2=(h:Int):=by omega
   have hh1:i≤h:=by omega
   have hh2:h<j:=by omega
   clear hh
   go_wp2_with fail
   obtain ⟨x,hx⟩:∃x,x=d[h]! :=⟨_,rfl⟩
   obtain ⟨y,hy⟩:∃x,x=d[a]! :=⟨_,rfl⟩
   obtain ⟨iN,hiN⟩:∃q,q=h:=⟨_,rfl⟩
   obtain ⟨jN,hjN⟩:∃q,q=a:=⟨_,rfl⟩
   have ea:((h:Int)).toNat=iN:=by omega
   have pa:(0:Int)≤(h:Int):=by omega
   have ba:(h:Int)<(N:Int):=by omega
   have ra:IntKind.i64.wrap ((h:Int))=(h:Int):=by rw [IntKind.wrap_i64]; omega
   have ec:((a:Int)).toNat=jN:=by omega
   have pc:(0:Int)≤(a:Int):=by omega
   have bc:(a:Int)<(N:Int):=by omega
   have rc:IntKind.i64.wrap ((a:Int))=(a:Int):=by rw [IntKind.wrap_i64]; omega
   have la:=S1.out.cl R1 zD (h) zD
   have lb:=S1.out.cl R1 zD (a) zD
   rw [←hx,←hiN] at la
   rw [←hy,←hjN] at lb
   have hc:=S1.out.cmp HC.out hN x y
   have HS:Aside _:=S1.out.grown
   have HXY:Aside (x=d[h]! ∧y=d[a]!):=⟨hx,hy⟩
   cases hlv:ltk key x y with
   | true=>
    have hv:cfk key x y<0:=of_decide_eq_true hlv
    have hd:decide (cfk key x y<0)=true:=hlv
    have HL:Aside (ltk key x y=true):=hlv
    clear hlv S1 hx hy hiN hjN
    go_wp2_with fail
    go_quiet_grown (first|(go_at_fn g; refine Calls.grown_of (hc _ _)))
    have S2:Aside (SW enc w0 blk off d (grow (wr.drewN nq) osq)):=HS.out nq osq
    clear la lb hc HS
    generalize grow (wr.drewN nq) osq=w2 at S2 ⊢
    clear nq osq ea ec
    go_wp2
    go_roundg (j-(h+1))
    case measure=>omega
    case rel=>exact ⟨h+1,j,by go_num,rfl,by omega,by omega,hjb,by omega,(fun p h1 h2=>by
     have e:R key idx d[h]! d[a]! :=by have:=HL.out; rw [HXY.out.1,HXY.out.2] at this; exact (Dh (HP.out.c a h (Nat.le_refl _) zD zD zD)).mp this
     by_cases hp:p=h
     ·rw [hp]; exact e
     ·exact (HP.out.r p h h1 zD zD).trans e),H2,S2⟩
   | false=>
    have hv:¬cfk key x y<0:=of_decide_eq_false hlv
    have hd:decide (cfk key x y<0)=false:=hlv
    have HL:Aside (ltk key x y=false):=hlv
    clear hlv S1 hx hy hiN hjN
    go_wp2_with fail
    go_quiet_grown (first|(go_at_fn g; refine Calls.grown_of (hc _ _)))
    have S2:Aside (SW enc w0 blk off d (grow (wr.drewN nq) osq)):=HS.out nq osq
    clear la lb hc HS
    generalize grow (wr.drewN nq) osq=w2 at S2 ⊢
    clear nq osq ea ec
    go_wp2
    go_roundg (h-i)
    case measure=>omega
    case rel=>exact ⟨i,h,rfl,rfl,hmi,by omega,by omega,by omega,H1,(fun p h1 h2=>by
     have e:R key idx d[a]! d[h]! :=by have:=HL.out; rw [HXY.out.1,HXY.out.2] at this; exact (DC (HP.out.c a h (Nat.le_refl _) zD zD zD)).mp this
     by_cases hp:p=h
     ·rw [hp]; exact e
     ·exact e.trans (HP.out.r h p zD zD h2)),S2⟩
  ·have hltz:¬(i:Int)<(j:Int):=by omega
   obtain rfl:i=j:=by omega
   go_wp2
   go_loopg [13] (i-a) (fun ky s13 wr=>∃(k:Nat) (dk:Array α),s13= .int .i64 k∧a≤k∧k+1≤i∧i-k≤ky∧Aside (Rot d a (a+1) (k+1) dk)∧dk.size=N∧Aside (SW enc w0 blk off dk wr))
   case atStart=>exact ⟨a,d,rfl,Nat.le_refl _,by omega,Nat.le_refl _,Rot.none (.inr rfl) zD zD,hN,S1⟩
   case round=>
    clear S1
    obtain ⟨k,dk,rfl,hak,hki,hky,HR,hdk,S1⟩:=hrel
    by_cases hlt:k+1<i
    ·have hltz:(k:Int)<(i:Int)-1:=by omega
     obtain ⟨x,hx⟩:∃x,x=dk[k]! :=⟨_,rfl⟩
     obtain ⟨y,hy⟩:∃x,x=dk[k+1]! :=⟨_,rfl⟩
     obtain ⟨iN,hiN⟩:∃q,q=k:=⟨_,rfl⟩
     obtain ⟨jN,hjN⟩:∃q,q=k+1:=⟨_,rfl⟩
     have ea:((k:Int)).toNat=iN:=by omega
     have pa:(0:Int)≤(k:Int):=by omega
     have ba:(k:Int)<(N:Int):=by omega
     have ra:IntKind.i64.wrap ((k:Int))=(k:Int):=by rw [IntKind.wrap_i64]; omega
     have ec:((k:Int)+1).toNat=jN:=by omega
     have pc:(0:Int)≤(k:Int)+1:=by omega
     have bc:(k:Int)+1<(N:Int):=by omega
     have rc:IntKind.i64.wrap ((k:Int)+1)=(k:Int)+1:=by rw [IntKind.wrap_i64]; omega
     have S2:Aside (SW enc w0 blk off (swp dk (k) (k+1)) ((wr.setCell ⟨blk,off+iN,none⟩ (enc y)).setCell ⟨blk,off+jN,none⟩ (enc x)).drew):=by rw [hiN,hjN,hx,hy]; exact S1.out.swapped R1 (k) (k+1) zD zD
     have ca:=S1.out.c1 R1 zD (k) zD
     have cb':=S1.out.c1 R1 zD (k+1) zD
     have fa:=S1.out.f1 R1 zD (k) zD
     have fb:=S1.out.f1 R1 zD (k+1) zD
     obtain ⟨u,cc⟩:=S1.out.c2 R1 zD (k) (k+1) zD zD (enc y)
     simp only [←hjN,←hiN] at cc
     rw [←hx,←hiN] at ca
     rw [←hy,←hjN] at cb'
     rw [←hiN] at fa
     rw [←hjN] at fb
     clear S1 hx hy hiN hjN
     go_wp2_with fail
     go_big_region_o
     clear ca cb' cc fa fb
     generalize ((wr.setCell ⟨blk,off+iN,none⟩ (enc y)).setCell ⟨blk,off+jN,none⟩ (enc x)).drew=w2 at S2 ⊢
     clear ea ec
     go_wp2
     go_roundg (i-(k+1))
     case measure=>omega
     case rel=>exact ⟨k+1,swp dk k (k+1),by go_num,by omega,by omega,by omega,HR.out.up hak zD,by rw [size_swp]; exact hdk,S2⟩
    ·have hltz:¬(k:Int)<(i:Int)-1:=by omega
     go_wp2
     (try simp only [Exit.inBlock,Exit.then])
     refine bodyPost_ret (results_none rfl _ _ _) rfl ?_
     obtain rfl:i=k+1:=by omega
     have hR:=HR.out
     rw [←HA.out] at hR
     exact ⟨rfl,dk,Cut.one zD HP.out (s:=a) (e:=k+1) ⟨Nat.le_refl _,by omega,by omega,by omega,(fun p q p1 p2 q1 q2=>by rw [show q=a by omega]; exact H1.out p p1 p2),(fun p q p1 p2 q1 q2=>by omega)⟩ hR (fun p q p1 p2 q1 q2=>by rw [show p=a by omega]; exact H2.out q q1 q2) (fun p q p1 p2 q1 q2=>by omega),hdk,S1.out⟩
end Go.Proofs.StSort
end
section
namespace Go.Proofs.StSort
set_option maxRecDepth 100000
open Go.Shelf Go.RowKit Go.Lib Go.Sort
variable {α:Type} [Inhabited α]
set_option maxHeartbeats 16000000 in
theorem ES (enc:α→Value) (key:α→Int) (idx:α→Nat) (g:Nat) (cb:Array Value) (blk off cap N a m b:Nat) (d0 d:Array α) (w0 w:World)
  (eg:∀args w,(callFunc g args).run Try.prog w= .ok (.enter g args) w) (hcmp:CmpLays1 Try.prog g cb enc (cfk key) blk off N w0)
  (R1:Row1 enc w0 blk off d0) (h0:d0.size=N) (hN:d.size=N) (S:SW enc w0 blk off d w) (ham:a+1<m) (hmb:b=m+1) (hb:b≤N) (hsz:N<4611686018427387904) (hP:Pre key idx a m b d):
  Calls Try.prog 65 #[.slice (some ⟨blk,off,none⟩) N cap,.int .i64 a,.int .i64 m,.int .i64 b,.func (.func g) #[] cb] w fun e w'=>e= .returned (.tuple #[])∧∃d',Post key idx a b d d'∧d'.size=N∧SW enc w0 blk off d' w':=by
 have hcl0:=R1.hO.cells
 simp only [Value.cells] at hcl0
 have hst:=R1.hO.store Try.prog
 have mixed:Try.prog.follows .mixedOrders=true:=by kernel_rfl
 have hu26:=Try.underlying26
 have a3:=Try.isAgg3
 have z3:=Try.sizeOf3
 have HC:Aside _:=hcmp
 have S0:Aside (SW enc w0 blk off d w):=S
 have HP:Aside _:=hP
 have c1:((m:Int)-(a:Int)==1)=false:=by rw [beq_eq_false_iff_ne]; omega
 have c2:(b:Int)-(m:Int)=1:=by omega
 have hb1:m<b:=by omega
 have hb2:b≤m+1:=by omega
 have HA:Aside (b=m+1):=hmb
 clear S hcmp hP hmb
 go_enter Try.func65,Try.ntmps65
 go_wp2
 go_loopg [14,15] (m-a) (fun kx s14 s15 wr=>∃(i j:Nat),s14= .int .i64 i∧s15= .int .i64 j∧a≤i∧i≤j∧j≤m∧j-i≤kx∧Aside (∀p,a≤p→p<i→R key idx d[p]! d[m]!)∧Aside (∀p,j≤p→p<m→R key idx d[m]! d[p]!)∧Aside (SW enc w0 blk off d wr))
 case atStart=>exact ⟨a,m,rfl,rfl,by omega,by omega,by omega,by omega,(fun p h1 h2=>by omega),(fun p h1 h2=>by omega),S0⟩
 case round=>
  clear S0
  obtain ⟨i,j,rfl,rfl,hmi,hij,hjb,hkx,H1,H2,S1⟩:=hrel
  by_cases hlt:i<j
  ·have hltz:(i:Int)<(j:Int):=by omega
   obtain ⟨h,hh⟩:∃h:Nat,h=(i+j)/2:=⟨_,rfl⟩
   have eh:((i:Int)+(j:Int))/2=(h:Int):=by omega
   have hh1:i≤h:=by omega
   have hh2:h<j:=by omega
   clear hh
   go_wp2_with fail
   obtain ⟨x,hx⟩:∃x,x=d[m]! :=⟨_,rfl⟩
   obtain ⟨y,hy⟩:∃x,x=d[h]! :=⟨_,rfl⟩
   obtain ⟨iN,hiN⟩:∃q,q=m:=⟨_,rfl⟩
   obtain ⟨jN,hjN⟩:∃q,q=h:=⟨_,rfl⟩
   have ea:((m:Int)).toNat=iN:=by omega
   have pa:(0:Int)≤(m:Int):=by omega
   have ba:(m:Int)<(N:Int):=by omega
   have ra:IntKind.i64.wrap ((m:Int))=(m:Int):=by rw [IntKind.wrap_i64]; omega
   have ec:((h:Int)).toNat=jN:=by omega
   have pc:(0:Int)≤(h:Int):=by omega
   have bc:(h:Int)<(N:Int):=by omega
   have rc:IntKind.i64.wrap ((h:Int))=(h:Int):=by rw [IntKind.wrap_i64]; omega
   have la:=S1.out.cl R1 zD (m) zD
   have lb:=S1.out.cl R1 zD (h) zD
   rw [←hx,←hiN] at la
   rw [←hy,←hjN] at lb
   have hc:=S1.out.cmp HC.out hN x y
   have HS:Aside _:=S1.out.grown
   have HXY:Aside (x=d[m]! ∧y=d[h]!):=⟨hx,hy⟩
   cases hlv:ltk key x y with
   | true=>
    have hv:cfk key x y<0:=of_decide_eq_true hlv
    have hd:decide (cfk key x y<0)=true:=hlv
    have HL:Aside (ltk key x y=true):=hlv
    clear hlv S1 hx hy hiN hjN
    go_wp2_with fail
    go_quiet_grown (first|(go_at_fn g; refine Calls.grown_of (hc _ _)))
    have S2:Aside (SW enc w0 blk off d (grow (wr.drewN nq) osq)):=HS.out nq osq
    clear la lb hc HS
    generalize grow (wr.drewN nq) osq=w2 at S2 ⊢
    clear nq osq ea ec
    go_wp2
    go_roundg (h-i)
    case measure=>omega
    case rel=>exact ⟨i,h,rfl,rfl,hmi,by omega,by omega,by omega,H1,(fun p h1 h2=>by
     have e:R key idx d[m]! d[h]! :=by have:=HL.out; rw [HXY.out.1,HXY.out.2] at this; exact (Dh (HP.out.c h m zD zD (Nat.le_refl _) zD)).mp this
     by_cases hp:p=h
     ·rw [hp]; exact e
     ·exact e.trans (HP.out.l h p zD zD h2)),S2⟩
   | false=>
    have hv:¬cfk key x y<0:=of_decide_eq_false hlv
    have hd:decide (cfk key x y<0)=false:=hlv
    have HL:Aside (ltk key x y=false):=hlv
    clear hlv S1 hx hy hiN hjN
    go_wp2_with fail
    go_quiet_grown (first|(go_at_fn g; refine Calls.grown_of (hc _ _)))
    have S2:Aside (SW enc w0 blk off d (grow (wr.drewN nq) osq)):=HS.out nq osq
    clear la lb hc HS
    generalize grow (wr.drewN nq) osq=w2 at S2 ⊢
    clear nq osq ea ec
    go_wp2
    go_roundg (j-(h+1))
    case measure=>omega
    case rel=>exact ⟨h+1,j,by go_num,rfl,by omega,by omega,hjb,by omega,(fun p h1 h2=>by
     have e:R key idx d[h]! d[m]! :=by have:=HL.out; rw [HXY.out.1,HXY.out.2] at this; exact (DC (HP.out.c h m zD zD (Nat.le_refl _) zD)).mp this
     by_cases hp:p=h
     ·rw [hp]; exact e
     ·exact (HP.out.l p h h1 zD zD).trans e),H2,S2⟩
  ·have hltz:¬(i:Int)<(j:Int):=by omega
   obtain rfl:i=j:=by omega
   go_wp2
   go_loopg [17] (m-i) (fun ky s17 wr=>∃(k:Nat) (dk:Array α),s17= .int .i64 k∧i≤k∧k≤m∧k-i≤ky∧Aside (Rot d k m (m+1) dk)∧dk.size=N∧Aside (SW enc w0 blk off dk wr))
   case atStart=>exact ⟨m,d,rfl,by omega,Nat.le_refl _,by omega,Rot.none (.inl rfl) (Nat.le_refl _) zD,hN,S1⟩
   case round=>
    clear S1
    obtain ⟨k,dk,rfl,hak,hki,hky,HR,hdk,S1⟩:=hrel
    by_cases hlt:i<k
    ·obtain ⟨kp,rfl⟩:∃q,k=q+1:=⟨k-1,by omega⟩
     have zkp:((kp+1:Nat):Int)=(kp:Int)+1:=by omega
     rw [zkp]
     have hltz:(i:Int)<(kp:Int)+1:=by omega
     obtain ⟨x,hx⟩:∃x,x=dk[kp+1]! :=⟨_,rfl⟩
     obtain ⟨y,hy⟩:∃x,x=dk[kp]! :=⟨_,rfl⟩
     obtain ⟨iN,hiN⟩:∃q,q=kp+1:=⟨_,rfl⟩
     obtain ⟨jN,hjN⟩:∃q,q=kp:=⟨_,rfl⟩
     have ea:((kp:Int)+1).toNat=iN:=by omega
     have pa:(0:Int)≤(kp:Int)+1:=by omega
     have ba:(kp:Int)+1<(N:Int):=by omega
     have ra:IntKind.i64.wrap ((kp:Int)+1)=(kp:Int)+1:=by rw [IntKind.wrap_i64]; omega
     have ec:((kp:Int)).toNat=jN:=by omega
     have pc:(0:Int)≤(kp:Int):=by omega
     have bc:(kp:Int)<(N:Int):=by omega
     have rc:IntKind.i64.wrap ((kp:Int))=(kp:Int):=by rw [IntKind.wrap_i64]; omega
     have S2:Aside (SW enc w0 blk off (swp dk (kp+1) (kp)) ((wr.setCell ⟨blk,off+iN,none⟩ (enc y)).setCell ⟨blk,off+jN,none⟩ (enc x)).drew):=by rw [hiN,hjN,hx,hy]; exact S1.out.swapped R1 (kp+1) (kp) zD zD
     have ca:=S1.out.c1 R1 zD (kp+1) zD
     have cb':=S1.out.c1 R1 zD (kp) zD
     have fa:=S1.out.f1 R1 zD (kp+1) zD
     have fb:=S1.out.f1 R1 zD (kp) zD
     obtain ⟨u,cc⟩:=S1.out.c2 R1 zD (kp+1) (kp) zD zD (enc y)
     simp only [←hjN,←hiN] at cc
     rw [←hx,←hiN] at ca
     rw [←hy,←hjN] at cb'
     rw [←hiN] at fa
     rw [←hjN] at fb
     clear S1 hx hy hiN hjN
     go_wp2_with fail
     go_big_region_o
     clear ca cb' cc fa fb
     generalize ((wr.setCell ⟨blk,off+iN,none⟩ (enc y)).setCell ⟨blk,off+jN,none⟩ (enc x)).drew=w2 at S2 ⊢
     clear ea ec
     go_wp2
     go_roundg (kp-i)
     case measure=>omega
     case rel=>exact ⟨kp,swp dk (kp+1) kp,by first|rfl|go_num|(congr 1; omega),by omega,by omega,by omega,HR.out.down zD zD,by rw [size_swp]; exact hdk,S2⟩
    ·have hltz:¬(i:Int)<(k:Int):=by omega
     go_wp2
     (try simp only [Exit.inBlock,Exit.then])
     refine bodyPost_ret (results_none rfl _ _ _) rfl ?_
     obtain rfl:i=k:=by omega
     have hR:=HR.out
     rw [←HA.out] at hR
     exact ⟨rfl,dk,Cut.one zD HP.out (s:=i) (e:=b) ⟨by omega,by omega,by omega,by omega,(fun p q p1 p2 q1 q2=>by rw [show p=m by omega]; exact H2.out q q1 q2),(fun p q p1 p2 q1 q2=>by omega)⟩ hR (fun p q p1 p2 q1 q2=>by omega) (fun p q p1 p2 q1 q2=>by rw [show q=m by omega]; exact H1.out p p1 p2),hdk,S1.out⟩
end Go.Proofs.StSort
end
section
namespace Go.Proofs.StSort
set_option maxRecDepth 100000
open Go.Shelf Go.RowKit Go.Lib Go.Sort
variable {α:Type} [Inhabited α]
theorem Pre.behind {key:α→Int} {idx:α→Nat} {a c m b:Nat} {d d':Array α} (h:Pre key idx c m b d) (hcm:c≤m) (hp:PermIn a c d d'):Pre key idx c m b d':=
 ⟨fun p q h1 h2 h3=>by rw [hp.2.1 p (.inr h1),hp.2.1 q (.inr zD)]; exact h.l p q h1 h2 h3,fun p q h1 h2 h3=>by rw [hp.2.1 p (.inr zD),hp.2.1 q (.inr zD)]; exact h.r p q h1 h2 h3,fun p q h1 h2 h3 h4=>by rw [hp.2.1 p (.inr h1),hp.2.1 q (.inr zD)]; exact h.c p q h1 h2 h3 h4⟩
set_option maxHeartbeats 16000000 in
theorem Dy (enc : α →Value) (key:α→Int) (idx:α→Nat) (g:Nat) (cb:Array Value) (blk off cap N:Nat) (d0:Array α) (w0:World)
  (eg:∀args w,(callFunc g args).run Try.prog w= .ok (.enter g args) w) (hcmp:CmpLays1 Try.prog g cb enc (cfk key) blk off N w0)
  (R1:Row1 enc w0 blk off d0) (h0:d0.size=N) (hsz:N<4611686018427387904):∀(n a m b:Nat) (d:Array α) (w:World),b-a≤n→d.size=N→SW enc w0 blk off d w→a<m→m<b→b≤N→Pre key idx a m b d→
  Calls Try.prog 65 #[.slice (some ⟨blk,off,none⟩) N cap,.int .i64 a,.int .i64 m,.int .i64 b,.func (.func g) #[] cb] w fun e w'=>e= .returned (.tuple #[])∧∃d',Post key idx a b d d'∧d'.size=N∧SW enc w0 blk off d' w':=by
 intro n
 induction n with
 |zero=>exact fun a m b d w hn hN S ham hmb hb hP=>absurd hn zD
 | succ n IH =>
  intro a m b d w hn hN S ham hmb hb hP
  by_cases hl:m=a+1
  ·exact ET enc key idx g cb blk off cap N a m b d0 d w0 w eg hcmp R1 h0 hN S hl hmb hb hsz hP
  by_cases hr:b=m+1
  ·exact ES enc key idx g cb blk off cap N a m b d0 d w0 w eg hcmp R1 h0 hN S zD hr hb hsz hP
  have hcl0:=R1.hO.cells
  simp only [Value.cells] at hcl0
  have hst:=R1.hO.store Try.prog
  have mixed:Try.prog.follows .mixedOrders=true:=by kernel_rfl
  have hu26:=Try.underlying26
  have a3:=Try.isAgg3
  have z3:=Try.sizeOf3
  have HC:Aside _:=hcmp
  have HIH:Aside _:=IH
  have S0:Aside (SW enc w0 blk off d w):=S
  have HP:Aside _:=hP
  have c1:((m:Int)-(a:Int)==1)=false:=by rw [beq_eq_false_iff_ne]; omega
  have c2:((b:Int)-(m:Int)==1)=false:=by rw [beq_eq_false_iff_ne]; omega
  obtain ⟨md,hmd⟩:∃q:Nat,q=(a+b)/2:=⟨_,rfl⟩
  have em:((a:Int)+(b:Int))/2=(md:Int):=by omega
  have hmd1:a<md:=by omega
  have hmd2:md<b:=by omega
  have HMD:Aside (md=(a+b)/2):=hmd
  have hx1:m>md→a+b≤md+m:=by omega
  have hx2:¬m>md→md+m≤a+b:=by omega
  clear S hcmp hP hmd IH
  have hx3:Aside (m>md→a+b≤md+m):=hx1
  have hx4:Aside (¬m>md→md+m≤a+b):=hx2
  clear hx1 hx2 hl hr
  go_enter Try.func65,Try.ntmps65
  go_upto_if 140 with fail
  go_cut [20,21] from 138 to 146 (fun s20 s21 wc=>∃s0 r0:Nat,s20= .int .i64 s0∧s21= .int .i64 r0∧Aside (s0=if m>md then md+m-b else a)∧Aside (r0=if m>md then md else m)∧a≤s0∧md+m≤b+s0∧s0≤r0∧r0≤m∧r0≤md∧Aside (SW enc w0 blk off d wc))
  case first=>
   by_cases hc:md<m
   ·have hcz:(md:Int)<(m:Int):=by omega
    have:=hx3.out hc
    go_wp2_with fail
    go_meet
    exact ⟨md+m-b,md,by rw [show ((md+m-b:Nat):Int)=(md:Int)+m-b by omega],rfl,(if_pos hc).symm,(if_pos hc).symm,by omega,by omega,by omega,by omega,by omega,S0⟩
   ·have hcz:¬(md:Int)<(m:Int):=by omega
    have:=hx4.out hc
    go_wp2_with fail
    go_meet
    exact ⟨a,m,rfl,rfl,(if_neg hc).symm,(if_neg hc).symm,by omega,by omega,by omega,by omega,by omega,S0⟩
  case rest =>
   clear S0
   obtain ⟨s0,r0,rfl,rfl,E0,E1,b1,b2,b3,b4,b5,S0⟩:=hcut
   go_wp2
   go_loopg [20,21] (r0-s0) (fun kx s20 s21 wr=>∃(i j:Nat),s20= .int .i64 i∧s21= .int .i64 j∧s0≤i∧i≤j∧j≤r0∧j-i≤kx∧Aside (i=s0∨R key idx d[i-1]! d[md+m-1-(i-1)]!)∧Aside (j=r0∨R key idx d[md+m-1-j]! d[j]!)∧Aside (SW enc w0 blk off d wr))
   case atStart=>exact ⟨s0,r0,rfl,rfl,Nat.le_refl _,b3,Nat.le_refl _,Nat.le_refl _,(.inl rfl),(.inl rfl),S0⟩
   case round=>
    clear S0
    obtain ⟨i,j,rfl,rfl,hmi,hij,hjb,hkx,H1,H2,S1⟩:=hrel
    by_cases hlt:i<j
    ·have hltz:(i:Int)<(j:Int):=by omega
     obtain ⟨h,hh⟩:∃h:Nat,h=(i+j)/2:=⟨_,rfl⟩
     have eh:((i:Int)+(j:Int))/2=(h:Int):=by omega
     have hh1:i≤h:=by omega
     have hh2:h<j:=by omega
     obtain ⟨P,hP⟩:∃P:Nat,P=md+m-1-h:=⟨_,rfl⟩
     have eP:(md:Int)+(m:Int)-1-(h:Int)=(P:Int):=by omega
     have hP1:m≤P:=by omega
     have hP2:P<b:=by omega
     have HPe:Aside (P=md+m-1-h):=hP
     clear hh hP
     go_wp2_with fail
     obtain ⟨x,hx⟩:∃x,x=d[P]! :=⟨_,rfl⟩
     obtain ⟨y,hy⟩:∃x,x=d[h]! :=⟨_,rfl⟩
     obtain ⟨iN,hiN⟩:∃q,q=P:=⟨_,rfl⟩
     obtain ⟨jN,hjN⟩:∃q,q=h:=⟨_,rfl⟩
     have ea:((P:Int)).toNat=iN:=by omega
     have pa:(0:Int)≤(P:Int):=by omega
     have ba:(P:Int)<(N:Int):=by omega
     have ra:IntKind.i64.wrap ((P:Int))=(P:Int):=by rw [IntKind.wrap_i64]; omega
     have ec:((h:Int)).toNat=jN:=by omega
     have pc:(0:Int)≤(h:Int):=by omega
     have bc:(h:Int)<(N:Int):=by omega
     have rc:IntKind.i64.wrap ((h:Int))=(h:Int):=by rw [IntKind.wrap_i64]; omega
     have la:=S1.out.cl R1 zD P zD
     have lb:=S1.out.cl R1 zD (h) zD
     rw [←hx,←hiN] at la
     rw [←hy,←hjN] at lb
     have hc:=S1.out.cmp HC.out hN x y
     have HS:Aside _:=S1.out.grown
     have HXY:Aside (x=d[P]! ∧y=d[h]!):=⟨hx,hy⟩
     cases hlv:ltk key x y with
     | true=>
      have hv:cfk key x y<0:=of_decide_eq_true hlv
      have hd:decide (cfk key x y<0)=true:=hlv
      have HL:Aside (ltk key x y=true):=hlv
      clear hlv S1 hx hy hiN hjN
      go_wp2_with fail
      go_quiet_grown (first|(go_at_fn g; refine Calls.grown_of (hc _ _)))
      have S2:Aside (SW enc w0 blk off d (grow (wr.drewN nq) osq)):=HS.out nq osq
      clear la lb hc HS
      generalize grow (wr.drewN nq) osq=w2 at S2 ⊢
      clear nq osq ea ec
      go_wp2
      go_roundg (h-i)
      case measure=>omega
      case rel=>exact ⟨i,h,rfl,rfl,hmi,by omega,by omega,by omega,H1,(.inr (by
       have:=HL.out; rw [HXY.out.1,HXY.out.2] at this; (first|rw [show h+1-1=h from rfl]|skip); rw [←HPe.out]; exact (Dh (HP.out.c h P zD zD hP1 hP2)).mp this)),S2⟩
     | false=>
      have hv:¬cfk key x y<0:=of_decide_eq_false hlv
      have hd:decide (cfk key x y<0)=false:=hlv
      have HL:Aside (ltk key x y=false):=hlv
      clear hlv S1 hx hy hiN hjN
      go_wp2_with fail
      go_quiet_grown (first|(go_at_fn g; refine Calls.grown_of (hc _ _)))
      have S2:Aside (SW enc w0 blk off d (grow (wr.drewN nq) osq)):=HS.out nq osq
      clear la lb hc HS
      generalize grow (wr.drewN nq) osq=w2 at S2 ⊢
      clear nq osq ea ec
      go_wp2
      go_roundg (j-(h+1))
      case measure=>omega
      case rel=>exact ⟨h+1,j,by go_num,rfl,by omega,by omega,hjb,by omega,(.inr (by
       have:=HL.out; rw [HXY.out.1,HXY.out.2] at this; (first|rw [show h+1-1=h from rfl]|skip); rw [←HPe.out]; exact (DC (HP.out.c h P zD zD hP1 hP2)).mp this)),H2,S2⟩
    ·have hltz : ¬ (i:Int)<(j:Int):=by omega
     obtain rfl:i=j:=by omega
     obtain ⟨e,he⟩:∃q:Nat,q=md+m-i:=⟨_,rfl⟩
     have ee:(md:Int)+(m:Int)-(i:Int)=(e:Int):=by omega
     have HE:Aside (e=md+m-i):=he
     have HCut:Aside (Cut key idx a m b i e d):=by rw [he]; exact Cut.found HP.out ham hmb (by rw [←HMD.out]) (by rw [←HMD.out]; exact E0.out) (by rw [←HMD.out]; exact E1.out) hmi hjb H1.out H2.out
     have k1:i≤m:=by omega
     have k2:m≤e:=by omega
     have k3:e≤b:=by omega
     have k4:a≤i:=by omega
     have k5:i≤md:=by omega
     have k6:md≤e:=by omega
     clear he E0 E1 H1 H2 b1 b2 b3 b4 b5 hmi hjb hkx hij
     go_upto_region 39 with fail
     go_cut [185] from 178 to 184 (fun s185 wc=>s185= .bool (decide (i<m∧m<e))∧Aside (SW enc w0 blk off d wc))
     case first=>
      by_cases q1:i<m
      ·have q1z:(i:Int)<(m:Int):=by omega
       by_cases q2:m<e
       ·have q2z:(m:Int)<(e:Int):=by omega
        have q3:decide (i<m∧m<e)=true:=decide_eq_true ⟨q1,q2⟩
        go_wp2_with fail
        go_meet
        exact ⟨by first|rfl|rw [q3],S1⟩
       ·have q2z:¬(m:Int)<(e:Int):=by omega
        have q3:decide (i<m∧m<e)=false:=decide_eq_false (fun h=>q2 h.2)
        go_wp2_with fail
        go_meet
        exact ⟨by first|rfl|rw [q3],S1⟩
      ·have q1z:¬(i:Int)<(m:Int):=by omega
       have q3:decide (i<m∧m<e)=false:=decide_eq_false (fun h=>q1 h.1)
       go_wp2_with fail
       go_meet
       exact ⟨by first|rfl|rw [q3],S1⟩
     case rest =>
      clear S1
      obtain ⟨rfl,S1⟩:=hcut
      go_upto_if 185 with fail
      go_cut [] from 185 to 191 (fun wc=>∃d1:Array α,Aside (Rot d i m e d1)∧d1.size=N∧Aside (SW enc w0 blk off d1 wc))
      case first=>
       by_cases q:i<m∧m<e
       ·have q1:decide (i<m∧m<e)=true:=decide_eq_true q
        have hcall:=rotate enc (.func (.func g) #[] cb) blk off cap N i m e d0 d w0 wc R1 h0 hN S1.out q.1 q.2 zD hsz
        clear S1
        go_wp2_with (go_at_call 72; refine hcall.mono ?_; rintro e1 w1 ⟨rfl,d1,hR,hd1,S3⟩)
        go_meet
        exact ⟨d1,hR,hd1,S3⟩
       ·have q1:decide (i<m∧m<e)=false:=decide_eq_false q
        go_wp2_with fail
        go_meet
        exact ⟨d,Rot.none zD zD zD,hN,S1⟩
      case rest =>
       clear S1
       obtain ⟨d1,HR,hd1,S1⟩:=hcut
       have HPt:Aside _:=HCut.out.parts HP.out HR.out
       have HMe:Aside (i+(e-m)=md):=by show _=_; omega
       go_upto_region 41 with fail
       go_cut [199] from 192 to 198 (fun s199 wc=>s199= .bool (decide (a<i∧i<md))∧Aside (SW enc w0 blk off d1 wc))
       case first=>
        by_cases q1:a<i
        ·have q1z:(a:Int)<(i:Int):=by omega
         by_cases q2:i<md
         ·have q2z:(i:Int)<(md:Int):=by omega
          have q3:decide (a<i∧i<md)=true:=decide_eq_true ⟨q1,q2⟩
          go_wp2_with fail
          go_meet
          exact ⟨by first|rfl|rw [q3],S1⟩
         ·have q2z:¬(i:Int)<(md:Int):=by omega
          have q3:decide (a<i∧i<md)=false:=decide_eq_false (fun h=>q2 h.2)
          go_wp2_with fail
          go_meet
          exact ⟨by first|rfl|rw [q3],S1⟩
        ·have q1z:¬(a:Int)<(i:Int):=by omega
         have q3:decide (a<i∧i<md)=false:=decide_eq_false (fun h=>q1 h.1)
         go_wp2_with fail
         go_meet
         exact ⟨by first|rfl|rw [q3],S1⟩
       case rest =>
        clear S1
        obtain ⟨rfl,S1⟩:=hcut
        go_upto_if 199 with fail
        go_cut [] from 199 to 205 (fun wc=>∃d2:Array α,Aside (Post key idx a md d1 d2)∧d2.size=N∧Aside (SW enc w0 blk off d2 wc))
        case first=>
         by_cases q:a<i∧i<md
         ·have q1:decide (a<i∧i<md)=true:=decide_eq_true q
          have hcall:=HIH.out a i md d1 wc zD hd1 S1.out q.1 q.2 zD (by have:=HPt.out.1; rw [HMe.out] at this; exact this)
          clear S1
          go_wp2_with (go_at_call 65; refine hcall.mono ?_; rintro e1 w1 ⟨rfl,d2,hQ,hd2,S3⟩)
          go_meet
          exact ⟨d2,hQ,hd2,S3⟩
         ·have q1:decide (a<i∧i<md)=false:=decide_eq_false q
          go_wp2_with fail
          go_meet
          exact ⟨d1,⟨permIn_refl _ _ _,by
           have h1:=HPt.out.1
           rw [HMe.out] at h1
           by_cases h:a=i
           ·rw [h]; exact h1.r
           ·have h2:md=i:=by omega
            rw [h2]; exact h1.l⟩,hd1,S1⟩
        case rest =>
         clear S1
         obtain ⟨d2,HQ,hd2,S1⟩:=hcut
         go_upto_region 43 with fail
         go_cut [213] from 206 to 212 (fun s213 wc=>s213= .bool (decide (md<e∧e<b))∧Aside (SW enc w0 blk off d2 wc))
         case first=>
          by_cases q1:md<e
          ·have q1z:(md:Int)<(e:Int):=by omega
           by_cases q2:e<b
           ·have q2z:(e:Int)<(b:Int):=by omega
            have q3:decide (md<e∧e<b)=true:=decide_eq_true ⟨q1,q2⟩
            go_wp2_with fail
            go_meet
            exact ⟨by first|rfl|rw [q3],S1⟩
           ·have q2z:¬(e:Int)<(b:Int):=by omega
            have q3:decide (md<e∧e<b)=false:=decide_eq_false (fun h=>q2 h.2)
            go_wp2_with fail
            go_meet
            exact ⟨by first|rfl|rw [q3],S1⟩
          ·have q1z:¬(md:Int)<(e:Int):=by omega
           have q3:decide (md<e∧e<b)=false:=decide_eq_false (fun h=>q1 h.1)
           go_wp2_with fail
           go_meet
           exact ⟨by first|rfl|rw [q3],S1⟩
         case rest=>
          clear S1
          obtain ⟨rfl,S1⟩:=hcut
          have HPr:Aside (Pre key idx md e b d2):=by
           have h2:=HPt.out.2.1
           rw [HMe.out] at h2
           exact h2.behind zD HQ.out.1
          have HD:Aside (∀d3,Post key idx md b d2 d3→Post key idx a b d d3):=fun d3 h3=>by
           have h4:=HPt.out.2.2
           rw [HMe.out] at h4
           have h5:=Eg zD zD zD h4 HQ.out h3
           exact ⟨permIn_trans _ _ _ _ _ (permIn_mono _ _ _ _ _ _ zD k3 zD (HR.out.perm k1 k2 zD)) h5.1,h5.2⟩
          by_cases q:md<e∧e<b
          ·have q1:decide (md<e∧e<b)=true:=decide_eq_true q
           have hcall:=HIH.out md e b d2 wc zD hd2 S1.out q.1 q.2 zD HPr.out
           clear S1
           go_wp2_with (go_at_call 65; refine hcall.mono ?_; rintro e1 w1 ⟨rfl,d3,hQ,hd3,S3⟩)
           go_end0
           exact ⟨rfl,d3,HD.out d3 hQ,hd3,S3⟩
          ·have q1:decide (md<e∧e<b)=false:=decide_eq_false q
           go_wp2
           go_end0
           exact ⟨rfl,d2,HD.out d2 ⟨permIn_refl _ _ _,by
            by_cases h:md=e
            ·rw [h]; exact HPr.out.r
            ·have h2:b=e:=by omega
             rw [h2]; exact HPr.out.l⟩,hd2,S1.out⟩
end Go.Proofs.StSort
end
section
namespace Go.Proofs.StSort
set_option maxRecDepth 100000
open Go.Shelf Go.RowKit Go.Lib Go.Sort
variable {α:Type} [Inhabited α]
def Blk (key:α→Int) (idx:α→Nat) (d:Array α) (a:Nat) (dk:Array α):Prop:=
 (a=0∧dk=d)∨(a=20∧Post key idx 0 20 d dk)∨(a=40∧∃d1,Post key idx 0 20 d d1∧Post key idx 20 40 d1 dk)
theorem Blk.out {key:α→Int} {idx:α→Nat} {d dk:Array α} {a:Nat} (h:Blk key idx d a dk):∀p,a≤p→dk[p]! =d[p]! :=by
 intro p hp
 rcases h with ⟨rfl,rfl⟩|⟨rfl,h⟩|⟨rfl,d1,h1,h2⟩
 ·rfl
 ·exact h.1.2.1 p (.inr hp)
 ·rw [h2.1.2.1 p (.inr hp),h1.1.2.1 p (.inr zD)]
theorem Blk.step {key:α→Int} {idx:α→Nat} {d dk dk':Array α} {a:Nat} (h:Blk key idx d a dk) (ha:a+20≤40) (hp:Post key idx a (a+20) dk dk'):Blk key idx d (a+20) dk':=by
 rcases h with ⟨rfl,rfl⟩|⟨rfl,h⟩|⟨rfl,d1,h1,h2⟩
 ·exact .inr (.inl ⟨rfl,hp⟩)
 ·exact .inr (.inr ⟨rfl,dk,h,hp⟩)
 ·omega
theorem Blk.stab {key:α→Int} {idx:α→Nat} {d dk:Array α} {a b N:Nat} (h:Blk key idx d a dk) (hi:∀p,p<N→idx d[p]! =p) (hb:b≤N):Stab key idx a b dk:=fun p q h1 h2 h3 _=>by
 rw [h.out p h1,h.out q zD,hi p zD,hi q zD]; exact h2
theorem Blk.one {key:α→Int} {idx:α→Nat} {d dk d':Array α} {a N:Nat} (h:Blk key idx d a dk) (haN:a≤N) (hN:N≤20) (hp:Post key idx a N dk d'):Post key idx 0 N d d':=by
 rcases h with ⟨rfl,rfl⟩|⟨rfl,h⟩|⟨rfl,d1,h1,h2⟩
 ·exact hp
 ·obtain rfl:N=20:=by omega
  refine ⟨⟨hp.1.1.trans h.1.1,fun i hi=>(hp.1.2.1 i zD).trans (h.1.2.1 i hi),?_⟩,fun p q h1 h2 h3=> ?_⟩
  ·have e:=permIn_mono dk d' 20 20 0 20
   by_cases hs:20≤dk.size
   ·exact (e zD (Nat.le_refl _) hs hp.1).2.2.trans h.1.2.2
   ·have ex:d'=dk:=by
     apply Array.ext hp.1.1
     intro k k1 k2
     have:=hp.1.2.1 k zD
     rwa [getElem!_pos d' k k1,getElem!_pos dk k k2] at this
    rw [ex]; exact h.1.2.2
  ·rw [hp.1.2.1 p zD,hp.1.2.1 q zD]; exact h.2 p q h1 h2 h3
 ·omega
theorem Blk.two {key:α→Int} {idx:α→Nat} {d dk d':Array α} {a N:Nat} (h:Blk key idx d a dk) (haN:a≤N) (haN2:N<a+20) (hN:20<N) (hN4:N≤40) (hs:N≤d.size) (hi:∀p,p<N→idx d[p]! =p) (hp:Post key idx a N dk d'):
  Pre key idx 0 20 N d'∧PermIn 0 N d d':=by
 have key1:∃d1,Post key idx 0 20 d d1∧Post key idx 20 N d1 d':=by
  rcases h with ⟨rfl,rfl⟩|⟨rfl,h⟩|⟨rfl,d1,h1,h2⟩
  ·omega
  ·exact ⟨dk,h,hp⟩
  ·obtain rfl:N=40:=by omega
   refine ⟨d1,h1,⟨⟨hp.1.1.trans h2.1.1,fun i hi=>(hp.1.2.1 i zD).trans (h2.1.2.1 i hi),?_⟩,fun p q h1 h2' h3=> ?_⟩⟩
   ·exact (permIn_mono dk d' 40 40 20 40 zD (Nat.le_refl _) (by rw [h2.1.1,h1.1.1]; exact hs) hp.1).2.2.trans h2.1.2.2
   ·rw [hp.1.2.1 p zD,hp.1.2.1 q zD]; exact h2.2 p q h1 h2' h3
 obtain ⟨d1,h1,h2⟩:=key1
 have s1:=h1.1.1
 refine ⟨⟨fun p q p1 p2 p3=> ?_,h2.2,fun p q p1 p2 p3 p4=> ?_⟩,permIn_trans _ _ _ _ _ (permIn_mono _ _ _ _ _ _ (Nat.le_refl _) zD hs h1.1) (permIn_mono _ _ _ _ _ _ zD (Nat.le_refl _) (by rw [s1]; exact hs) h2.1)⟩
 ·rw [h2.1.2.1 p zD,h2.1.2.1 q zD]; exact h1.2 p q p1 p2 p3
 ·have e1:idx d'[p]! <20:=by
   rw [h2.1.2.1 p zD]
   exact permIn_all d d1 0 20 (fun x=>idx x<20) zD h1.1 (fun i i1 i2=>by show idx d[i]! <20; rw [hi i zD]; exact i2) p p1 p2
  have e2:20≤idx d'[q]! :=by
   refine permIn_all d1 d' 20 N (fun x=>20≤idx x) (by rw [s1]; exact hs) h2.1 (fun i i1 i2=> ?_) q p3 p4
   show 20≤idx d1[i]!
   rw [h1.1.2.1 i (.inr i1),hi i i2]; exact i1
  omega
set_option maxHeartbeats 16000000 in
theorem stable (enc:α→Value) (key:α→Int) (idx:α→Nat) (g:Nat) (cb:Array Value) (blk off cap N:Nat) (d:Array α) (w:World)
  (eg:∀args w,(callFunc g args).run Try.prog w= .ok (.enter g args) w) (hcmp:CmpLays1 Try.prog g cb enc (cfk key) blk off N w)
  (R1:Row1 enc w blk off d) (hN:d.size=N) (hN40:N≤40) (hi:∀p,p<N→idx d[p]! =p):
  Calls Try.prog 57 #[.slice (some ⟨blk,off,none⟩) N cap,.int .i64 N,.func (.func g) #[] cb] w fun e w'=>e= .returned (.tuple #[])∧∃d',Post key idx 0 N d d'∧d'.size=N∧SW enc w blk off d' w':=by
 have hu26:=Try.underlying26
 have HC:Aside _:=hcmp
 have S0:Aside (SW enc w blk off d w):=SW.start R1.hH
 have HR1:Aside _:=R1
 have HI:Aside (∀p,p<N→idx d[p]! =p):=hi
 clear hcmp hi
 have R1:=HR1
 clear R1
 go_enter Try.func57,Try.ntmps57
 go_wp2
 go_loopg [7,8] (40-0) (fun kx s7 s8 wr=>∃(a:Nat) (dk:Array α),s7= .int .i64 a∧s8= .int .i64 ((a:Int)+20)∧a≤N∧40-a≤kx∧Aside (Blk key idx d a dk)∧dk.size=N∧Aside (SW enc w blk off dk wr))
 case atStart=>exact ⟨0,d,rfl,rfl,by omega,by omega,.inl ⟨rfl,rfl⟩,hN,S0⟩
 case round=>
  clear S0
  obtain ⟨a,dk,rfl,rfl,haN,hkx,HB,hdk,S1⟩:=hrel
  by_cases hlt:a+20≤N
  ·have hltz:(a:Int)+20≤(N:Int):=by omega
   have hcall:=insertion enc key idx g cb blk off cap N a (a+20) d dk w wr eg HC.out HR1.out hN hdk S1.out zD zD zD (HB.out.stab HI.out zD)
   rw [show ((a+20:Nat):Int)=(a:Int)+20 by omega] at hcall
   clear S1
   go_wp2_with (go_at_call 64; refine hcall.mono ?_; rintro e1 w1 ⟨rfl,d1,hP,hd1,S3⟩)
   go_roundg (40-(a+20))
   case measure=>omega
   case rel=>exact ⟨a+20,d1,by go_num,by first|go_num|(congr 1; omega),hlt,Nat.le_refl _,HB.out.step zD hP,hd1,S3⟩
  ·have hltz :¬(a:Int)+20≤(N:Int):=by omega
   have hcall:=insertion enc key idx g cb blk off cap N a N d dk w wr eg HC.out HR1.out hN hdk S1.out haN (Nat.le_refl _) zD (HB.out.stab HI.out (Nat.le_refl _))
   clear S1
   go_wp2_with (go_at_call 64; refine hcall.mono ?_; rintro e1 w1 ⟨rfl,d1,hP,hd1,S3⟩)
   have HD:Aside ((N≤20∧Post key idx 0 N d d1)∨(20<N∧Pre key idx 0 20 N d1∧PermIn 0 N d d1)):=by
    by_cases h:N≤20
    ·exact .inl ⟨h,HB.out.one haN h hP⟩
    ·exact .inr ⟨by omega,HB.out.two haN zD zD hN40 zD HI.out hP⟩
   clear hP HB
   have S1:Aside _:=S3
   clear S3
   clear hltz hlt haN
   go_loopg [6,7,8,9] 1 (fun kx s6 s7 s8 s9 wr=>∃(d2:Array α),Aside ((s6= .int .i64 20∧N≤20∧Post key idx 0 N d d2)∨(s6= .int .i64 40∧Post key idx 0 N d d2)∨(s6= .int .i64 20∧kx=1∧20<N∧Pre key idx 0 20 N d2∧PermIn 0 N d d2))∧d2.size=N∧Aside (SW enc w blk off d2 wr))
   case atStart=>exact ⟨d1,HD.out.elim (fun h=> .inl ⟨rfl,h⟩) (fun h=> .inr (.inr ⟨rfl,rfl,h⟩)),hd1,S1⟩
   case round=>
    clear S1 HD
    obtain ⟨d2,HD,hd2,S1⟩:=hrel
    rcases HD.out with ⟨rfl,h20,hQ⟩|⟨rfl,hQ⟩|⟨rfl,hk1,h20,hPre,hPm⟩
    ·have HQ:Aside _:=hQ
     have hltz:¬(20:Int)<(N:Int):=by omega
     clear HD hQ
     go_wp2
     go_end0
     exact ⟨rfl,d2,HQ.out,hd2,S1.out⟩
    ·have HQ:Aside _:=hQ
     have hltz:¬(40:Int)<(N:Int):=by omega
     clear HD hQ
     go_wp2
     go_end0
     exact ⟨rfl,d2,HQ.out,hd2,S1.out⟩
    ·have HPre:Aside _:=hPre
     have HPm:Aside _:=hPm
     have hltz:(20:Int)<(N:Int):=by omega
     have hltb:decide ((20:Int)<(N:Int))=true:=decide_eq_true zD
     clear HD hPre hPm
     go_wp2
     go_loopg [7,8] 1 (fun ky s7 s8 wr=>∃(d3:Array α),Aside ((s7= .int .i64 0∧s8= .int .i64 40∧ky=1∧d3=d2)∨(s7= .int .i64 40∧s8= .int .i64 80∧40≤N∧Post key idx 0 N d d3))∧d3.size=N∧Aside (SW enc w blk off d3 wr))
     case atStart=>exact ⟨d2,.inl ⟨rfl,rfl,rfl,rfl⟩,hd2,S1⟩
     case round=>
      clear S1
      obtain ⟨d3,HD3,hd3,S1⟩:=hrel
      rcases HD3.out with ⟨rfl,rfl,hky,rfl⟩|⟨rfl,rfl,h40,hQ⟩
      ·clear HD3
       by_cases h40:40≤N
       ·have h40z:(40:Int)≤(N:Int):=by omega
        have eN:N=40:=by omega
        have EN:Aside (N=40):=eN
        have hcall:=Dy enc key idx g cb blk off cap N d w eg HC.out HR1.out hN zD 40 0 20 40 d3 wr zD hd3 S1.out zD zD h40 (by have:=HPre.out; rw [eN] at this; exact this)
        rw [show ((0:Nat):Int)=0 from rfl,show ((20:Nat):Int)=20 from rfl,show ((40:Nat):Int)=40 from rfl] at hcall
        clear S1 eN
        go_wp2_with (go_at_call 65; refine hcall.mono ?_; rintro e1 w1 ⟨rfl,d4,hQ,hd4,S3⟩)
        go_roundg 0
        case measure=>omega
        case rel=>exact ⟨d4,.inr ⟨by go_num,by go_num,h40,by have h5:=permIn_trans _ _ _ _ _ HPm.out (show PermIn 0 N d3 d4 by rw [EN.out]; exact hQ.1); rw [EN.out] at h5 ⊢; exact ⟨h5,hQ.2⟩⟩,hd4,S3⟩
       ·have h40z:¬(40:Int)≤(N:Int):=by omega
        have hcall:=Dy enc key idx g cb blk off cap N d w eg HC.out HR1.out hN zD 40 0 20 N d3 wr zD hd3 S1.out zD zD (Nat.le_refl _) HPre.out
        rw [show ((0:Nat):Int)=0 from rfl,show ((20:Nat):Int)=20 from rfl] at hcall
        clear S1
        go_wp2_with (go_at_call 65; refine hcall.mono ?_; rintro e1 w1 ⟨rfl,d4,hQ,hd4,S3⟩)
        go_roundg 0
        case measure=>omega
        case rel=>exact ⟨d4,.inr (.inl ⟨by go_num,permIn_trans _ _ _ _ _ HPm.out hQ.1,hQ.2⟩),hd4,S3⟩
      ·have HQ:Aside _:=hQ
       have h80z:¬(80:Int)≤(N:Int):=by omega
       have h60z:¬(60:Int)<(N:Int):=by omega
       clear HD3 hQ
       go_wp2
       go_roundg 0
       case measure=>omega
       case rel=>exact ⟨d3,.inr (.inl ⟨by go_num,HQ.out⟩),hd3,S1⟩
set_option maxHeartbeats 4000000 in
theorem sortStable (enc:α→Value) (key:α→Int) (idx:α→Nat) (g:Nat) (cb:Array Value) (blk off cap N:Nat) (d:Array α) (w:World)
  (eg:∀args w,(callFunc g args).run Try.prog w= .ok (.enter g args) w) (hcmp:CmpLays1 Try.prog g cb enc (cfk key) blk off N w)
  (R1:Row1 enc w blk off d) (hN:d.size=N) (hN40:N≤40) (hi:∀p,p<N→idx d[p]! =p):
  Calls Try.prog 40 #[.slice (some ⟨blk,off,none⟩) N cap,.func (.func g) #[] cb] w fun e w'=>e= .returned (.tuple #[])∧∃d',Post key idx 0 N d d'∧d'.size=N∧SW enc w blk off d' w':=by
 have hcall:=stable enc key idx g cb blk off cap N d w eg hcmp R1 hN hN40 hi
 clear hcmp R1 hi
 go_enter Try.func40,Try.ntmps40
 go_wp2_with (go_at_call 57; refine hcall.mono ?_; rintro e1 w1 ⟨rfl,d4,hQ,hd4,S3⟩)
 go_end0
 exact ⟨rfl,d4,hQ,hd4,S3⟩
end Go.Proofs.StSort
end
