/- A part of what the law's proof leans on. PACKED BY pack.py of this repo. -/
import Derived.Test.YtdadecjefafflaaB2
set_option linter.unusedVariables false
set_option linter.unusedSimpArgs false
set_option linter.defProp false
set_option linter.unusedSectionVars false
section
namespace Go.Proofs.Ytdadecjefafflaa.PAll
set_option maxRecDepth 100000
open Go.RowKit Go.Proofs.YtdadecjefafflaaW.PrintWords Go.Proofs.YtdadecjefafflaaW.PrintLast Go.Proofs.YtdadecjefafflaaW.PrintMore
attribute [local go_sem] BU BS Be Bd BH BG BT BR
def AY.l0:Nat→List (S47)→Int→Int→Int→Int→List (S64)→Option (Int)
 |0,_,_,_,_,_,_=>none
 |k+1,x1,x5,x20,x21,x194000,x194001=>if x21<x20 then ((Aw.f x194000 x194001 x1 x21).bind fun t196=>(if 0≤x21 then (if x21<(x194001.length:Int) then (AY.l0 k x1 (mx x5 (wrap64 (t196-((AL x194001 x21).f2)))) x20 (wrap64 (x21+1)) x194000 x194001) else (none)) else (none))) else (some x5)
def AY.f (k:Nat) (A7:Int) (l0_1:List (S64)) (l1:List (S47)):Option (Int):=if (l1.length:Int)=0 then (some 0) else ((Aw.f A7 l0_1 l1 0).bind fun t194=>(if 0<(l0_1.length:Int) then (AY.l0 k l1 (wrap64 (t194-((AL l0_1 0).f2))) (l1.length:Int) 0 A7 l0_1) else (none)))
theorem AY.mono_l:∀k,(∀y0 y1 y2 y3 y4 y5,LeO (AY.l0 k y0 y1 y2 y3 y4 y5) (AY.l0 (k+1) y0 y1 y2 y3 y4 y5))
 |0=>fun _ _ _ _ _ _ r h=>by simp [AY.l0] at h
 | k +1=>by
  have ih0:=AY.mono_l k
  ·intro y0 y1 y2 y3 y4 y5
   unfold AY.l0
   repeat' first
   |(with_reducible exact ih0 _ _ _ _ _ _)
   |(with_reducible exact LeO.refl _)
   |(with_reducible exact LeO.none _)
   |(with_reducible refine LeO.ite ?_ ?_)
   |(with_reducible refine LeO.bind ?_ (fun _=> ?_))
   |exact ih0 _ _ _ _ _ _
   |exact LeO.none _
   |refine LeO.ite ?_ ?_
   |refine LeO.bind ?_ (fun _=> ?_)
theorem AY.mono:∀a0 a1 a2 k,LeO (AY.f k a0 a1 a2) (AY.f (k+1) a0 a1 a2):=by
 intro a0 a1 a2 k
 have ih0:=AY.mono_l k
 unfold AY.f
 repeat' first
  |(with_reducible exact ih0 _ _ _ _ _ _)
  |(with_reducible exact LeO.refl _)
  |(with_reducible exact LeO.none _)
  |(with_reducible refine LeO.ite ?_ ?_)
  |(with_reducible refine LeO.bind ?_ (fun _=> ?_))
  |exact ih0 _ _ _ _ _ _
  |exact LeO.none _
  |refine LeO.ite ?_ ?_
  |refine LeO.bind ?_ (fun _=> ?_)
def AY.T3:Bool×List (List Nat×List Nat):=(true,[([],[]),([],[]),([0,1],[0,1]),([],[]),([3],[3]),([4],[4]),([5],[5]),([6],[6]),([2,7],[2,7]),([8,2,0,1,2,3,4,5,6,7,8],[8])])
def AY.B3:List Nat:=[0,0,3,0,8,24,56,120,255,511]
theorem AY.tab3:rtab .any (E5 Try.f33 3)=AY.T3:=by kernel_rfl
theorem AY.bits3:Bq AY.T3.2 AY.B3=true:=by kernel_rfl
def AY.T7:Bool×List (List Nat×List Nat):=(true,[([],[]),([],[]),([],[]),([],[]),([1,2,3],[1,2,3]),([],[]),([5],[5]),([],[]),([6,7],[6,7]),([8],[8]),([9],[9]),([4,10],[4,10]),([0,11],[0,11]),([12,4,0,1,2,3,4,5,6,7,8,9,10,11,12],[0,12])])
def AY.B7:List Nat:=[0,0,0,0,14,0,32,0,224,480,992,2046,4095,8191]
theorem AY.tab7:rtab .any (E5 Try.f33 7)=AY.T7:=by kernel_rfl
theorem AY.bits7:Bq AY.T7.2 AY.B7=true:=by kernel_rfl
set_option maxHeartbeats 8000000 in
theorem AY.calls (k:Nat) (A7:Int) (A0_1:Option Addr) (c0_1:Nat) (l0_1:List (S64)) (A1:Option Addr) (c1:Nat) (l1:List (S47)) (r:Int) (w:World) (hr0_1:Kd.C k64 w A0_1 l0_1.length l0_1) (hc0_1:l0_1.length≤c0_1) (hr1:Kd.C k47 w A1 l1.length l1) (hc1:l1.length≤c1) (h:AY.f k A7 l0_1 l1=some r):
  Calls Try.prog 33 #[.agg #[.int .i64 A7,.slice A0_1 l0_1.length c0_1],.slice A1 l1.length c1] w fun e w'=>e= .returned (.int .i64 r)∧Below w.heap.size w w':=by
 have hu34:=Try.underlying34
 have HR0_1:=Aside0.mk hr0_1
 have HC0_1:=Aside0.mk hc0_1
 clear hr0_1 hc0_1
 have HR1:=Aside0.mk hr1
 have HC1:=Aside0.mk hc1
 clear hr1 hc1
 have HB:=Aside0.mk (Below.refl w.heap.size w)
 have H:(if (l1.length:Int)=0 then (some 0) else ((Aw.f A7 l0_1 l1 0).bind fun t194=>(if 0<(l0_1.length:Int) then (AY.l0 k l1 (wrap64 (t194-((AL l0_1 0).f2))) (l1.length:Int) 0 A7 l0_1) else (none))))=some r:=h
 clear h
 by_cases c3:(l1.length:Int)=0
 ·rw [if_pos c3] at H
  have c3b0:((l1.length:Int)==0)=true:=beq_iff_eq.mpr c3
  have c3b1:((l1.length:Int) !=0)=false:=bne_eq_false_iff_eq.mpr c3
  clear c3
  obtain rfl:=Option.some.inj H
  go_enter Try.func33,Try.ntmps33
  go_wp2_with (first|((with_reducible refine Ah (N:=2) rfl ?_); refine Al ?hg (N:=2) ?hd (cs:= #[.int .i64 A7,.slice A0_1 l0_1.length c0_1]) (t:=34) ?hr ?_; (case hd=>rfl); (case hg=>rfl); (case hr=>first|(go_simp; done)|(go_simp; rfl)); intro gb193 hg w4 hbox hb; have n0_:=Aside0.mk (AN (by repeat (first|(with_reducible first|exact HB.out|apply AE|apply AC|apply AD)|exact HB.out)) hb); have n1_:=Aside0.mk (hbox); have n2_:=Aside0.mk ((by rw [hg]; exact (AP (by repeat (first|(with_reducible first|exact HB.out|apply AE|apply AC|apply AD)|exact HB.out))):w.heap.size≤gb193)); have n3_:=Aside0.mk ((by rw [hg]; exact (AP (by repeat (first|(with_reducible first|exact HB.out|apply AE|apply AC|apply AD)|exact HB.out))):w.heap.size≤gb193)); clear HB; have HB:=n0_; have BK193:=n1_; have GW193:=n2_; have GE193:=n3_; clear n0_ n1_ n2_ n3_; clear hb hbox hg))
  go_ret
  exact ⟨by first|rfl|(simp [AU,AT]<;>rfl)|(simp [*,AU,AT]<;>rfl),by repeat (first|(with_reducible first|exact HB.out|apply AE|apply AC|apply AD|refine AH ?_ GE193.out)|exact HB.out)⟩
 ·rw [if_neg c3] at H
  have c3b0:((l1.length:Int)==0)=false:=beq_eq_false_iff_ne.mpr c3
  have c3b1:((l1.length:Int) !=0)=true:=bne_iff_ne.mpr c3
  have c3b2:¬(l1=[]):=fun h_=>c3 (by rw [h_]; rfl)
  replace H:=Option.bind_eq_some_iff.mp H
  obtain ⟨t194,A50,H⟩:=H
  replace H:(if 0<(l0_1.length:Int) then (AY.l0 k l1 (wrap64 (t194-((AL l0_1 0).f2))) (l1.length:Int) 0 A7 l0_1) else (none))=some r:=H
  have A5:=Aside0.mk A50
  clear A50
  by_cases c6:0<(l0_1.length:Int)
  ·rw [if_pos c6] at H
   have c6b0:decide (0<(l0_1.length:Int))=true:=decide_eq_true c6
   have c6b1:decide (0<l0_1.length)=true:=decide_eq_true (by omega)
   clear c6
   have H':=Aside0.mk H
   clear H
   go_enter Try.func33,Try.ntmps33
   try go_wp2_with (first|((with_reducible refine Ah (N:=2) rfl ?_); refine Al ?hg (N:=2) ?hd (cs:= #[.int .i64 A7,.slice A0_1 l0_1.length c0_1]) (t:=34) ?hr ?_; (case hd=>rfl); (case hg=>rfl); (case hr=>first|(go_simp; done)|(go_simp; rfl)); intro gb193 hg w7 hbox hb; have n0_:=Aside0.mk (AN (by repeat (first|(with_reducible first|exact HB.out|apply AE|apply AC|apply AD)|exact HB.out)) hb); have n1_:=Aside0.mk (hbox); have n2_:=Aside0.mk ((by rw [hg]; exact (AP (by repeat (first|(with_reducible first|exact HB.out|apply AE|apply AC|apply AD)|exact HB.out))):w.heap.size≤gb193)); have n3_:=Aside0.mk ((by rw [hg]; exact (AP (by repeat (first|(with_reducible first|exact HB.out|apply AE|apply AC|apply AD)|exact HB.out))):w.heap.size≤gb193)); clear HB; have HB:=n0_; have BK193:=n1_; have GW193:=n2_; have GE193:=n3_; clear n0_ n1_ n2_ n3_; clear hb hbox hg))
   have n0_:=Aside0.mk (AI BK193.out)
   have n1_:=Aside0.mk (AD HB.out)
   clear BK193
   clear HB
   have BK193:=n0_
   have HB:=n1_
   clear n0_ n1_
   have p195:0≤(0:Int):=(by omega)
   have q195:0<(l0_1.length:Int):=of_decide_eq_true (by first|(with_reducible assumption)|assumption)
   obtain ⟨ad195,A195_3,c195_3,e195,hx195_0,hx195_1,hx195_2,hx195_3,hl195_3,hi195_3⟩:=Bp HR0_1.out 0 p195 q195
   have hw195_3:=hx195_3
   (try rw [show ((0:Int)).toNat=0 from rfl] at hw195_3)
   (try rw [show 0*4=0 from rfl] at hw195_3)
   (try rw [Addr.add_zero'] at hw195_3)
   have hw195_2:=hx195_2
   (try rw [show ((0:Int)).toNat=0 from rfl] at hw195_2)
   (try rw [show 0*4=0 from rfl] at hw195_2)
   (try rw [Addr.add_zero'] at hw195_2)
   have hw195_1:=hx195_1
   (try rw [show ((0:Int)).toNat=0 from rfl] at hw195_1)
   (try rw [show 0*4=0 from rfl] at hw195_1)
   (try rw [Addr.add_zero'] at hw195_1)
   have hw195_0:=hx195_0
   (try rw [show ((0:Int)).toNat=0 from rfl] at hw195_0)
   (try rw [show 0*4=0 from rfl] at hw195_0)
   (try rw [Addr.add_zero'] at hw195_0)
   cases e195
   have qi195:(0<l0_1.length)=True:=eq_true (by omega)
   (try rw [show ((0:Int)).toNat=0 from rfl] at hx195_0)
   (try rw [show 0*4=0 from rfl] at hx195_0)
   (try rw [Addr.add_zero'] at hx195_0)
   (try rw [show ((0:Int)).toNat=0 from rfl] at hx195_1)
   (try rw [show 0*4=0 from rfl] at hx195_1)
   (try rw [Addr.add_zero'] at hx195_1)
   (try rw [show ((0:Int)).toNat=0 from rfl] at hx195_2)
   (try rw [show 0*4=0 from rfl] at hx195_2)
   (try rw [Addr.add_zero'] at hx195_2)
   (try rw [show ((0:Int)).toNat=0 from rfl] at hx195_3)
   (try rw [show 0*4=0 from rfl] at hx195_3)
   (try rw [Addr.add_zero'] at hx195_3)
   replace hx195_0:=(HB.out.cell (World.block_lt_of_cell? w _ hx195_0)).trans hx195_0
   replace hx195_1:=(HB.out.cell (World.block_lt_of_cell? w _ hx195_1)).trans hx195_1
   replace hx195_2:=(HB.out.cell (World.block_lt_of_cell? w _ hx195_2)).trans hx195_2
   replace hx195_3:=(HB.out.cell (World.block_lt_of_cell? w _ hx195_3)).trans hx195_3
   have HR195_3:=Aside0.mk hi195_3
   have HC195_3:=Aside0.mk hl195_3
   clear hi195_3 hl195_3
   replace p195:=eq_true p195
   replace q195:=eq_true q195
   refine Bv (n:=10) (S:=fun w'=>w'.cell? ⟨gb193,0,none⟩=some (.int .i64 A7)∧w'.cell? ⟨gb193,1,none⟩=some (.slice (some ad195) l0_1.length c0_1)∧w'.cell? ad195=some (.string ((AL l0_1 0).f0))∧w'.cell? ⟨ad195.block,ad195.off+1,none⟩=some (.int .i64 ((AL l0_1 0).f1))∧w'.cell? ⟨ad195.block,ad195.off+2,none⟩=some (.int .i64 ((AL l0_1 0).f2))∧w'.cell? ⟨ad195.block,ad195.off+3,none⟩=some (.slice A195_3 ((AL l0_1 0).f3).length c195_3)) (ds:=[]) #[false,false,false,false,false,false,false,false,false,false] (by kernel_rfl) rfl rfl ⟨(AK BK193.out 0).trans rfl,(AK BK193.out 1).trans rfl,((HB.out.cell (World.block_lt_of_cell? w _ hw195_0)).trans hw195_0),((HB.out.cell (World.block_lt_of_cell? w _ hw195_1)).trans hw195_1),((HB.out.cell (World.block_lt_of_cell? w _ hw195_2)).trans hw195_2),((HB.out.cell (World.block_lt_of_cell? w _ hw195_3)).trans hw195_3)⟩ (fun hHeld=> ?_); refine Bi AY.tab3 AY.bits3 (fun HT_ HW_=> ?_)
   generalize w7.drew=w8 at BK193 HB HR195_3 hx195_0 hx195_1 hx195_2 hx195_3 hHeld ⊢
   refine Aj (i:=1) (N:=some 11) (v:= ?_) (a':= ?_) #[false,true,false,false,false,false,false,false,false,false] rfl rfl (Ag HT_.out (by kernel_rfl)) (fun _ _ _ h=>h) (Or.inl ⟨by rfl,?_⟩) ?_ ?_
   rotate_left
   ·intro w'
    go_simp
    with_reducible rfl
   rotate_left
   ·simp only [Act.put,List.setIfInBounds_toArray,List.set_cons_zero,List.set_cons_succ,Ab,Ac]
    rfl
   refine Aj (i:=3) (N:=some 13) (v:= ?_) (a':= ?_) #[false,true,false,true,false,false,false,false,false,false] rfl rfl (Ag HT_.out (by kernel_rfl)) (fun _ _ _ h=>h) (Or.inl ⟨by rfl,?_⟩) ?_ ?_
   rotate_left
   ·intro w'
    go_simp
    with_reducible rfl
   rotate_left
   ·simp only [Act.put,List.setIfInBounds_toArray,List.set_cons_zero,List.set_cons_succ,Ab,Ac]
    rfl
   refine BB (i:=0) (N:=some 10) (v:= ?_) (a':= ?_) #[true,true,false,true,false,false,false,false,false,false] rfl rfl (B4 HT_.out HW_.out (by kernel_rfl)) (fun _ _ _ h=>h) (Or.inl ⟨by rfl,?_⟩) hHeld ?_ ?_
   rotate_left
   ·rintro w' ⟨s0,s1,s2,s3,s4,s5⟩
    go_simp
    with_reducible rfl
   rotate_left
   ·simp only [Act.put,List.setIfInBounds_toArray,List.set_cons_zero,List.set_cons_succ,Ab,Ac]
    rfl
   refine BB (i:=4) (N:=some 14) (v:= ?_) (a':= ?_) #[true,true,false,true,true,false,false,false,false,false] rfl rfl (B4 HT_.out HW_.out (by kernel_rfl)) (fun _ _ _ h=>h) (Or.inl ⟨by rfl,?_⟩) hHeld ?_ ?_
   rotate_left
   ·rintro w' ⟨s0,s1,s2,s3,s4,s5⟩
    go_simp
    with_reducible rfl
   rotate_left
   ·simp only [Act.put,List.setIfInBounds_toArray,List.set_cons_zero,List.set_cons_succ,Ab,Ac]
    rfl
   refine Aj (i:=5) (N:=some 15) (v:= ?_) (a':= ?_) #[true,true,false,true,true,true,false,false,false,false] rfl rfl (Ag HT_.out (by kernel_rfl)) (fun _ _ _ h=>h) (Or.inl ⟨by rfl,?_⟩) ?_ ?_
   rotate_left
   ·intro w'
    go_simp
    with_reducible rfl
   rotate_left
   ·simp only [Act.put,List.setIfInBounds_toArray,List.set_cons_zero,List.set_cons_succ,Ab,Ac]
    rfl
   refine Aj (i:=6) (N:=some 16) (v:= ?_) (a':= ?_) #[true,true,false,true,true,true,true,false,false,false] rfl rfl (Ag HT_.out (by kernel_rfl)) (fun _ _ _ h=>h) (Or.inl ⟨by rfl,?_⟩) ?_ ?_
   rotate_left
   ·intro w'
    go_simp
    with_reducible rfl
   rotate_left
   ·simp only [Act.put,List.setIfInBounds_toArray,List.set_cons_zero,List.set_cons_succ,Ab,Ac]
    rfl
   refine BB (i:=7) (N:=some 17) (v:= ?_) (a':= ?_) #[true,true,false,true,true,true,true,true,false,false] rfl rfl (B4 HT_.out HW_.out (by kernel_rfl)) (fun _ _ _ h=>h) (Or.inl ⟨by rfl,?_⟩) hHeld ?_ ?_
   rotate_left
   ·rintro w' ⟨s0,s1,s2,s3,s4,s5⟩
    go_simp
    with_reducible rfl
   rotate_left
   ·simp only [Act.put,List.setIfInBounds_toArray,List.set_cons_zero,List.set_cons_succ,Ab,Ac]
    rfl
   refine one_ (i:=2) (N:=some 12) #[true,true,true,true,true,true,true,true,false,false] rfl rfl (C1 HT_.out (by kernel_rfl)) (by decide) (fun K hK=> ?_)
   refine CR Try.func30 (by kernel_rfl) rfl #[.agg #[.int .i64 A7,.slice (some ad195) l0_1.length c0_1],.slice A1 l1.length c1,.int .i64 0] (by rfl) rfl rfl (by (try simp only [List.map_toArray,List.map_cons,List.map_nil]); first|done|rfl|(simp only [List.length_drop,List.length_take]; rfl)) ?_
   with_reducible refine (Aw.calls A7 _ _ l0_1 _ _ l1 0 t194 _ ?side1 ?side2 ?side3 ?side4 A5.out).mono ?_
   (case side1=>repeat (first|exact (Kd.C_below HR0_1.out HB.out)|(with_reducible refine Kd.C_alloc ?_ _)|(with_reducible refine Kd.C_drewN ?_ _)|(with_reducible refine Kd.C_drew ?_)))
   (case side2=>exact HC0_1.out)
   (case side3=>repeat (first|exact (Kd.C_below HR1.out HB.out)|(with_reducible refine Kd.C_alloc ?_ _)|(with_reducible refine Kd.C_drewN ?_ _)|(with_reducible refine Kd.C_drew ?_)))
   (case side4=>exact HC1.out)
   rintro e w9 ⟨rfl,hb⟩
   refine ⟨_,rfl,?_⟩
   have n0_:=Aside0.mk (AO (g:=gb193) (o:= .cells #[.int .i64 A7,.slice (some ad195) l0_1.length c0_1] 34 (0,0)) (by (with_reducible repeat (first|refine AF ?_ _|refine AI ?_|refine AG ?_ _)); exact BK193.out) hb)
   have n1_:=Aside0.mk (AN (by repeat (first|(with_reducible first|exact HB.out|apply AE|apply AC|apply AD|refine AH ?_ GE193.out)|exact HB.out)) hb)
   clear BK193
   clear HB
   have BK193:=n0_
   have HB:=n1_
   clear n0_ n1_
   (try clear hb)
   (try clear hb2)
   (try clear hk)
   (try clear hi)
   refine hK.out _ _ ⟨(AK BK193.out 0).trans rfl,(AK BK193.out 1).trans rfl,((HB.out.cell (World.block_lt_of_cell? w _ hw195_0)).trans hw195_0),((HB.out.cell (World.block_lt_of_cell? w _ hw195_1)).trans hw195_1),((HB.out.cell (World.block_lt_of_cell? w _ hw195_2)).trans hw195_2),((HB.out.cell (World.block_lt_of_cell? w _ hw195_3)).trans hw195_3)⟩ (fun hHeld=> ?_)
   clear hK K
   refine C2 (a':= ?_) ?_ ?_
   rotate_left
   ·show Act.put _ (some 12) _=_
    simp only [Act.put,List.setIfInBounds_toArray,List.set_cons_zero,List.set_cons_succ,Ab,Ac]
    rfl
   refine Aj (i:=8) (N:=some 18) (v:= ?_) (a':= ?_) #[true,true,true,true,true,true,true,true,true,false] rfl rfl (Ag HT_.out (by kernel_rfl)) (fun _ _ _ h=>h) (Or.inl ⟨by rfl,?_⟩) ?_ ?_
   rotate_left
   ·intro w'
    go_simp
    with_reducible rfl
   rotate_left
   ·simp only [Act.put,List.setIfInBounds_toArray,List.set_cons_zero,List.set_cons_succ,Ab,Ac]
    rfl
   refine Aj (i:=9) (N:=some 5) (v:= ?_) (a':= ?_) #[true,true,true,true,true,true,true,true,true,true] rfl rfl (Ag HT_.out (by kernel_rfl)) (fun _ _ _ h=>h) (Or.inl ⟨by rfl,?_⟩) ?_ ?_
   rotate_left
   ·intro w'
    go_simp
    with_reducible rfl
   rotate_left
   ·simp only [Act.put,List.setIfInBounds_toArray,List.set_cons_zero,List.set_cons_succ,Ab,Ac]
    rfl
   refine CD (C0 HT_.out (by kernel_rfl)) ?_
   try go_wp2
   go_loopg [5,21] k (fun kq v5 v21 w'=>∃(x5_1:Int) (x21_1:Int),v5= .int .i64 x5_1∧v21= .int .i64 x21_1∧Aside0 (AY.l0 kq l1 x5_1 (l1.length:Int) x21_1 A7 l0_1=some r)∧Aside0 (kq≤k)∧Aside0 (w'.heap[gb193]? =some (.cells #[.int .i64 A7,(.slice (some ad195) l0_1.length c0_1)] 34 (0,0)))∧Aside0 (Below w.heap.size w w'))
   case atStart=>exact ⟨(wrap64 (t194-((AL l0_1 0).f2))),(0),(by first|rfl|(simp; done)|(simp [*]; done)),(by first|rfl|(simp; done)|(simp [*]; done)),H',⟨Nat.le_refl _⟩,⟨by (with_reducible repeat (first|refine AF ?_ _|refine AI ?_|refine AG ?_ _)); exact BK193.out⟩,⟨by repeat (first|(with_reducible first|exact HB.out|apply AE|apply AC|apply AD|refine AH ?_ GE193.out)|exact HB.out)⟩⟩
   case round=>
    clear H'
    try clear c1
    try clear p1
    try clear q1
    try clear hx1
    try clear qi1
    try clear p2
    try clear c3
    try clear c3b0
    try clear c3b1
    try clear c3b2
    try clear c6
    try clear c6b0
    try clear c6b1
    try clear p6
    try clear hx195_0
    try clear hx195_1
    try clear hx195_2
    try clear hx195_3
    try clear p195
    try clear q195
    obtain ⟨x5_1,x21_1,rfl,rfl,HA,HK1,BK193,HB⟩:=hrel
    cases gk with
    |zero=>exact absurd HA.out (by simp [AY.l0])
    | succ k1 =>
     have H:=HA.out
     clear HA
     simp only [AY.l0] at H
     by_cases c10:x21_1<(l1.length:Int)
     ·rw [if_pos c10] at H
      have c10b0:decide (x21_1<(l1.length:Int))=true:=decide_eq_true c10
      clear c10
      replace H:=Option.bind_eq_some_iff.mp H
      obtain ⟨t196,A110,H⟩:=H
      replace H:(if 0≤x21_1 then (if x21_1<(l0_1.length:Int) then (AY.l0 k1 l1 (mx x5_1 (wrap64 (t196-((AL l0_1 x21_1).f2)))) (l1.length:Int) (wrap64 (x21_1+1)) A7 l0_1) else (none)) else (none))=some r:=H
      have A11:=Aside0.mk A110
      clear A110
      by_cases c12:0≤x21_1
      ·rw [if_pos c12] at H
       have c12b0:decide (0≤x21_1)=true:=decide_eq_true c12
       clear c12
       by_cases c13:x21_1<(l0_1.length:Int)
       ·rw [if_pos c13] at H
        have c13b0:decide (x21_1<(l0_1.length:Int))=true:=decide_eq_true c13
        clear c13
        obtain ⟨ji14,hji14⟩:∃j_:Int,(mx x5_1 (wrap64 (t196-((AL l0_1 x21_1).f2))))=j_:=⟨_,rfl⟩
        replace H:(AY.l0 k1 l1 ji14 (l1.length:Int) (wrap64 (x21_1+1)) A7 l0_1)=some r:=by first|(rw [hji14] at H; exact H)|(simp only [hji14] at H ⊢; exact H)
        (try rw [hji14] at A11)
        have hji14_:(if x5_1<(wrap64 (t196-((AL l0_1 x21_1).f2))) then (wrap64 (t196-((AL l0_1 x21_1).f2))) else x5_1)=ji14:=hji14
        have H':=Aside0.mk H
        clear H
        try go_wp2
        have n0_:=Aside0.mk (AI BK193.out)
        have n1_:=Aside0.mk (AD HB.out)
        clear BK193
        clear HB
        have BK193:=n0_
        have HB:=n1_
        clear n0_ n1_
        have p197:0≤(x21_1:Int):=of_decide_eq_true (by first|(with_reducible assumption)|assumption)
        have q197:x21_1<(l0_1.length:Int):=of_decide_eq_true (by first|(with_reducible assumption)|assumption)
        obtain ⟨ad197,A197_3,c197_3,e197,hx197_0,hx197_1,hx197_2,hx197_3,hl197_3,hi197_3⟩:=Bp HR0_1.out x21_1 p197 q197
        have hw197_3:=hx197_3
        have hw197_2:=hx197_2
        have hw197_1:=hx197_1
        have hw197_0:=hx197_0
        obtain rfl:ad195=ad197:=(by injection e197)
        replace hx197_0:=(HB.out.cell (World.block_lt_of_cell? w _ hx197_0)).trans hx197_0
        replace hx197_1:=(HB.out.cell (World.block_lt_of_cell? w _ hx197_1)).trans hx197_1
        replace hx197_2:=(HB.out.cell (World.block_lt_of_cell? w _ hx197_2)).trans hx197_2
        replace hx197_3:=(HB.out.cell (World.block_lt_of_cell? w _ hx197_3)).trans hx197_3
        have HR197_3:=Aside0.mk hi197_3
        have HC197_3:=Aside0.mk hl197_3
        clear hi197_3 hl197_3
        replace p197:=eq_true p197
        replace q197:=eq_true q197
        refine Bv (n:=14) (S:=fun w'=>w'.cell? ⟨gb193,0,none⟩=some (.int .i64 A7)∧w'.cell? ⟨gb193,1,none⟩=some (.slice (some ad195) l0_1.length c0_1)∧w'.cell? (ad195.add ((x21_1).toNat*4))=some (.string ((AL l0_1 x21_1).f0))∧w'.cell? ⟨(ad195.add ((x21_1).toNat*4)).block,(ad195.add ((x21_1).toNat*4)).off+1,none⟩=some (.int .i64 ((AL l0_1 x21_1).f1))∧w'.cell? ⟨(ad195.add ((x21_1).toNat*4)).block,(ad195.add ((x21_1).toNat*4)).off+2,none⟩=some (.int .i64 ((AL l0_1 x21_1).f2))∧w'.cell? ⟨(ad195.add ((x21_1).toNat*4)).block,(ad195.add ((x21_1).toNat*4)).off+3,none⟩=some (.slice A197_3 ((AL l0_1 x21_1).f3).length c197_3)) (ds:=[]) #[false,false,false,false,false,false,false,false,false,false,false,false,false,false] (by kernel_rfl) rfl rfl ⟨(AK BK193.out 0).trans rfl,(AK BK193.out 1).trans rfl,((HB.out.cell (World.block_lt_of_cell? w _ hw197_0)).trans hw197_0),((HB.out.cell (World.block_lt_of_cell? w _ hw197_1)).trans hw197_1),((HB.out.cell (World.block_lt_of_cell? w _ hw197_2)).trans hw197_2),((HB.out.cell (World.block_lt_of_cell? w _ hw197_3)).trans hw197_3)⟩ (fun hHeld=> ?_); refine Bi AY.tab7 AY.bits7 (fun HT_ HW_=> ?_)
        generalize wr.drew=w15 at BK193 HB HR197_3 hx197_0 hx197_1 hx197_2 hx197_3 hHeld ⊢
        refine Aj (i:=0) (N:=some 24) (v:= ?_) (a':= ?_) #[true,false,false,false,false,false,false,false,false,false,false,false,false,false] rfl rfl (Ag HT_.out (by kernel_rfl)) (fun _ _ _ h=>h) (Or.inl ⟨by rfl,?_⟩) ?_ ?_
        rotate_left
        ·intro w'
         go_simp
         with_reducible rfl
        rotate_left
        ·simp only [Act.put,List.setIfInBounds_toArray,List.set_cons_zero,List.set_cons_succ,Ab,Ac]
         rfl
        refine Aj (i:=2) (N:=some 26) (v:= ?_) (a':= ?_) #[true,false,true,false,false,false,false,false,false,false,false,false,false,false] rfl rfl (Ag HT_.out (by kernel_rfl)) (fun _ _ _ h=>h) (Or.inl ⟨by rfl,?_⟩) ?_ ?_
        rotate_left
        ·intro w'
         go_simp
         with_reducible rfl
        rotate_left
        ·simp only [Act.put,List.setIfInBounds_toArray,List.set_cons_zero,List.set_cons_succ,Ab,Ac]
         rfl
        refine Aj (i:=3) (N:=some 27) (v:= ?_) (a':= ?_) #[true,false,true,true,false,false,false,false,false,false,false,false,false,false] rfl rfl (Ag HT_.out (by kernel_rfl)) (fun _ _ _ h=>h) (Or.inl ⟨by rfl,?_⟩) ?_ ?_
        rotate_left
        ·intro w'
         go_simp
         with_reducible rfl
        rotate_left
        ·simp only [Act.put,List.setIfInBounds_toArray,List.set_cons_zero,List.set_cons_succ,Ab,Ac]
         rfl
        refine Aj (i:=5) (N:=some 29) (v:= ?_) (a':= ?_) #[true,false,true,true,false,true,false,false,false,false,false,false,false,false] rfl rfl (Ag HT_.out (by kernel_rfl)) (fun _ _ _ h=>h) (Or.inl ⟨by rfl,?_⟩) ?_ ?_
        rotate_left
        ·intro w'
         go_simp
         with_reducible rfl
        rotate_left
        ·simp only [Act.put,List.setIfInBounds_toArray,List.set_cons_zero,List.set_cons_succ,Ab,Ac]
         rfl
        refine Aj (i:=7) (N:=some 31) (v:= ?_) (a':= ?_) #[true,false,true,true,false,true,false,true,false,false,false,false,false,false] rfl rfl (Ag HT_.out (by kernel_rfl)) (fun _ _ _ h=>h) (Or.inl ⟨by rfl,?_⟩) ?_ ?_
        rotate_left
        ·intro w'
         go_simp
         with_reducible rfl
        rotate_left
        ·simp only [Act.put,List.setIfInBounds_toArray,List.set_cons_zero,List.set_cons_succ,Ab,Ac]
         rfl
        refine BB (i:=1) (N:=some 25) (v:= ?_) (a':= ?_) #[true,true,true,true,false,true,false,true,false,false,false,false,false,false] rfl rfl (B4 HT_.out HW_.out (by kernel_rfl)) (fun _ _ _ h=>h) (Or.inl ⟨by rfl,?_⟩) hHeld ?_ ?_
        rotate_left
        ·rintro w' ⟨s0,s1,s2,s3,s4,s5⟩
         go_simp
         with_reducible rfl
        rotate_left
        ·simp only [Act.put,List.setIfInBounds_toArray,List.set_cons_zero,List.set_cons_succ,Ab,Ac]
         rfl
        refine BB (i:=6) (N:=some 30) (v:= ?_) (a':= ?_) #[true,true,true,true,false,true,true,true,false,false,false,false,false,false] rfl rfl (B4 HT_.out HW_.out (by kernel_rfl)) (fun _ _ _ h=>h) (Or.inl ⟨by rfl,?_⟩) hHeld ?_ ?_
        rotate_left
        ·rintro w' ⟨s0,s1,s2,s3,s4,s5⟩
         go_simp
         with_reducible rfl
        rotate_left
        ·simp only [Act.put,List.setIfInBounds_toArray,List.set_cons_zero,List.set_cons_succ,Ab,Ac]
         rfl
        refine Aj (i:=8) (N:=some 32) (v:= ?_) (a':= ?_) #[true,true,true,true,false,true,true,true,true,false,false,false,false,false] rfl rfl (Ag HT_.out (by kernel_rfl)) (fun _ _ _ h=>h) (Or.inl ⟨by rfl,?_⟩) ?_ ?_
        rotate_left
        ·intro w'
         go_simp
         with_reducible rfl
        rotate_left
        ·simp only [Act.put,List.setIfInBounds_toArray,List.set_cons_zero,List.set_cons_succ,Ab,Ac]
         rfl
        refine Aj (i:=9) (N:=some 33) (v:= ?_) (a':= ?_) #[true,true,true,true,false,true,true,true,true,true,false,false,false,false] rfl rfl (Ag HT_.out (by kernel_rfl)) (fun _ _ _ h=>h) (Or.inl ⟨by rfl,?_⟩) ?_ ?_
        rotate_left
        ·intro w'
         go_simp
         with_reducible rfl
        rotate_left
        ·simp only [Act.put,List.setIfInBounds_toArray,List.set_cons_zero,List.set_cons_succ,Ab,Ac]
         rfl
        refine BB (i:=10) (N:=some 34) (v:= ?_) (a':= ?_) #[true,true,true,true,false,true,true,true,true,true,true,false,false,false] rfl rfl (B4 HT_.out HW_.out (by kernel_rfl)) (fun _ _ _ h=>h) (Or.inl ⟨by rfl,?_⟩) hHeld ?_ ?_
        rotate_left
        ·rintro w' ⟨s0,s1,s2,s3,s4,s5⟩
         go_simp
         with_reducible rfl
        rotate_left
        ·simp only [Act.put,List.setIfInBounds_toArray,List.set_cons_zero,List.set_cons_succ,Ab,Ac]
         rfl
        refine one_ (i:=4) (N:=some 28) #[true,true,true,true,true,true,true,true,true,true,true,false,false,false] rfl rfl (C1 HT_.out (by kernel_rfl)) (by decide) (fun K hK=> ?_)
        refine CR Try.func30 (by kernel_rfl) rfl #[.agg #[.int .i64 A7,.slice (some ad195) l0_1.length c0_1],.slice A1 l1.length c1,.int .i64 x21_1] (by rfl) rfl rfl (by (try simp only [List.map_toArray,List.map_cons,List.map_nil]); first|done|rfl|(simp only [List.length_drop,List.length_take]; rfl)) ?_
        with_reducible refine (Aw.calls A7 _ _ l0_1 _ _ l1 x21_1 t196 _ ?side1 ?side2 ?side3 ?side4 A11.out).mono ?_
        (case side1=>repeat (first|exact (Kd.C_below HR0_1.out HB.out)|(with_reducible refine Kd.C_alloc ?_ _)|(with_reducible refine Kd.C_drewN ?_ _)|(with_reducible refine Kd.C_drew ?_)))
        (case side2=>exact HC0_1.out)
        (case side3=>repeat (first|exact (Kd.C_below HR1.out HB.out)|(with_reducible refine Kd.C_alloc ?_ _)|(with_reducible refine Kd.C_drewN ?_ _)|(with_reducible refine Kd.C_drew ?_)))
        (case side4=>exact HC1.out)
        rintro e w16 ⟨rfl,hb⟩
        refine ⟨_,rfl,?_⟩
        have n0_:=Aside0.mk (AO (g:=gb193) (o:= .cells #[.int .i64 A7,.slice (some ad195) l0_1.length c0_1] 34 (0,0)) (by (with_reducible repeat (first|refine AF ?_ _|refine AI ?_|refine AG ?_ _)); exact BK193.out) hb)
        have n1_:=Aside0.mk (AN (by repeat (first|(with_reducible first|exact HB.out|apply AE|apply AC|apply AD|refine AH ?_ GE193.out)|exact HB.out)) hb)
        clear BK193
        clear HB
        have BK193:=n0_
        have HB:=n1_
        clear n0_ n1_
        (try clear hb)
        (try clear hb2)
        (try clear hk)
        (try clear hi)
        refine hK.out _ _ ⟨(AK BK193.out 0).trans rfl,(AK BK193.out 1).trans rfl,((HB.out.cell (World.block_lt_of_cell? w _ hw197_0)).trans hw197_0),((HB.out.cell (World.block_lt_of_cell? w _ hw197_1)).trans hw197_1),((HB.out.cell (World.block_lt_of_cell? w _ hw197_2)).trans hw197_2),((HB.out.cell (World.block_lt_of_cell? w _ hw197_3)).trans hw197_3)⟩ (fun hHeld=> ?_)
        clear hK K
        refine C2 (a':= ?_) ?_ ?_
        rotate_left
        ·show Act.put _ (some 28) _=_
         simp only [Act.put,List.setIfInBounds_toArray,List.set_cons_zero,List.set_cons_succ,Ab,Ac]
         rfl
        refine Aj (i:=11) (N:=some 35) (v:= ?_) (a':= ?_) #[true,true,true,true,true,true,true,true,true,true,true,true,false,false] rfl rfl (Ag HT_.out (by kernel_rfl)) (fun _ _ _ h=>h) (Or.inl ⟨by rfl,?_⟩) ?_ ?_
        rotate_left
        ·intro w'
         go_simp
         with_reducible rfl
        rotate_left
        ·simp only [Act.put,List.setIfInBounds_toArray,List.set_cons_zero,List.set_cons_succ,Ab,Ac]
         rfl
        refine Aj (i:=12) (N:=some 36) (v:= ?_) (a':= ?_) #[true,true,true,true,true,true,true,true,true,true,true,true,true,false] rfl rfl (Ag HT_.out (by kernel_rfl)) (fun _ _ _ h=>h) (Or.inl ⟨by rfl,?_⟩) ?_ ?_
        rotate_left
        ·intro w'
         go_simp
         with_reducible rfl
        rotate_left
        ·simp only [Act.put,List.setIfInBounds_toArray,List.set_cons_zero,List.set_cons_succ,Ab,Ac]
         rfl
        refine Aj (i:=13) (N:=some 5) (v:= ?_) (a':= ?_) #[true,true,true,true,true,true,true,true,true,true,true,true,true,true] rfl rfl (Ag HT_.out (by kernel_rfl)) (fun _ _ _ h=>h) (Or.inl ⟨by rfl,?_⟩) ?_ ?_
        rotate_left
        ·intro w'
         go_simp
         with_reducible rfl
        rotate_left
        ·simp only [Act.put,List.setIfInBounds_toArray,List.set_cons_zero,List.set_cons_succ,Ab,Ac]
         rfl
        refine CD (C0 HT_.out (by kernel_rfl)) ?_
        try go_wp2
        go_roundg k1
        case measure=>have:=HK1.out; omega
        case rel=>exact ⟨(ji14),(wrap64 (x21_1+1)),(by first|rfl|(simp; done)|(simp only [←hji14]<;>(first|rfl|simp))|(simp [*]; done)),(by first|rfl|(simp; done)|(simp [*]; done)),H',⟨by have:=HK1.out; omega⟩,⟨by (with_reducible repeat (first|refine AF ?_ _|refine AI ?_|refine AG ?_ _)); exact BK193.out⟩,⟨by repeat (first|(with_reducible first|exact HB.out|apply AE|apply AC|apply AD|refine AH ?_ GE193.out)|exact HB.out)⟩⟩
       ·rw [if_neg c13] at H
        exact absurd H (by simp)
      ·rw [if_neg c12] at H
       exact absurd H (by simp)
     ·rw [if_neg c10] at H
      have c10b0:decide (x21_1<(l1.length:Int))=false:=decide_eq_false c10
      clear c10
      obtain rfl:=Option.some.inj H
      go_wp2
      go_ret
      exact ⟨by first|rfl|(simp [AU,AT]<;>rfl)|(simp [*,AU,AT]<;>rfl),by repeat (first|(with_reducible first|exact HB.out|apply AE|apply AC|apply AD|refine AH ?_ GE193.out)|exact HB.out)⟩
  ·rw [if_neg c6] at H
   exact absurd H (by simp)
def BA.f (l0:List Int):Option (List Int):=if (l0.length:Int)=0 then (some ([]:List Int)) else ((some (([]:List Int):List Int)).bind fun y198=>(if y198.length+l0.length<17592186044416 then (some (y198++l0)) else (none)))
set_option maxHeartbeats 8000000 in
theorem BA.calls (A0:Option Addr) (c0:Nat) (l0:List Int) (r:List Int) (w:World) (hr0:Kd.C (Kd.int .i64) w A0 l0.length l0) (hc0:l0.length≤c0) (h:BA.f l0=some r) (hz:l0.length=0→A0=none):
  Calls Try.prog 34 #[.slice A0 l0.length c0] w fun e w'=>∃v0_:Value,e= .returned (v0_)∧Kd.R (Kd.int .i64) 3 w' w.heap.size (fun _=>True) v0_ r∧Below w.heap.size w w':=by
 have HR0:=Aside0.mk hr0
 have HC0:=Aside0.mk hc0
 clear hr0 hc0
 have HB:=Aside0.mk (Below.refl w.heap.size w)
 have H:(if (l0.length:Int)=0 then (some ([]:List Int)) else ((some (([]:List Int):List Int)).bind fun y198=>(if y198.length+l0.length<17592186044416 then (some (y198++l0)) else (none))))=some r:=h
 clear h
 by_cases c2:(l0.length:Int)=0
 ·rw [if_pos c2] at H
  obtain rfl:=hz (by omega)
  have hen:=fun w=>Lib.run_eql_slice_nil (P:=Try.prog) w 26 3 none l0.length c0 0 0 Try.underlying26
  simp only [Option.isNone_none] at hen
  have c2b0:((l0.length:Int)==0)=true:=beq_iff_eq.mpr c2
  have c2b1:((l0.length:Int) !=0)=false:=bne_eq_false_iff_eq.mpr c2
  clear c2
  obtain rfl:=Option.some.inj H
  go_enter Try.func34,Try.ntmps34
  go_wp2
  go_ret
  exact ⟨_,by first|rfl|(simp [AU,AT]<;>rfl)|(simp [*,AU,AT]<;>rfl),by first|exact Kd.R_nil _ _ _ _ _|exact Kd.N_nil _ _ _ _ _|exact Kd.V_nil _ _ _ _ _|exact Kd.Q_nil _ _ _ _ _|exact Kd.S_nil _ _ _ _ _,by repeat (first|(with_reducible first|exact HB.out|apply AE|apply AC|apply AD)|exact HB.out)⟩
 ·rw [if_neg c2] at H
  obtain ⟨ad_,rfl,_⟩:=HR0.out.2.2 (by omega)
  clear hz
  have hen:=fun w=>Lib.run_eql_slice_nil (P:=Try.prog) w 26 3 (some ad_) l0.length c0 0 0 Try.underlying26
  simp only [Option.isNone_some] at hen
  have c2b0:((l0.length:Int)==0)=false:=beq_eq_false_iff_ne.mpr c2
  have c2b1:((l0.length:Int) !=0)=true:=bne_iff_ne.mpr c2
  have c2b2:¬(l0=[]):=fun h_=>c2 (by rw [h_]; rfl)
  obtain ⟨y198,hy198⟩:∃y_:List Int,y_=(([]:List Int)):=⟨_,rfl⟩
  replace H:(if y198.length+l0.length<17592186044416 then (some (y198++l0)) else (none))=some r:=by first|(rw [hy198]; with_reducible exact H)|(have H2_:=(Option.bind_some _ _).symm.trans H; rw [hy198]; with_reducible exact H2_)|(have H2_:=(Option.bind_some _ _).symm.trans H; with_reducible exact H2_)|with_reducible exact H|(rw [hy198]; exact H)|exact H
  have Ny198:=Aside0.mk hy198
  clear hy198
  by_cases c3:y198.length+l0.length<17592186044416
  ·rw [if_pos c3] at H
   have LMc3:=Aside0.mk c3
   clear c3
   obtain ⟨y201,hy201⟩:∃y_:List Int,y_=(y198++l0):=⟨_,rfl⟩
   replace H:(some y201)=some r:=by first|(rw [hy201]; with_reducible exact H)|(have H2_:=(Option.bind_some _ _).symm.trans H; rw [hy201]; with_reducible exact H2_)|(have H2_:=(Option.bind_some _ _).symm.trans H; with_reducible exact H2_)|with_reducible exact H|(rw [hy201]; exact H)|exact H
   have Ny201:=Aside0.mk hy201
   clear hy201
   obtain rfl:=Option.some.inj H
   go_enter Try.func34,Try.ntmps34
   go_wp2_with (first|((with_reducible refine Ah (N:=5) rfl ?_); refine Kd.R_lit (Kd.int .i64) _ 3 ?hg (N:=5) ?hd (xs:=([]:List Int)) (inner:=[]) (ok:=fun _=>True) (okp:=fun _=>True) ?hr ?hp (fun _ hk=>hk) trivial (Below.refl _ _) (Nat.le_refl _) (by simp) ?_; (case hd=>rfl); (case hg=>rfl); (case hr=>first|(go_simp; done)|(go_simp; rfl)); (case hp=>exact (Reps.none _ _)); intro v199 w4 ho5 hb hg_ hnew_; clear hg_ hnew_; (first|rw [←Ny198.out] at ho5|(simp only [Int.reduceToNat] at ho5; rw [←Ny198.out] at ho5)); have n0_:=Aside0.mk (Kd.R_lower ho5 (AP (by repeat (first|(with_reducible first|exact HB.out|apply AE|apply AC|apply AD)|exact HB.out)))); have n1_:=Aside0.mk (AN (by repeat (first|(with_reducible first|exact HB.out|apply AE|apply AC|apply AD)|exact HB.out)) hb); clear HB; have HO200:=n0_; have HB:=n1_; clear n0_ n1_; clear hb ho5)|((with_reducible refine Br (b:= .append) (xs:= #[.tmp 5,.tmp 6]) rfl ?_); at_builtin; refine Kd.R_append_rows (Kd.int .i64) (w0:=w) w.heap.size rfl (.tmp 5) (.tmp 6) 26 3 (.int .i64 0) 8 rfl Try.underlying26 info3 rfl (by decide) (by omega) v199 y198 l0 _ _ _ (fun _=>True) (fun _=>False) rfl rfl ?aO ?aR (fun _ _ h=>h) (fun _ h=>h.elim) ?aF ?aB ?aS ?aL ?_; (case aR=>repeat (first|exact (Kd.C_below HR0.out HB.out)|(with_reducible refine Kd.C_alloc ?_ _)|(with_reducible refine Kd.C_drewN ?_ _)|(with_reducible refine Kd.C_drew ?_))); (case aB=>exact (by repeat (first|(with_reducible first|exact HB.out|apply AE|apply AC|apply AD)|exact HB.out))); (case aF=>exact (fun _ _=>trivial)); (case aO=>exact (by (with_reducible repeat (first|apply Kd.R_alloc|apply Kd.R_drewN|apply Kd.R_drew)); exact HO200.out)); (case aS=>exact (AP (by repeat (first|(with_reducible first|exact HB.out|apply AE|apply AC|apply AD)|exact HB.out)))); (case aL=>have:=LMc3.out; omega); intro v202 w6 ho hb hg hat; rw [←Ny201.out] at ho; have n0_:=Aside0.mk (hb); have n1_:=Aside0.mk (ho); clear HB; clear HO200; have HB:=n0_; have HO203:=n1_; clear n0_ n1_; clear ho hb hg hat))
   go_ret
   exact ⟨_,by first|rfl|(simp [AU,AT]<;>rfl)|(simp [*,AU,AT]<;>rfl),by (with_reducible repeat (first|apply Kd.R_alloc|apply Kd.R_drewN|apply Kd.R_drew)); exact HO203.out,by repeat (first|(with_reducible first|exact HB.out|apply AE|apply AC|apply AD)|exact HB.out)⟩
  ·rw [if_neg c3] at H
   exact absurd H (by simp)
def Ax.f (k:Nat) (l0:List Int) (a1:Int):Option (Bool):=(AZ.f k l0 a1).bind fun t204=>(some (decide (t204≥0)))
theorem Ax.mono:∀a0 a1 k,LeO (Ax.f k a0 a1) (Ax.f (k+1) a0 a1):=by
 intro a0 a1 k
 unfold Ax.f
 repeat' first
  |(with_reducible exact AZ.mono _ _ _)
  |(with_reducible exact LeO.refl _)
  |(with_reducible exact LeO.none _)
  |(with_reducible refine LeO.ite ?_ ?_)
  |(with_reducible refine LeO.bind ?_ (fun _=> ?_))
  |exact AZ.mono _ _ _
  |exact LeO.none _
  |refine LeO.ite ?_ ?_
  |refine LeO.bind ?_ (fun _=> ?_)
set_option maxHeartbeats 8000000 in
theorem Ax.calls (k:Nat) (A0:Option Addr) (c0:Nat) (l0:List Int) (a1:Int) (r:Bool) (w:World) (hr0:Kd.C (Kd.int .i64) w A0 l0.length l0) (hc0:l0.length≤c0) (h:Ax.f k l0 a1=some r):
  Calls Try.prog 35 #[.slice A0 l0.length c0,.int .i64 a1] w fun e w'=>e= .returned (.bool r)∧Drawn0 w w':=by
 have HR0:=Aside0.mk hr0
 have HC0:=Aside0.mk hc0
 clear hr0 hc0
 have H:((AZ.f k l0 a1).bind fun t204=>(some (decide (t204≥0))))=some r:=h
 clear h
 replace H:=Option.bind_eq_some_iff.mp H
 obtain ⟨t204,A30,H⟩:=H
 replace H:(some (decide (t204≥0)))=some r:=H
 have A3:=Aside0.mk A30
 clear A30
 obtain rfl:=Option.some.inj H
 go_enter Try.func35,Try.ntmps35
 go_wp2_with (first|((with_reducible refine AR (f:=53) rfl ?_); refine Ap (some 7) rfl rfl Try.func53 (by kernel_rfl) rfl #[.slice A0 l0.length c0,.int .i64 a1] rfl (by (try simp only [List.map_toArray,List.map_cons,List.map_nil]); first|done|rfl|(simp only [List.length_drop,List.length_take]; rfl)) ?_; (with_reducible refine (AZ.calls k _ _ l0 a1 t204 _ ?side1 ?side2 A3.out).mono ?_); (case side1=>repeat (first|exact HR0.out|(with_reducible refine Kd.C_alloc ?_ _)|(with_reducible refine Kd.C_drewN ?_ _)|(with_reducible refine Kd.C_drew ?_))); (case side2=>exact HC0.out); rintro e w' ⟨rfl,⟨nd,rfl⟩⟩; refine ⟨_,rfl,?_⟩))
 go_ret
 exact ⟨by first|rfl|(simp; done)|(simp [*]; done),by repeat (first|exact Drawn0.refl _|apply Drawn0.step)⟩
end Go.Proofs.Ytdadecjefafflaa.PAll
end
section
namespace Go.Proofs.Ytdadecjefafflaa.PAll
set_option maxRecDepth 100000
open Go.RowKit Go.Proofs.YtdadecjefafflaaW.PrintWords Go.Proofs.YtdadecjefafflaaW.PrintLast Go.Proofs.YtdadecjefafflaaW.PrintMore
attribute [local go_sem] BU BS Be Bd BH BG BT BR
abbrev BSt:=List Int×Int×Bool
def Dj (k:Nat) (l:List Int) (ext:List Int→BSt→Option BSt):Nat→Nat→BSt→Option BSt
 |0,_,st=>some st
 |r+1,i,st=>(Ax.f k l i).bind fun b=>if b=true then Dj k l ext r (i+1) st else (ext (l++[(i:Int)]) st).bind fun st'=>Dj k l ext r (i+1) st'
def bExt (k:Nat) (m:Int) (ts:List S64) (n:Int):Nat→List Int→BSt→Option BSt
 |0,_,_=>none
 | d+1,l,st=>if (l.length:Int)=n then (AW.f k m ts l).bind fun s=>(AY.f k m ts s).bind fun x=>if (!st.2.2||decide (x<st.2.1))=true then (BA.f l).bind fun y=>some (y,x,true) else some st
  else Dj k l (bExt k m ts n d) n.toNat 0 st
def DD (k:Nat) (m:Int) (ts:List S64) (n:Int) (d:Nat) (l:List Int) (i r:Nat) (st:BSt):Option BSt:=Dj k l (bExt k m ts n d) r i st
theorem CT (k:Nat) (m:Int) (ts:List S64) (n:Int) (d:Nat) (l:List Int) (i:Nat) (st:BSt):DD k m ts n d l i 0 st=some st:=rfl
theorem CU (k:Nat) (m:Int) (ts:List S64) (n:Int) (d:Nat) (l:List Int) (i r:Nat) (st:BSt):DD k m ts n d l i (r+1) st=(Ax.f k l i).bind fun b=>if b=true then DD k m ts n d l (i+1) r st else (bExt k m ts n d (l++[(i:Int)]) st).bind fun st'=>DD k m ts n d l (i+1) r st':=rfl
structure BCtx where
 m:Int
 A:Option Addr
 c:Nat
 ts:List S64
 n:Int
 gn:Nat
 gp:Nat
 gf:Nat
 gl:Nat
 go:Nat
 ge:Nat
def BCtx.caps (X:BCtx):Array Value:= #[.pointer (some ⟨X.gn,0,none⟩),.pointer (some ⟨X.gp,0,none⟩),.pointer (some ⟨X.gf,0,none⟩),.pointer (some ⟨X.gl,0,none⟩),.pointer (some ⟨X.go,0,none⟩),.pointer (some ⟨X.ge,0,none⟩)]
structure BInv (X:BCtx) (w0 W:World) (st:BSt):Prop where
 n:W.heap[X.gn]? =some (.cells #[.int .i64 X.n] 3 (0,0))
 p:W.heap[X.gp]? =some (.cells #[.int .i64 X.m,.slice X.A X.ts.length X.c] 34 (0,0))
 f:W.heap[X.gf]? =some (.cells #[.bool st.2.2] 4 (0,0))
 l:W.heap[X.gl]? =some (.cells #[.int .i64 st.2.1] 3 (0,0))
 o:∃vo,W.heap[X.go]? =some (.cells #[vo] 26 (0,0))∧Kd.R (Kd.int .i64) 3 W w0.heap.size (fun k=>k≠X.gn∧k≠X.gl) vo st.1
 e:W.heap[X.ge]? =some (.cells #[.func (.func 32) #[] X.caps] 69 (0,0))
 b:Below w0.heap.size w0 W
 nl:X.gn≠X.gl
 bf:w0.heap.size≤X.gf
 bl:w0.heap.size≤X.gl
 bo:w0.heap.size≤X.go
 ts:Kd.C k64 w0 X.A X.ts.length X.ts
 tc:X.ts.length≤X.c
def BCtx.S (X:BCtx) (k:Nat):Prop:=k=X.gf∨k=X.gl∨k=X.go
theorem BInv.below {X:BCtx} {w0 W V:World} {st:BSt} (h:BInv X w0 W st) (hb:Below W.heap.size W V):BInv X w0 V st:=by
 obtain ⟨vo,ho1,ho2⟩:=h.o
 exact ⟨AO h.n hb,AO h.p hb,AO h.f hb,AO h.l hb,⟨vo,AO ho1 hb,Kd.R_below ho2 hb⟩,AO h.e hb,Bh h.b h.b.size hb,h.nl,h.bf,h.bl,h.bo,h.ts,h.tc⟩
structure BL (X:BCtx) (W:World) (A:Option Addr) (c:Nat) (l:List Int):Prop where
 r:Kd.C (Kd.int .i64) W A l.length l
 cc:l.length≤c
 z:l.length=0→A=none∧c=0
 k:∀ad,A=some ad→¬X.S ad.block
theorem BL.kept {X:BCtx} {W V:World} {A:Option Addr} {c:Nat} {l:List Int} (h:BL X W A c l) (hk:Kept W V X.S):BL X V A c l:=
 ⟨Kd.C_foot_neS (fun h=>h) h.r (fun ad he _=>h.k ad he) V hk,h.cc,h.z,h.k⟩
theorem CE {W:World} {a b:Nat} {ca cb:Array Value} {ta tb:TypeId} (h1:W.heap[a]? =some (.cells ca ta (0,0))) (h2:W.heap[b]? =some (.cells cb tb (0,0))) (ht:ta≠tb):a≠b:=fun e=>by
 subst e; rw [h1] at h2; injection h2 with h2; injection h2 with _ h3; exact ht h3
theorem BInv.ne {X:BCtx} {w0 W:World} {st:BSt} (h:BInv X w0 W st):X.gf≠X.go∧X.gf≠X.gl∧X.gl≠X.go:=by
 obtain ⟨vo,ho1,ho2⟩:=h.o
 exact ⟨CE h.f ho1 (by decide),CE h.f h.l (by decide),CE h.l ho1 (by decide)⟩
theorem BInv.put {X:BCtx} {w0 W:World} {st:BSt} (h:BInv X w0 W st) {vy:Value} {y:List Int} (x:Int) (hy:Kd.R (Kd.int .i64) 3 W w0.heap.size (fun k=>k≠X.gn∧k≠X.gl∧k≠X.gf∧k≠X.go) vy y):
  BInv X w0 (((W.setCell ⟨X.go,0,none⟩ vy).setCell ⟨X.gl,0,none⟩ (.int .i64 x)).setCell ⟨X.gf,0,none⟩ (.bool true)) (y,x,true)∧Kept W (((W.setCell ⟨X.go,0,none⟩ vy).setCell ⟨X.gl,0,none⟩ (.int .i64 x)).setCell ⟨X.gf,0,none⟩ (.bool true)) X.S:=by
 obtain ⟨vo,ho1,ho2⟩:=h.o
 have hne:∀ {a b:Nat} {ca cb:Array Value} {ta tb:TypeId},W.heap[a]? =some (.cells ca ta (0,0))→W.heap[b]? =some (.cells cb tb (0,0))→ta≠tb→a≠b:=fun h1 h2 ht e=>by
  subst e; rw [h1] at h2; injection h2 with h2; injection h2 with _ h3; exact ht h3
 have e1:=hne h.n h.f (by decide); have e2:=hne h.n ho1 (by decide); have e3:=h.nl
 have e4:=hne h.p h.f (by decide); have e5:=hne h.p ho1 (by decide); have e6:=hne h.p h.l (by decide)
 have e7:=hne h.e h.f (by decide); have e8:=hne h.e ho1 (by decide); have e9:=hne h.e h.l (by decide)
 have f1:=hne h.f ho1 (by decide); have f2:=hne h.f h.l (by decide); have f3:=hne h.l ho1 (by decide)
 refine ⟨⟨?_,?_,?_,?_,⟨vy,?_,?_⟩,?_,?_,h.nl,h.bf,h.bl,h.bo,h.ts,h.tc⟩,?_⟩
 ·exact AX (AX (AX h.n e2 _) e3 _) e1 _
 ·exact AX (AX (AX h.p e5 _) e6 _) e4 _
 ·exact An (cs:= #[.bool st.2.2]) (AX (AX h.f f1 _) f2 _) 0 _ rfl
 ·exact AX (An (cs:= #[.int .i64 st.2.1]) (AX h.l f3 _) 0 _ rfl) (fun e=>f2 e.symm) _
 ·exact AX (AX (An (cs:= #[vo]) ho1 0 _ rfl) (fun e=>f3 e.symm) _) (fun e=>f1 e.symm) _
 ·exact Kd.R_mono (Kd.R_far (p:=⟨X.gf,0,none⟩) (Kd.R_far (p:=⟨X.gl,0,none⟩) (Kd.R_far (p:=⟨X.go,0,none⟩) hy (fun k hk=>hk.2.2.2) vy) (fun k hk=>hk.2.1) _) (fun k hk=>hk.2.2.1) _) (fun k hk=>⟨hk.1,hk.2.1⟩)
 ·exact AX (AX (AX h.e e8 _) e9 _) e7 _
 ·exact AH (AH (AH h.b h.bo) h.bl) h.bf
 ·exact Kept.setCell (Kept.setCell (Kept.setCell (Kept.refl W _) (.inl (.inr (.inr rfl))) _) (.inl (.inr (.inl rfl))) _) (.inl (.inl rfl)) _
def bLeaf (k:Nat) (m:Int) (ts:List S64) (l:List Int) (st:BSt):Option BSt:=(AW.f k m ts l).bind fun s=>(AY.f k m ts s).bind fun x=>if (!st.2.2||decide (x<st.2.1))=true then (BA.f l).bind fun y=>some (y,x,true) else some st
theorem F0 (X:BCtx) (w0 W:World) (k:Nat) (l:List Int) (A:Option Addr) (c:Nat) (st st':BSt) (hI:BInv X w0 W st) (hL:BL X W A c l) (hn:(l.length:Int)=X.n) (h:bLeaf k X.m X.ts l st=some st'):
  Calls Try.prog 32 (#[.slice A l.length c]++X.caps) W fun e w'=>e= .returned (.tuple #[])∧BInv X w0 w' st'∧Kept W w' X.S:=by
 show Calls Try.prog 32 #[.slice A l.length c,.pointer (some ⟨X.gn,0,none⟩),.pointer (some ⟨X.gp,0,none⟩),.pointer (some ⟨X.gf,0,none⟩),.pointer (some ⟨X.gl,0,none⟩),.pointer (some ⟨X.go,0,none⟩),.pointer (some ⟨X.ge,0,none⟩)] W _
 unfold bLeaf at h
 rw [Option.bind_eq_some_iff] at h
 obtain ⟨s,hs,h⟩:=h
 rw [Option.bind_eq_some_iff] at h
 obtain ⟨x,hx,h⟩:=h
 have HI:=Aside0.mk hI
 have HL:=Aside0.mk hL
 have HS:=Aside0.mk hs
 have HX:=Aside0.mk hx
 have HH:=Aside0.mk h
 have n0:W.cell? ⟨X.gn,0,none⟩=some (.int .i64 X.n):=(AK hI.n 0).trans rfl
 have c1:((l.length:Int)==X.n)=true:=beq_iff_eq.mpr hn
 clear hI hL hs hx h hn
 go_enter Try.func32,Try.ntmps32
 go_wp2
 refine Bv (n:=6) (S:=fun w'=>w'.cell? ⟨X.gp,0,none⟩=some (.int .i64 X.m)∧w'.cell? ⟨X.gp,1,none⟩=some (.slice X.A X.ts.length X.c)) (ds:=[]) #[false,false,false,false,false,false] (by kernel_rfl) rfl rfl ⟨(AK HI.out.p 0).trans rfl,(AK HI.out.p 1).trans rfl⟩ (fun hHeld=> ?_)
 have HI1:=Aside0.mk (HI.out.below (AD (Below.refl _ _)))
 have HK:=Aside0.mk (Kept.drew (Kept.refl W X.S))
 clear n0
 generalize W.drew=W1 at hHeld HI1 HK ⊢
 refine Aj (i:=2) (N:=some 16) (v:= ?_) (a':= ?_) #[false,false,true,false,false,false] rfl rfl (by kernel_rfl) (fun _ _ _ h=>h) (Or.inl ⟨by rfl,?_⟩) ?_ ?_
 rotate_left
 ·intro w'
  go_simp
  with_reducible rfl
 rotate_left
 ·simp only [Act.put,List.setIfInBounds_toArray,List.set_cons_zero,List.set_cons_succ,Ab,Ac]
  rfl
 refine BB (i:=0) (N:=some 14) (v:= ?_) (a':= ?_) #[true,false,true,false,false,false] rfl rfl (by kernel_rfl) (fun _ _ _ h=>h) (Or.inl ⟨by rfl,?_⟩) hHeld ?_ ?_
 rotate_left
 ·rintro w' ⟨s0,s1⟩
  go_simp
  with_reducible rfl
 rotate_left
 ·simp only [Act.put,List.setIfInBounds_toArray,List.set_cons_zero,List.set_cons_succ,Ab,Ac]
  rfl
 refine BB (i:=1) (N:=some 15) (v:= ?_) (a':= ?_) #[true,true,true,false,false,false] rfl rfl (by kernel_rfl) (fun _ _ _ h=>h) (Or.inl ⟨by rfl,?_⟩) hHeld ?_ ?_
 rotate_left
 ·rintro w' ⟨s0,s1⟩
  go_simp
  with_reducible rfl
 rotate_left
 ·simp only [Act.put,List.setIfInBounds_toArray,List.set_cons_zero,List.set_cons_succ,Ab,Ac]
  rfl
 refine one_ (i:=3) (N:=some 17) #[true,true,true,true,false,false] rfl rfl (by kernel_rfl) (by decide) (fun K hK=> ?_)
 refine CR Try.func31 (by kernel_rfl) rfl #[.agg #[.int .i64 X.m,.slice X.A X.ts.length X.c],.slice A l.length c] (by rfl) rfl rfl (by (try simp only [List.map_toArray,List.map_cons,List.map_nil]); first|done|rfl) ?_
 refine (AW.calls k X.m X.A X.c X.ts A c l s W1 (Kd.C_below HI.out.ts HI1.out.b) HI.out.tc (HL.out.kept HK.out).r HL.out.cc HS.out).mono ?_
 rintro e W2 ⟨v1,rfl,ho,hb⟩
 refine ⟨_,rfl,?_⟩
 have HI2:=Aside0.mk (HI1.out.below hb)
 have HK2:=Aside0.mk (HK.out.below hb)
 have HO:=Aside0.mk ho
 clear hb ho
 refine hK.out _ _ ⟨(AK HI2.out.p 0).trans rfl,(AK HI2.out.p 1).trans rfl⟩ (fun hHeld=> ?_)
 clear hK K
 refine C2 (a':= ?_) ?_ ?_
 rotate_left
 ·show Act.put _ (some 17) _=_
  simp only [Act.put,List.setIfInBounds_toArray,List.set_cons_zero,List.set_cons_succ,Ab,Ac]
  rfl
 obtain ⟨As,cs,es⟩:=Kd.R_slice HO.out
 subst es
 refine one_ (i:=4) (N:=some 18) #[true,true,true,true,true,false] rfl rfl (by kernel_rfl) (by decide) (fun K hK=> ?_)
 refine CR Try.func33 (by kernel_rfl) rfl #[.agg #[.int .i64 X.m,.slice X.A X.ts.length X.c],.slice As s.length cs] (by rfl) rfl rfl (by (try simp only [List.map_toArray,List.map_cons,List.map_nil]); first|done|rfl) ?_
 refine (AY.calls k X.m X.A X.c X.ts As cs s x W2 (Kd.C_below HI.out.ts HI2.out.b) HI.out.tc (Kd.R_reads' HO.out).2.2 (Kd.R_reads' HO.out).2.1 HX.out).mono ?_
 rintro e W3 ⟨rfl,hb⟩
 refine ⟨_,rfl,?_⟩
 have HI3:=Aside0.mk (HI2.out.below hb)
 have HK3:=Aside0.mk (HK2.out.below hb)
 clear hb
 refine hK.out _ _ ⟨(AK HI3.out.p 0).trans rfl,(AK HI3.out.p 1).trans rfl⟩ (fun hHeld=> ?_)
 clear hK K
 refine C2 (a':= ?_) ?_ ?_
 rotate_left
 ·show Act.put _ (some 18) _=_
  simp only [Act.put,List.setIfInBounds_toArray,List.set_cons_zero,List.set_cons_succ,Ab,Ac]
  rfl
 refine Aj (i:=5) (N:=some 8) (v:= ?_) (a':= ?_) #[true,true,true,true,true,true] rfl rfl (by kernel_rfl) (fun _ _ _ h=>h) (Or.inl ⟨by rfl,?_⟩) ?_ ?_
 rotate_left
 ·intro w'
  go_simp
  with_reducible rfl
 rotate_left
 ·simp only [Act.put,List.setIfInBounds_toArray,List.set_cons_zero,List.set_cons_succ,Ab,Ac]
  rfl
 refine CD (by kernel_rfl) ?_
 clear HI1 HI2 HK HK2 HO
 have f0:W3.cell? ⟨X.gf,0,none⟩=some (.bool st.2.2):=(AK HI3.out.f 0).trans rfl
 have l0:W3.cell? ⟨X.gl,0,none⟩=some (.int .i64 st.2.1):=(AK HI3.out.l 0).trans rfl
 have HI3':=HI3
 by_cases hf:(!st.2.2||decide (x<st.2.1))=true
 ·have hh:=HH.out
  rw [if_pos hf,Option.bind_eq_some_iff] at hh
  obtain ⟨y,hy,hst⟩:=hh
  cases hst
  have HY:=Aside0.mk hy
  clear HH hy
  cases h1:st.2.2 with
  | false=>
   rw [h1] at f0
   clear hf
   go_wp2_with (first|(go_at_call 34; (refine (BA.calls A c l y _ (HL.out.kept HK3.out).r HL.out.cc HY.out (fun h=>(HL.out.z h).1)).mono ?_); rintro e W4 ⟨v2,rfl,ho,hb⟩; have HI4:=Aside0.mk (HI3.out.below hb); have HK4:=Aside0.mk (HK3.out.below hb); have HO:=Aside0.mk ho; clear hb ho HI3 f0 l0; obtain ⟨Ay,cy,ey⟩:=Kd.R_slice HO.out; subst ey; obtain ⟨vo,ho1,ho2⟩:=HI4.out.o; have f1:W4.cell? ⟨X.gf,0,none⟩=some (.bool st.2.2):=(AK HI4.out.f 0).trans rfl; have l1:W4.cell? ⟨X.gl,0,none⟩=some (.int .i64 st.2.1):=(AK HI4.out.l 0).trans rfl; have o1:W4.cell? ⟨X.go,0,none⟩=some vo:=(AK ho1 0).trans rfl; have ff:=AJ HI4.out.f 0; have fl:=AJ HI4.out.l 0; have fo:=AJ ho1 0; obtain ⟨d1,d2,d3⟩:=HI4.out.ne; have d4:=d1.symm; have d5:=d2.symm; have d6:=d3.symm))
   refine bodyPost_ret (results_none rfl _ _ _) rfl ?_
   obtain ⟨vo3,ho3,_⟩:=HI3'.out.o
   have q1:=At HI3'.out.n; have q2:=At HI3'.out.l; have q3:=At HI3'.out.f; have q4:=At ho3
   obtain ⟨z1,z2⟩:=HI4.out.put (y:=y) x (Kd.R_lower (Kd.R_mono (Kd.R_bound HO.out) (fun k hk=>⟨by have:=hk.2.1; omega,by have:=hk.2.1; omega,by have:=hk.2.1; omega,by have:=hk.2.1; omega⟩)) HI3'.out.b.size)
   exact ⟨rfl,z1,HK4.out.then_ z2 (fun _ h=> .inl h)⟩
  | true=>
   rw [h1] at f0 hf
   have hf:decide (x<st.2.1)=true:=by simpa using hf
   go_wp2_with (first|(go_at_call 34; (refine (BA.calls A c l y _ (HL.out.kept HK3.out).r HL.out.cc HY.out (fun h=>(HL.out.z h).1)).mono ?_); rintro e W4 ⟨v2,rfl,ho,hb⟩; have HI4:=Aside0.mk (HI3.out.below hb); have HK4:=Aside0.mk (HK3.out.below hb); have HO:=Aside0.mk ho; clear hb ho HI3 f0 l0; obtain ⟨Ay,cy,ey⟩:=Kd.R_slice HO.out; subst ey; obtain ⟨vo,ho1,ho2⟩:=HI4.out.o; have f1:W4.cell? ⟨X.gf,0,none⟩=some (.bool st.2.2):=(AK HI4.out.f 0).trans rfl; have l1:W4.cell? ⟨X.gl,0,none⟩=some (.int .i64 st.2.1):=(AK HI4.out.l 0).trans rfl; have o1:W4.cell? ⟨X.go,0,none⟩=some vo:=(AK ho1 0).trans rfl; have ff:=AJ HI4.out.f 0; have fl:=AJ HI4.out.l 0; have fo:=AJ ho1 0; obtain ⟨d1,d2,d3⟩:=HI4.out.ne; have d4:=d1.symm; have d5:=d2.symm; have d6:=d3.symm))
   refine bodyPost_ret (results_none rfl _ _ _) rfl ?_
   obtain ⟨vo3,ho3,_⟩:=HI3'.out.o
   have q1:=At HI3'.out.n; have q2:=At HI3'.out.l; have q3:=At HI3'.out.f; have q4:=At ho3
   obtain ⟨z1,z2⟩:=HI4.out.put (y:=y) x (Kd.R_lower (Kd.R_mono (Kd.R_bound HO.out) (fun k hk=>⟨by have:=hk.2.1; omega,by have:=hk.2.1; omega,by have:=hk.2.1; omega,by have:=hk.2.1; omega⟩)) HI3'.out.b.size)
   exact ⟨rfl,z1,HK4.out.then_ z2 (fun _ h=> .inl h)⟩
 ·have hh:=HH.out
  rw [if_neg hf] at hh
  cases hh
  clear HH
  have h1:st.2.2=true:=by
   cases h:st.2.2 with
   |true=>rfl
   |false=>exact absurd (by rw [h]; rfl) hf
  have h2:decide (x<st.2.1)=false:=by
   cases h:decide (x<st.2.1) with
   |false=>rfl
   |true=>exact absurd (by rw [h,Bool.or_true]) hf
  rw [h1] at f0
  clear hf
  go_wp2
  refine bodyPost_ret (results_none rfl _ _ _) rfl ?_
  exact ⟨rfl,HI3'.out,HK3.out⟩
section
variable {P:Program} {ops:Array Oper} {o:Oper} {a:Act} {Q:Exit→Act→World→Prop} {Kc:Act→World→Prop}
theorem FR (l:List Int) (A:Option Addr) (W:World) (g:Nat) (i:Int) (hr:Kd.C (Kd.int .i64) W A l.length l) (hz:l.length=0→A=none) (s x:Operand)
  (hw:Region.wanted o (yielded ops a.tmps)=true) (ho:o.op= .call {callee:= .builtin .append,args:= #[s,x],argTypes:= #[26,26]})
  (hs:a.eval s= .slice A l.length l.length) (hx:a.eval x= .slice (some ⟨g,0,none⟩) 1 1) (hc:W.cell? ⟨g,0,none⟩=some (.int .i64 i)) (hm:l.length≤1000000)
  (h:∀v w',Kd.R (Kd.int .i64) 3 w' W.heap.size (fun _=>True) v (l++[i])→W.grownBy w' none→Kc (a.put o.dst v) w'):
  if Region.wanted o (yielded ops a.tmps)=true then Oper.wp Try.prog o a W Kc Q else Kc (a.put o.dst undef) W:=by
 obtain ⟨i0,hi0,hz0,hs0,hb0⟩:=info_parts info3
 have hnews:∀j u,([Value.int .i64 i]:List Value)[j]? =some u→W.cell? ((⟨g,0,none⟩:Addr).add j)=some u:=fun j u hj=>by
  cases j with
  |zero=>simp only [List.getElem?_cons_zero,Option.some.injEq] at hj; subst hj; rw [C6]; exact hc
  |succ j=>simp at hj
 have hfin:∀v w',w'.ownsRow W.heap.size 3 1 v (l.length+1) (nums .i64 l++[Value.int .i64 i])→Kd.R (Kd.int .i64) 3 w' W.heap.size (fun _=>True) v (l++[i]):=fun v w' hh=>
  Kd.R_of_own (by simpa [encs,nums] using hh) (fun _ _=>trivial)
 rcases Nat.eq_zero_or_pos l.length with h0|h0
 ·obtain rfl:=hz h0
  obtain rfl:l=[]:=List.eq_nil_of_length_eq_zero h0
  obtain ⟨v',w',hrun,r1,r2,_⟩:=run_append_own (P:=Try.prog) W W.heap.size 26 o.type 3 i0 (.int .i64 0) 1 8 Try.underlying26 hi0 hz0 hs0 hb0 rfl (by decide) (.slice none 0 0) 0 [] (World.ownsRow_nil W _ 3 1) ⟨g,0,none⟩ 1 1 [.int .i64 i] rfl hnews (by intro u hu; simp only [List.mem_singleton] at hu; subst hu; rfl) (by decide) (by decide) (Nat.le_refl _)
  refine DB hw (w1:=w') (v:=v') ?_ (h v' w' (hfin v' w' (by simpa [nums] using r1)) (by simpa [Value.ownBlock] using r2))
  have hs2:a.eval s= .slice none 0 0:=hs
  simp [execOp,ho,resolve,invoke,builtin,hs2,hx,hrun,Result.andThen]
 ·obtain ⟨ad,rfl,hcell⟩:=(Kd.reads_of_C (enc:=Value.int .i64) (d:=(0:Int)) (h1:=fun _=>rfl) hr).2.2 h0
  obtain ⟨v',w',hrun,r1,r2⟩:=run_append_arg_grows (P:=Try.prog) (w:=W) 26 o.type 3 i0 (.int .i64 0) 1 8 Try.underlying26 hi0 hz0 hs0 hb0 rfl (by decide) ad l.length l.length (nums .i64 l) (by rw [Cl,Nat.mul_one]) (fun j u hj=>by
   have hl:j<l.length:=by have:=(List.getElem?_eq_some_iff.1 hj).1; rwa [Cl] at this
   rw [hcell j hl]; simpa [nums,List.getD_eq_getElem?_getD,hl] using hj) ⟨g,0,none⟩ 1 1 [.int .i64 i] rfl hnews (by omega) (by simp only [maxLen]; omega) (by omega)
  refine DB hw (w1:=w') (v:=v') ?_ (h v' w' (hfin v' w' r1) r2)
  simp [execOp,ho,resolve,invoke,builtin,hs,hx,hrun,Result.andThen]
end
theorem BL.new {X:BCtx} {w0 W V:World} {st:BSt} {l:List Int} {x:Int} {A:Option Addr} {c:Nat} (h:BInv X w0 W st) (ho:Kd.R (Kd.int .i64) 3 V W.heap.size (fun _=>True) (.slice A (l++[x]).length c) (l++[x])):BL X V A c (l++[x]):=by
 have h1:=Kd.R_reads' ho
 refine ⟨h1.2.2,h1.2.1,fun h=>by simp at h,fun ad he=> ?_⟩
 subst he
 obtain ⟨g,cg,eg,gb,_⟩:=Kd.R_form ho (by simp)
 obtain ⟨vo,ho1,_⟩:=h.o
 have q1:=At h.f; have q2:=At h.l; have q3:=At ho1
 injection eg with e1 e2 e3
 injection e1 with e1
 subst e1
 rintro (h|h|h)<;>(simp only at h; omega)
set_option maxHeartbeats 8000000 in
theorem EB (X:BCtx) (w0:World) (k:Nat) (hn0:0≤X.n) (hn1:X.n≤1000):∀(d:Nat) (l:List Int) (A:Option Addr) (c:Nat) (st st':BSt) (W:World),BInv X w0 W st→BL X W A c l→l.length+d≤100000→bExt k X.m X.ts X.n d l st=some st'→
  Calls Try.prog 32 (#[.slice A l.length c]++X.caps) W fun e w'=>e= .returned (.tuple #[])∧BInv X w0 w' st'∧Kept W w' X.S
 |0,l,A,c,st,st',W,hI,hL,hm,h=>by simp [bExt] at h
 | d + 1, l, A,c,st,st',W,hI,hL,hm,h=>by
  have ih:=EB X w0 k hn0 hn1 d
  rw [bExt] at h
  by_cases hn:(l.length:Int)=X.n
  ·rw [if_pos hn] at h
   exact F0 X w0 W k l A c st st' hI hL hn h
  ·rw [if_neg hn] at h
   show Calls Try.prog 32 #[.slice A l.length c,.pointer (some ⟨X.gn,0,none⟩),.pointer (some ⟨X.gp,0,none⟩),.pointer (some ⟨X.gf,0,none⟩),.pointer (some ⟨X.gl,0,none⟩),.pointer (some ⟨X.go,0,none⟩),.pointer (some ⟨X.ge,0,none⟩)] W _
   have HI:=Aside0.mk hI
   have HL:=Aside0.mk hL
   have HM:=Aside0.mk (show l.length≤1000000 by omega)
   have HM2:=Aside0.mk (show (l.length+1)+d≤100000 by omega)
   have HH:=Aside0.mk h
   have HN:=Aside0.mk hn1
   have HN0:=Aside0.mk hn0
   have n0:W.cell? ⟨X.gn,0,none⟩=some (.int .i64 X.n):=(AK hI.n 0).trans rfl
   have c1:((l.length:Int)==X.n)=false:=beq_eq_false_iff_ne.mpr hn
   clear hI hL hm h hn hn0 hn1
   go_enter Try.func32,Try.ntmps32
   go_wp2
   go_loopg [9,30] X.n.toNat (fun gg v9 v30 w'=>∃(i:Nat) (st1:BSt),v30= .int .i64 (i:Int)∧Aside0 (DD k X.m X.ts X.n d l i (X.n.toNat-i) st1=some st')∧Aside0 (i≤X.n.toNat)∧Aside0 (X.n.toNat-i≤gg)∧Aside0 (BInv X w0 w' st1)∧Aside0 (Kept W w' X.S))
   case atStart=>exact ⟨0,st,rfl,⟨HH.out⟩,⟨Nat.zero_le _⟩,⟨by omega⟩,⟨HI.out⟩,⟨Kept.refl _ _⟩⟩
   case round=>
    clear HI HH n0
    obtain ⟨i,st1,rfl,HA,H1,H2,HI,HK⟩:=hrel
    by_cases c2:(i:Int)<X.n
    ·have c2b:decide ((i:Int)<X.n)=true:=decide_eq_true c2
     have ha:=HA.out
     have hlt:i<X.n.toNat:=by omega
     rw [show X.n.toNat-i=(X.n.toNat-(i+1))+1 by omega,CU,Option.bind_eq_some_iff] at ha
     obtain ⟨b,hb1,hb2⟩:=ha
     have HC:=Aside0.mk hb1
     clear HA c2
     cases b with
     | true=>
      rw [if_pos rfl] at hb2
      have HA:=Aside0.mk hb2
      clear hb1 hb2
      go_wp2_with (first|(go_at_call 35; (with_reducible refine (Ax.calls k A c l i true _ (HL.out.kept HK.out).r HL.out.cc HC.out).mono ?_); rintro e w' ⟨rfl,hd⟩; have HI1:=Aside0.mk (HI.out.below hd.below); have HK1:=Aside0.mk (HK.out.below hd.below); clear hd))
      go_roundg (X.n.toNat-(i+1))
      case measure=>have:=H2.out; omega
      case rel=>exact ⟨i+1,st1,by have:=HN.out; rw [show wrap64 ((i:Int)+1)=((i+1:Nat):Int) from by unfold wrap64; omega],HA,⟨by omega⟩,⟨by omega⟩,HI1,HK1⟩
     | false=>
      rw [if_neg (by simp),Option.bind_eq_some_iff] at hb2
      obtain ⟨st2,hr1,hr2⟩:=hb2
      have HR2:=Aside0.mk hr1
      have HA:=Aside0.mk hr2
      clear hb1 hr1 hr2
      go_wp2_with (first|(go_at_call 35; (with_reducible refine (Ax.calls k A c l i false _ (HL.out.kept HK.out).r HL.out.cc HC.out).mono ?_); rintro e Wc ⟨rfl,hd⟩; have HI1:=Aside0.mk (HI.out.below hd.below); have HK1:=Aside0.mk (HK.out.below hd.below); clear hd HI HK))
      refine Bv (n:=11) (S:=fun w'=>w'.cell? ⟨X.ge,0,none⟩=some (.func (.func 32) #[] X.caps)) (ds:=[]) #[false,false,false,false,false,false,false,false,false,false,false] (by kernel_rfl) rfl rfl ((AK HI1.out.e 0).trans rfl) (fun hHeld=> ?_)
      have HI2:=Aside0.mk (HI1.out.below (AD (Below.refl _ _)))
      have HK2:=Aside0.mk (Kept.drew HK1.out)
      clear HI1 HK1
      generalize Wc.drew=W2 at hHeld HI2 HK2 ⊢
      refine Aj (i:=1) (N:=some 38) (v:= ?_) (a':= ?_) #[false,true,false,false,false,false,false,false,false,false,false] rfl rfl (by kernel_rfl) (fun _ _ _ h=>h) (Or.inl ⟨by rfl,?_⟩) ?_ ?_
      rotate_left
      ·intro w'
       go_simp
       with_reducible rfl
      rotate_left
      ·simp only [Act.put,List.setIfInBounds_toArray,List.set_cons_zero,List.set_cons_succ,Ab,Ac]
       rfl
      refine Aj (i:=2) (N:=some 39) (v:= ?_) (a':= ?_) #[false,true,true,false,false,false,false,false,false,false,false] rfl rfl (by kernel_rfl) (fun _ _ _ h=>h) (Or.inl ⟨by rfl,?_⟩) ?_ ?_
      rotate_left
      ·intro w'
       go_simp
       with_reducible rfl
      rotate_left
      ·simp only [Act.put,List.setIfInBounds_toArray,List.set_cons_zero,List.set_cons_succ,Ab,Ac]
       rfl
      refine Aj (i:=4) (N:=some 41) (v:= ?_) (a':= ?_) #[false,true,true,false,true,false,false,false,false,false,false] rfl rfl (by kernel_rfl) (fun _ _ _ h=>h) (Or.inl ⟨by rfl,?_⟩) ?_ ?_
      rotate_left
      ·intro w'
       go_simp
       with_reducible rfl
      rotate_left
      ·simp only [Act.put,List.setIfInBounds_toArray,List.set_cons_zero,List.set_cons_succ,Ab,Ac]
       rfl
      refine Aj (i:=7) (N:=some 44) (v:= ?_) (a':= ?_) #[false,true,true,false,true,false,false,true,false,false,false] rfl rfl (by kernel_rfl) (fun _ _ _ h=>h) (Or.inl ⟨by rfl,?_⟩) ?_ ?_
      rotate_left
      ·intro w'
       go_simp
       with_reducible rfl
      rotate_left
      ·simp only [Act.put,List.setIfInBounds_toArray,List.set_cons_zero,List.set_cons_succ,Ab,Ac]
       rfl
      refine Aj (i:=3) (N:=some 40) (v:= ?_) (a':= ?_) #[false,true,true,true,true,false,false,true,false,false,false] rfl rfl (by kernel_rfl) (fun _ _ _ h=>h) (Or.inl ⟨by rfl,?_⟩) ?_ ?_
      rotate_left
      ·intro w'
       go_simp
       with_reducible rfl
      rotate_left
      ·simp only [Act.put,List.setIfInBounds_toArray,List.set_cons_zero,List.set_cons_succ,Ab,Ac]
       rfl
      refine Aj (i:=5) (N:=some 42) (v:= ?_) (a':= ?_) #[false,true,true,true,true,true,false,true,false,false,false] rfl rfl (by kernel_rfl) (fun _ _ _ h=>h) (Or.inl ⟨by rfl,?_⟩) ?_ ?_
      rotate_left
      ·intro w'
       go_simp
       with_reducible rfl
      rotate_left
      ·simp only [Act.put,List.setIfInBounds_toArray,List.set_cons_zero,List.set_cons_succ,Ab,Ac]
       rfl
      refine BB (i:=0) (N:=some 37) (v:= ?_) (a':= ?_) #[true,true,true,true,true,true,false,true,false,false,false] rfl rfl (by kernel_rfl) (fun _ _ _ h=>h) (Or.inl ⟨by rfl,?_⟩) hHeld ?_ ?_
      rotate_left
      ·rintro w' s0
       go_simp
       with_reducible rfl
      rotate_left
      ·simp only [Act.put,List.setIfInBounds_toArray,List.set_cons_zero,List.set_cons_succ,Ab,Ac]
       rfl
      have hcc:=eq_true HL.out.cc
      have hA:Option.map (fun x:Addr=>x.add 0) A=A:=by cases A<;>simp [Addr.add]
      refine Aj (i:=6) (N:=some 43) (v:= .slice A l.length l.length) (a':= ?_) #[true,true,true,true,true,true,true,true,false,false,false] rfl rfl (by kernel_rfl) (fun _ _ _ h=>h) (Or.inl ⟨by rfl,?_⟩) ?_ ?_
      ·intro w'
       go_simp
      rotate_left
      ·simp only [Act.put,List.setIfInBounds_toArray,List.set_cons_zero,List.set_cons_succ,Ab,Ac]
       rfl
      refine one_ (i:=8) (N:=some 45) #[true,true,true,true,true,true,true,true,true,false,false] rfl rfl (by kernel_rfl) (by decide) (fun K hK=> ?_)
      refine value_ (v:= .slice (some ⟨W2.heap.size,0,none⟩) 1 1) (w1:=W2.alloc (.cells #[.int .i64 (i:Int)] 3)) (by rfl) rfl ?_ ?_
      ·first|(go_simp; done)|(go_simp; rfl)
      have HI3:=Aside0.mk (HI2.out.below (AE (Below.refl _ _) (.cells #[.int .i64 (i:Int)] 3)))
      have HK3:=Aside0.mk (HK2.out.alloc (.cells #[.int .i64 (i:Int)] 3))
      have hcell:(W2.alloc (.cells #[.int .i64 (i:Int)] 3)).cell? ⟨W2.heap.size,0,none⟩=some (.int .i64 (i:Int)):=by simp
      refine hK.out _ _ ((AK HI3.out.e 0).trans rfl) (fun hHeld=> ?_)
      clear hK K HI2 HK2
      refine C2 (a':= ?_) ?_ ?_
      rotate_left
      ·show Act.put _ (some 45) _=_
       simp only [Act.put,List.setIfInBounds_toArray,List.set_cons_zero,List.set_cons_succ,Ab,Ac]
       rfl
      generalize W2.alloc (.cells #[.int .i64 (i:Int)] 3)=W3 at hHeld HI3 HK3 hcell ⊢
      refine one_ (i:=9) (N:=some 46) #[true,true,true,true,true,true,true,true,true,true,false] rfl rfl (by kernel_rfl) (by decide) (fun K hK=> ?_)
      refine FR l A W3 _ i (HL.out.kept HK3.out).r (fun h=>(HL.out.z h).1) (.tmp 43) (.tmp 45) (by rfl) rfl rfl rfl hcell HM.out (fun v4 W4 ho hg=> ?_)
      have hb:Below W3.heap.size W3 W4:=⟨hg.os,hg.tape,hg.output,hg.size,fun j hj=>hg.block j hj (by simp)⟩
      have HI4:=Aside0.mk (HI3.out.below hb)
      have HK4:=Aside0.mk (HK3.out.below hb)
      have HO:=Aside0.mk ho
      have HB4:=Aside0.mk hb
      clear hb ho hg
      refine hK.out _ _ ((AK HI4.out.e 0).trans rfl) (fun hHeld=> ?_)
      clear hK K
      refine C2 (a':= ?_) ?_ ?_
      rotate_left
      ·show Act.put _ (some 46) _=_
       simp only [Act.put,List.setIfInBounds_toArray,List.set_cons_zero,List.set_cons_succ,Ab,Ac]
       rfl
      obtain ⟨A4,c4,e4⟩:=Kd.R_slice HO.out
      subst e4
      refine one_ (i:=10) (N:=some 47) #[true,true,true,true,true,true,true,true,true,true,true] rfl rfl (by kernel_rfl) (by decide) (fun K hK=> ?_)
      have hq:=ih (l++[(i:Int)]) A4 c4 st1 st2 W4 HI4.out (BL.new HI3.out HO.out) (by have:=HM2.out; simp only [List.length_append,List.length_cons,List.length_nil]; omega) HR2.out
      have he:=Cu Try.func32 (by kernel_rfl) rfl (#[.slice A4 (l++[(i:Int)]).length c4]++X.caps) W4
      refine call_ 32 (#[.slice A4 (l++[(i:Int)]).length c4]++X.caps) (by rfl) rfl (by unfold execOp; simp [resolve,Deferred.ofValue,invoke,Act.eval,he]) ?_
      refine hq.mono ?_
      rintro e W5 ⟨rfl,hI5,hK5⟩
      refine ⟨_,rfl,?_⟩
      have HI5:=Aside0.mk hI5
      have HK5:=Aside0.mk (HK4.out.then_ hK5 (fun _ h=> .inl h))
      clear hI5 hK5 hq he
      refine hK.out _ _ ((AK HI5.out.e 0).trans rfl) (fun hHeld=> ?_)
      clear hK K
      refine C2 (a':= ?_) ?_ ?_
      rotate_left
      ·show Act.put _ (some 47) _=_
       simp only [Act.put,List.setIfInBounds_toArray,List.set_cons_zero,List.set_cons_succ,Ab,Ac]
       rfl
      refine CD (by kernel_rfl) ?_
      go_wp2
      go_roundg (X.n.toNat-(i+1))
      case measure=>have:=H2.out; omega
      case rel=>exact ⟨i+1,st2,by have:=HN.out; rw [show wrap64 ((i:Int)+1)=((i+1:Nat):Int) from by unfold wrap64; omega],HA,⟨by omega⟩,⟨by omega⟩,HI5,HK5⟩
    ·have c2b:decide ((i:Int)<X.n)=false:=decide_eq_false c2
     have ha:=HA.out
     rw [show X.n.toNat-i=0 by omega,CT] at ha
     cases ha
     go_wp2
     exact bodyPost_end (results_none rfl _ _ _) rfl ⟨rfl,HI.out,HK.out⟩
theorem D0 {P:Program} {w:World} {a:Addr} {m:Mode} (f:Fn) (x y:Array Value):(store a (.func f x y) m).run P w=stored P w a (.func f x y) m:=run_store P w a _ m rfl
attribute [local go_sem] D0
def Au.f (k:Nat) (A7:Int) (l0_1:List (S64)):Option (List Int×Int×Int):=(AM.f k A7 l0_1).bind fun v=>if v=true then (if (6:Int)<(l0_1.length:Int) then some ([],0,3) else (bExt k A7 l0_1 (l0_1.length:Int) 8 [] ([],0,false)).bind fun st=>some (st.1,st.2.1,0)) else some ([],0,1)
theorem DX (k:Nat) (m:Int) (ts:List S64) (n:Int):∀(d:Nat) (l:List Int) (st:BSt),LeO (bExt k m ts n d l st) (bExt (k+1) m ts n d l st)
 |0,l,st=>by rw [bExt]; exact LeO.none _
 | d + 1,l,st=>by
  have hl:∀(r i:Nat) (st:BSt),LeO (DD k m ts n d l i r st) (DD (k+1) m ts n d l i r st):=fun r=>by
   induction r with
   |zero=>intro i st; rw [CT,CT]; exact LeO.refl _
   | succ r ih=>
    intro i st
    rw [CU,CU]
    exact LeO.bind (Ax.mono _ _ _) fun b=>LeO.ite (ih _ _) (LeO.bind (DX k m ts n d _ _) fun st'=>ih _ _)
  rw [bExt,bExt]
  exact LeO.ite (LeO.bind (AW.mono _ _ _ _) fun s=>LeO.bind (AY.mono _ _ _ _) fun x=>LeO.refl _) (hl _ _ _)
theorem Au.mono:∀a0 a1 k,LeO (Au.f k a0 a1) (Au.f (k+1) a0 a1):=by
 intro a0 a1 k
 unfold Au.f
 exact LeO.bind (AM.mono _ _ _) fun v=>LeO.ite (LeO.ite (LeO.refl _) (LeO.bind (DX _ _ _ _ _ _ _) fun st=>LeO.refl _)) (LeO.refl _)
set_option maxHeartbeats 8000000 in
theorem Au.calls (k:Nat) (A7:Int) (A0_1:Option Addr) (c0_1:Nat) (l0_1:List (S64)) (r1:List Int) (r2:Int) (r3:Int) (w:World) (hr0_1:Kd.C k64 w A0_1 l0_1.length l0_1) (hc0_1:l0_1.length≤c0_1) (h:Au.f k A7 l0_1=some (r1,r2,r3)):
  Calls Try.prog 17 #[.agg #[.int .i64 A7,.slice A0_1 l0_1.length c0_1]] w fun e w'=>∃v0_:Value,e= .returned (.tuple #[v0_,.int .i64 r2,.int .i64 r3])∧Kd.R (Kd.int .i64) 3 w' w.heap.size (fun _=>True) v0_ r1∧Below w.heap.size w w':=by
 unfold Au.f at h
 rw [Option.bind_eq_some_iff] at h
 obtain ⟨v,hv,h⟩:=h
 have HR:=Aside0.mk hr0_1
 have HC:=Aside0.mk hc0_1
 have HV:=Aside0.mk hv
 have HB:=Aside0.mk (Below.refl w.heap.size w)
 have hu34:=Try.underlying34
 clear hr0_1 hc0_1 hv
 cases v with
 | false=>
  rw [if_neg (by simp)] at h
  cases h
  go_enter Try.func17,Try.ntmps17
  go_wp2_with (first|((with_reducible refine Ah (N:=1) rfl ?_); refine Al ?hg (N:=1) ?hd (cs:= #[.int .i64 A7,.slice A0_1 l0_1.length c0_1]) (t:=34) ?hr ?_; (case hd=>rfl); (case hg=>rfl); (case hr=>first|(go_simp; done)|(go_simp; rfl)); intro g1 hg g1_w hbox hb; have nHB_:=Aside0.mk (AN HB.out hb); have Gg1:=Aside0.mk (show w.heap.size≤g1 by rw [hg]; exact HB.out.size); have Bg1:=Aside0.mk hbox; clear HB; have HB:=nHB_; clear hb hbox hg nHB_)|((with_reducible refine Ah (N:=2) rfl ?_); refine Al ?hg (N:=2) ?hd (cs:= #[.slice none 0 0]) (t:=26) ?hr ?_; (case hd=>rfl); (case hg=>rfl); (case hr=>first|(go_simp; done)|(go_simp; rfl)); intro g2 hg g2_w hbox hb; have ng1_:=Aside0.mk (AO Bg1.out hb); have nHB_:=Aside0.mk (AN HB.out hb); have Gg2:=Aside0.mk (show w.heap.size≤g2 by rw [hg]; exact HB.out.size); have Bg2:=Aside0.mk hbox; clear Bg1 HB; have Bg1:=ng1_; have HB:=nHB_; clear hb hbox hg ng1_ nHB_)|((with_reducible refine Ah (N:=3) rfl ?_); refine Al ?hg (N:=3) ?hd (cs:= #[.int .i64 0]) (t:=3) ?hr ?_; (case hd=>rfl); (case hg=>rfl); (case hr=>first|(go_simp; done)|(go_simp; rfl)); intro g3 hg g3_w hbox hb; have ng1_:=Aside0.mk (AO Bg1.out hb); have ng2_:=Aside0.mk (AO Bg2.out hb); have nHB_:=Aside0.mk (AN HB.out hb); have Gg3:=Aside0.mk (show w.heap.size≤g3 by rw [hg]; exact HB.out.size); have Bg3:=Aside0.mk hbox; clear Bg1 Bg2 HB; have Bg1:=ng1_; have Bg2:=ng2_; have HB:=nHB_; clear hb hbox hg ng1_ ng2_ nHB_; have y1:g3_w.cell? ⟨g1,0,none⟩=some (.int .i64 A7):=(AK Bg1.out 0).trans rfl; have y2:g3_w.cell? ⟨g1,1,none⟩=some (.slice A0_1 l0_1.length c0_1):=(AK Bg1.out 1).trans rfl)|((with_reducible refine AR (f:=29) rfl ?_); refine Ap (some 10) rfl rfl Try.func29 (by kernel_rfl) rfl #[.agg #[.int .i64 A7,.slice A0_1 l0_1.length c0_1]] rfl (by (try simp only [List.map_toArray,List.map_cons,List.map_nil]); first|done|rfl) ?_; (refine (AM.calls k A7 _ _ l0_1 false _ (Kd.C_below HR.out HB.out) HC.out HV.out).mono ?_); rintro e w5 ⟨rfl,hb⟩; refine ⟨_,rfl,?_⟩; have nHB_:=Aside0.mk (AN HB.out hb); have n1_:=Aside0.mk (AO Bg1.out hb); have n2_:=Aside0.mk (AO Bg2.out hb); have n3_:=Aside0.mk (AO Bg3.out hb); clear Bg1 Bg2 Bg3 HB hb y1 y2; have Bg1:=n1_; have Bg2:=n2_; have Bg3:=n3_; have HB:=nHB_; clear n1_ n2_ n3_ nHB_; have d1:g2≠g3:=CE Bg2.out Bg3.out (by decide); have d2:=d1.symm; have y3:w5.cell? ⟨g1,1,none⟩=some (.slice A0_1 l0_1.length c0_1):=(AK Bg1.out 1).trans rfl; have z2:w5.cell? ⟨g2,0,none⟩=some (.slice none 0 0):=(AK Bg2.out 0).trans rfl; have z3:w5.cell? ⟨g3,0,none⟩=some (.int .i64 0):=(AK Bg3.out 0).trans rfl; have f2:=AJ Bg2.out 0; have f3:=AJ Bg3.out 0))
  refine bodyPost_ret (v:= .tuple #[.slice none 0 0,.int .i64 0,.int .i64 1]) ?_ rfl ?_
  ·show (results Try.f17 _).run Try.prog _=_
   rw [results,show Try.f17.results= #[.cell 2 26,.cell 3 3,.tmp 4] from rfl]
   go_simp
  ·exact ⟨_,rfl,Kd.R_nil _ _ _ _ _,AH (AH HB.out Gg2.out) Gg3.out⟩
 | true=>
  rw [if_pos rfl] at h
  by_cases c6:(6:Int)<(l0_1.length:Int)
  ·rw [if_pos c6] at h
   cases h
   have c6b:decide ((6:Int)<(l0_1.length:Int))=true:=decide_eq_true c6
   clear c6
   go_enter Try.func17,Try.ntmps17
   go_wp2_with (first|((with_reducible refine Ah (N:=1) rfl ?_); refine Al ?hg (N:=1) ?hd (cs:= #[.int .i64 A7,.slice A0_1 l0_1.length c0_1]) (t:=34) ?hr ?_; (case hd=>rfl); (case hg=>rfl); (case hr=>first|(go_simp; done)|(go_simp; rfl)); intro g1 hg g1_w hbox hb; have nHB_:=Aside0.mk (AN HB.out hb); have Gg1:=Aside0.mk (show w.heap.size≤g1 by rw [hg]; exact HB.out.size); have Bg1:=Aside0.mk hbox; clear HB; have HB:=nHB_; clear hb hbox hg nHB_)|((with_reducible refine Ah (N:=2) rfl ?_); refine Al ?hg (N:=2) ?hd (cs:= #[.slice none 0 0]) (t:=26) ?hr ?_; (case hd=>rfl); (case hg=>rfl); (case hr=>first|(go_simp; done)|(go_simp; rfl)); intro g2 hg g2_w hbox hb; have ng1_:=Aside0.mk (AO Bg1.out hb); have nHB_:=Aside0.mk (AN HB.out hb); have Gg2:=Aside0.mk (show w.heap.size≤g2 by rw [hg]; exact HB.out.size); have Bg2:=Aside0.mk hbox; clear Bg1 HB; have Bg1:=ng1_; have HB:=nHB_; clear hb hbox hg ng1_ nHB_)|((with_reducible refine Ah (N:=3) rfl ?_); refine Al ?hg (N:=3) ?hd (cs:= #[.int .i64 0]) (t:=3) ?hr ?_; (case hd=>rfl); (case hg=>rfl); (case hr=>first|(go_simp; done)|(go_simp; rfl)); intro g3 hg g3_w hbox hb; have ng1_:=Aside0.mk (AO Bg1.out hb); have ng2_:=Aside0.mk (AO Bg2.out hb); have nHB_:=Aside0.mk (AN HB.out hb); have Gg3:=Aside0.mk (show w.heap.size≤g3 by rw [hg]; exact HB.out.size); have Bg3:=Aside0.mk hbox; clear Bg1 Bg2 HB; have Bg1:=ng1_; have Bg2:=ng2_; have HB:=nHB_; clear hb hbox hg ng1_ ng2_ nHB_; have y1:g3_w.cell? ⟨g1,0,none⟩=some (.int .i64 A7):=(AK Bg1.out 0).trans rfl; have y2:g3_w.cell? ⟨g1,1,none⟩=some (.slice A0_1 l0_1.length c0_1):=(AK Bg1.out 1).trans rfl)|((with_reducible refine AR (f:=29) rfl ?_); refine Ap (some 10) rfl rfl Try.func29 (by kernel_rfl) rfl #[.agg #[.int .i64 A7,.slice A0_1 l0_1.length c0_1]] rfl (by (try simp only [List.map_toArray,List.map_cons,List.map_nil]); first|done|rfl) ?_; (refine (AM.calls k A7 _ _ l0_1 true _ (Kd.C_below HR.out HB.out) HC.out HV.out).mono ?_); rintro e w5 ⟨rfl,hb⟩; refine ⟨_,rfl,?_⟩; have nHB_:=Aside0.mk (AN HB.out hb); have n1_:=Aside0.mk (AO Bg1.out hb); have n2_:=Aside0.mk (AO Bg2.out hb); have n3_:=Aside0.mk (AO Bg3.out hb); clear Bg1 Bg2 Bg3 HB hb y1 y2; have Bg1:=n1_; have Bg2:=n2_; have Bg3:=n3_; have HB:=nHB_; clear n1_ n2_ n3_ nHB_; have d1:g2≠g3:=CE Bg2.out Bg3.out (by decide); have d2:=d1.symm; have y3:w5.cell? ⟨g1,1,none⟩=some (.slice A0_1 l0_1.length c0_1):=(AK Bg1.out 1).trans rfl; have z2:w5.cell? ⟨g2,0,none⟩=some (.slice none 0 0):=(AK Bg2.out 0).trans rfl; have z3:w5.cell? ⟨g3,0,none⟩=some (.int .i64 0):=(AK Bg3.out 0).trans rfl; have f2:=AJ Bg2.out 0; have f3:=AJ Bg3.out 0))
   refine bodyPost_ret (v:= .tuple #[.slice none 0 0,.int .i64 0,.int .i64 3]) ?_ rfl ?_
   ·show (results Try.f17 _).run Try.prog _=_
    rw [results,show Try.f17.results= #[.cell 2 26,.cell 3 3,.tmp 4] from rfl]
    go_simp
   ·exact ⟨_,rfl,Kd.R_nil _ _ _ _ _,AH (AH HB.out Gg2.out) Gg3.out⟩
  ·rw [if_neg c6] at h
   rw [Option.bind_eq_some_iff] at h
   obtain ⟨st,hst,h⟩:=h
   have HS:=Aside0.mk (Option.some.inj h)
   have eg:∀args w,(callFunc 32 args).run Try.prog w= .ok (.enter 32 args) w:=fun args w=>Cu Try.func32 (by kernel_rfl) rfl args w
   have c6b:decide ((6:Int)<(l0_1.length:Int))=false:=decide_eq_false c6
   have hl6:(l0_1.length:Int)≤6:=by omega
   have hext:∀ {g5 g1 g6 g3 g2 g7:Nat} (W:World) (hI:BInv ⟨A7,A0_1,c0_1,l0_1,(l0_1.length:Int),g5,g1,g6,g3,g2,g7⟩ w W ([],0,false)),Calls Try.prog 32 (#[.slice none 0 0]++ #[.pointer (some ⟨g5,0,none⟩),.pointer (some ⟨g1,0,none⟩),.pointer (some ⟨g6,0,none⟩),.pointer (some ⟨g3,0,none⟩),.pointer (some ⟨g2,0,none⟩),.pointer (some ⟨g7,0,none⟩)]) W fun e w'=>e= .returned (.tuple #[])∧BInv ⟨A7,A0_1,c0_1,l0_1,(l0_1.length:Int),g5,g1,g6,g3,g2,g7⟩ w w' st∧Kept W w' (BCtx.S ⟨A7,A0_1,c0_1,l0_1,(l0_1.length:Int),g5,g1,g6,g3,g2,g7⟩):=fun {g5 g1 g6 g3 g2 g7} W hI=>
    EB ⟨A7,A0_1,c0_1,l0_1,(l0_1.length:Int),g5,g1,g6,g3,g2,g7⟩ w k (by show (0:Int)≤(l0_1.length:Int); omega) (by show (l0_1.length:Int)≤1000; omega) 8 [] none 0 ([],0,false) st W hI ⟨Kd.C_nil _ _,by simp,fun _=>⟨rfl,rfl⟩,fun ad he=>by cases he⟩ (by simp) hst
   clear h hst c6 hl6
   go_enter Try.func17,Try.ntmps17
   go_wp2_with (first|((with_reducible refine Ah (N:=1) rfl ?_); refine Al ?hg (N:=1) ?hd (cs:= #[.int .i64 A7,.slice A0_1 l0_1.length c0_1]) (t:=34) ?hr ?_; (case hd=>rfl); (case hg=>rfl); (case hr=>first|(go_simp; done)|(go_simp; rfl)); intro g1 hg g1_w hbox hb; have nHB_:=Aside0.mk (AN HB.out hb); have Gg1:=Aside0.mk (show w.heap.size≤g1 by rw [hg]; exact HB.out.size); have Bg1:=Aside0.mk hbox; clear HB; have HB:=nHB_; clear hb hbox hg nHB_)|((with_reducible refine Ah (N:=2) rfl ?_); refine Al ?hg (N:=2) ?hd (cs:= #[.slice none 0 0]) (t:=26) ?hr ?_; (case hd=>rfl); (case hg=>rfl); (case hr=>first|(go_simp; done)|(go_simp; rfl)); intro g2 hg g2_w hbox hb; have ng1_:=Aside0.mk (AO Bg1.out hb); have nHB_:=Aside0.mk (AN HB.out hb); have Gg2:=Aside0.mk (show w.heap.size≤g2 by rw [hg]; exact HB.out.size); have Bg2:=Aside0.mk hbox; clear Bg1 HB; have Bg1:=ng1_; have HB:=nHB_; clear hb hbox hg ng1_ nHB_)|((with_reducible refine Ah (N:=3) rfl ?_); refine Al ?hg (N:=3) ?hd (cs:= #[.int .i64 0]) (t:=3) ?hr ?_; (case hd=>rfl); (case hg=>rfl); (case hr=>first|(go_simp; done)|(go_simp; rfl)); intro g3 hg g3_w hbox hb; have ng1_:=Aside0.mk (AO Bg1.out hb); have ng2_:=Aside0.mk (AO Bg2.out hb); have nHB_:=Aside0.mk (AN HB.out hb); have Gg3:=Aside0.mk (show w.heap.size≤g3 by rw [hg]; exact HB.out.size); have Bg3:=Aside0.mk hbox; clear Bg1 Bg2 HB; have Bg1:=ng1_; have Bg2:=ng2_; have HB:=nHB_; clear hb hbox hg ng1_ ng2_ nHB_; have y1:g3_w.cell? ⟨g1,0,none⟩=some (.int .i64 A7):=(AK Bg1.out 0).trans rfl; have y2:g3_w.cell? ⟨g1,1,none⟩=some (.slice A0_1 l0_1.length c0_1):=(AK Bg1.out 1).trans rfl)|((with_reducible refine AR (f:=29) rfl ?_); refine Ap (some 10) rfl rfl Try.func29 (by kernel_rfl) rfl #[.agg #[.int .i64 A7,.slice A0_1 l0_1.length c0_1]] rfl (by (try simp only [List.map_toArray,List.map_cons,List.map_nil]); first|done|rfl) ?_; (refine (AM.calls k A7 _ _ l0_1 true _ (Kd.C_below HR.out HB.out) HC.out HV.out).mono ?_); rintro e w5 ⟨rfl,hb⟩; refine ⟨_,rfl,?_⟩; have nHB_:=Aside0.mk (AN HB.out hb); have n1_:=Aside0.mk (AO Bg1.out hb); have n2_:=Aside0.mk (AO Bg2.out hb); have n3_:=Aside0.mk (AO Bg3.out hb); clear Bg1 Bg2 Bg3 HB hb y1 y2; have Bg1:=n1_; have Bg2:=n2_; have Bg3:=n3_; have HB:=nHB_; clear n1_ n2_ n3_ nHB_; have d1:g2≠g3:=CE Bg2.out Bg3.out (by decide); have d2:=d1.symm; have y3:w5.cell? ⟨g1,1,none⟩=some (.slice A0_1 l0_1.length c0_1):=(AK Bg1.out 1).trans rfl; have z2:w5.cell? ⟨g2,0,none⟩=some (.slice none 0 0):=(AK Bg2.out 0).trans rfl; have z3:w5.cell? ⟨g3,0,none⟩=some (.int .i64 0):=(AK Bg3.out 0).trans rfl; have f2:=AJ Bg2.out 0; have f3:=AJ Bg3.out 0)|((with_reducible refine Ah (N:=5) rfl ?_); refine Al ?hg (N:=5) ?hd (cs:= #[.int .i64 0]) (t:=3) ?hr ?_; (case hd=>rfl); (case hg=>rfl); (case hr=>first|(go_simp; done)|(go_simp; rfl)); intro g5 hg g5_w hbox hb; have Eg1g5:g1≠g5:=(by rw [hg]; exact Nat.ne_of_lt (At Bg1.out)); have Eg5g1:=Eg1g5.symm; have Eg2g5:g2≠g5:=(by rw [hg]; exact Nat.ne_of_lt (At Bg2.out)); have Eg5g2:=Eg2g5.symm; have Eg3g5:g3≠g5:=(by rw [hg]; exact Nat.ne_of_lt (At Bg3.out)); have Eg5g3:=Eg3g5.symm; have ng1_:=Aside0.mk (AO Bg1.out hb); have ng2_:=Aside0.mk (AO Bg2.out hb); have ng3_:=Aside0.mk (AO Bg3.out hb); have nHB_:=Aside0.mk (AN HB.out hb); have Gg5:=Aside0.mk (show w.heap.size≤g5 by rw [hg]; exact HB.out.size); have Bg5:=Aside0.mk hbox; clear Bg1 Bg2 Bg3 HB; have Bg1:=ng1_; have Bg2:=ng2_; have Bg3:=ng3_; have HB:=nHB_; clear hb hbox hg ng1_ ng2_ ng3_ nHB_; have kg5:=AJ Bg5.out 0; have qg5:g5_w.cell? ⟨g5,0,none⟩=some (.int .i64 0):=(AK Bg5.out 0).trans rfl)|((with_reducible refine Bf (t:=3) (p:=5) rfl ?_); refine BX (t:=3) (p:=5) (v:= ?vo_g5) (w1:=(g5_w.setCell ⟨g5,0,none⟩ (.int .i64 (l0_1.length:Int)))) ?hg ?ho ?hn ?hr ?_; (case ho=>rfl); (case hg=>rfl); (case hn=>rfl); (case hr=>first|(go_simp; done)|(go_simp; rfl)); intro sg5_w hw; have ng1_:Aside0 (sg5_w.heap[g1]? =some (.cells #[.int .i64 A7,.slice A0_1 l0_1.length c0_1] 34 (0,0))):=⟨(by rw [hw]; exact AX Bg1.out Eg1g5 _)⟩; have ng2_:Aside0 (sg5_w.heap[g2]? =some (.cells #[.slice none 0 0] 26 (0,0))):=⟨(by rw [hw]; exact AX Bg2.out Eg2g5 _)⟩; have ng3_:Aside0 (sg5_w.heap[g3]? =some (.cells #[.int .i64 0] 3 (0,0))):=⟨(by rw [hw]; exact AX Bg3.out Eg3g5 _)⟩; have ng5_:Aside0 (sg5_w.heap[g5]? =some (.cells #[.int .i64 (l0_1.length:Int)] 3 (0,0))):=⟨(by rw [hw]; exact An (cs:= #[.int .i64 0]) Bg5.out 0 _ rfl)⟩; have nHB_:Aside0 (Below w.heap.size w sg5_w):=⟨(by rw [hw]; exact AH HB.out Gg5.out)⟩; clear Bg1 Bg2 Bg3 Bg5 HB kg5 qg5; have Bg1:=ng1_; have Bg2:=ng2_; have Bg3:=ng3_; have Bg5:=ng5_; have HB:=nHB_; clear hw ng1_ ng2_ ng3_ ng5_ nHB_)|((with_reducible refine Ah (N:=6) rfl ?_); refine Al ?hg (N:=6) ?hd (cs:= #[.bool false]) (t:=4) ?hr ?_; (case hd=>rfl); (case hg=>rfl); (case hr=>first|(go_simp; done)|(go_simp; rfl)); intro g6 hg g6_w hbox hb; have Eg1g6:g1≠g6:=(by rw [hg]; exact Nat.ne_of_lt (At Bg1.out)); have Eg6g1:=Eg1g6.symm; have Eg2g6:g2≠g6:=(by rw [hg]; exact Nat.ne_of_lt (At Bg2.out)); have Eg6g2:=Eg2g6.symm; have Eg3g6:g3≠g6:=(by rw [hg]; exact Nat.ne_of_lt (At Bg3.out)); have Eg6g3:=Eg3g6.symm; have Eg5g6:g5≠g6:=(by rw [hg]; exact Nat.ne_of_lt (At Bg5.out)); have Eg6g5:=Eg5g6.symm; have ng1_:=Aside0.mk (AO Bg1.out hb); have ng2_:=Aside0.mk (AO Bg2.out hb); have ng3_:=Aside0.mk (AO Bg3.out hb); have ng5_:=Aside0.mk (AO Bg5.out hb); have nHB_:=Aside0.mk (AN HB.out hb); have Gg6:=Aside0.mk (show w.heap.size≤g6 by rw [hg]; exact HB.out.size); have Bg6:=Aside0.mk hbox; clear Bg1 Bg2 Bg3 Bg5 HB; have Bg1:=ng1_; have Bg2:=ng2_; have Bg3:=ng3_; have Bg5:=ng5_; have HB:=nHB_; clear hb hbox hg ng1_ ng2_ ng3_ ng5_ nHB_; have kg6:=AJ Bg6.out 0; have qg6:g6_w.cell? ⟨g6,0,none⟩=some (.bool false):=(AK Bg6.out 0).trans rfl)|((with_reducible refine Bf (t:=4) (p:=6) rfl ?_); refine BX (t:=4) (p:=6) (v:= ?vo_g6) (w1:=(g6_w.setCell ⟨g6,0,none⟩ (.bool false))) ?hg ?ho ?hn ?hr ?_; (case ho=>rfl); (case hg=>rfl); (case hn=>rfl); (case hr=>first|(go_simp; done)|(go_simp; rfl)); intro sg6_w hw; have ng1_:Aside0 (sg6_w.heap[g1]? =some (.cells #[.int .i64 A7,.slice A0_1 l0_1.length c0_1] 34 (0,0))):=⟨(by rw [hw]; exact AX Bg1.out Eg1g6 _)⟩; have ng2_:Aside0 (sg6_w.heap[g2]? =some (.cells #[.slice none 0 0] 26 (0,0))):=⟨(by rw [hw]; exact AX Bg2.out Eg2g6 _)⟩; have ng3_:Aside0 (sg6_w.heap[g3]? =some (.cells #[.int .i64 0] 3 (0,0))):=⟨(by rw [hw]; exact AX Bg3.out Eg3g6 _)⟩; have ng5_:Aside0 (sg6_w.heap[g5]? =some (.cells #[.int .i64 (l0_1.length:Int)] 3 (0,0))):=⟨(by rw [hw]; exact AX Bg5.out Eg5g6 _)⟩; have ng6_:Aside0 (sg6_w.heap[g6]? =some (.cells #[.bool false] 4 (0,0))):=⟨(by rw [hw]; exact An (cs:= #[.bool false]) Bg6.out 0 _ rfl)⟩; have nHB_:Aside0 (Below w.heap.size w sg6_w):=⟨(by rw [hw]; exact AH HB.out Gg6.out)⟩; clear Bg1 Bg2 Bg3 Bg5 Bg6 HB kg6 qg6; have Bg1:=ng1_; have Bg2:=ng2_; have Bg3:=ng3_; have Bg5:=ng5_; have Bg6:=ng6_; have HB:=nHB_; clear hw ng1_ ng2_ ng3_ ng5_ ng6_ nHB_)|((with_reducible refine Ah (N:=7) rfl ?_); refine Al ?hg (N:=7) ?hd (cs:= #[.nilFunc]) (t:=69) ?hr ?_; (case hd=>rfl); (case hg=>rfl); (case hr=>first|(go_simp; done)|(go_simp; rfl)); intro g7 hg g7_w hbox hb; have Eg1g7:g1≠g7:=(by rw [hg]; exact Nat.ne_of_lt (At Bg1.out)); have Eg7g1:=Eg1g7.symm; have Eg2g7:g2≠g7:=(by rw [hg]; exact Nat.ne_of_lt (At Bg2.out)); have Eg7g2:=Eg2g7.symm; have Eg3g7:g3≠g7:=(by rw [hg]; exact Nat.ne_of_lt (At Bg3.out)); have Eg7g3:=Eg3g7.symm; have Eg5g7:g5≠g7:=(by rw [hg]; exact Nat.ne_of_lt (At Bg5.out)); have Eg7g5:=Eg5g7.symm; have Eg6g7:g6≠g7:=(by rw [hg]; exact Nat.ne_of_lt (At Bg6.out)); have Eg7g6:=Eg6g7.symm; have ng1_:=Aside0.mk (AO Bg1.out hb); have ng2_:=Aside0.mk (AO Bg2.out hb); have ng3_:=Aside0.mk (AO Bg3.out hb); have ng5_:=Aside0.mk (AO Bg5.out hb); have ng6_:=Aside0.mk (AO Bg6.out hb); have nHB_:=Aside0.mk (AN HB.out hb); have Gg7:=Aside0.mk (show w.heap.size≤g7 by rw [hg]; exact HB.out.size); have Bg7:=Aside0.mk hbox; clear Bg1 Bg2 Bg3 Bg5 Bg6 HB; have Bg1:=ng1_; have Bg2:=ng2_; have Bg3:=ng3_; have Bg5:=ng5_; have Bg6:=ng6_; have HB:=nHB_; clear hb hbox hg ng1_ ng2_ ng3_ ng5_ ng6_ nHB_; have kg7:=AJ Bg7.out 0; have qg7:g7_w.cell? ⟨g7,0,none⟩=some (.nilFunc):=(AK Bg7.out 0).trans rfl)|((with_reducible refine Bf (t:=69) (p:=7) rfl ?_); refine BX (t:=69) (p:=7) (v:= ?vo_g7) (w1:=(g7_w.setCell ⟨g7,0,none⟩ (.func (.func 32) #[] #[.pointer (some ⟨g5,0,none⟩),.pointer (some ⟨g1,0,none⟩),.pointer (some ⟨g6,0,none⟩),.pointer (some ⟨g3,0,none⟩),.pointer (some ⟨g2,0,none⟩),.pointer (some ⟨g7,0,none⟩)]))) ?hg ?ho ?hn ?hr ?_; (case ho=>rfl); (case hg=>rfl); (case hn=>rfl); (case hr=>first|(go_simp; done)|(go_simp; rfl)); intro sg7_w hw; have ng1_:Aside0 (sg7_w.heap[g1]? =some (.cells #[.int .i64 A7,.slice A0_1 l0_1.length c0_1] 34 (0,0))):=⟨(by rw [hw]; exact AX Bg1.out Eg1g7 _)⟩; have ng2_:Aside0 (sg7_w.heap[g2]? =some (.cells #[.slice none 0 0] 26 (0,0))):=⟨(by rw [hw]; exact AX Bg2.out Eg2g7 _)⟩; have ng3_:Aside0 (sg7_w.heap[g3]? =some (.cells #[.int .i64 0] 3 (0,0))):=⟨(by rw [hw]; exact AX Bg3.out Eg3g7 _)⟩; have ng5_:Aside0 (sg7_w.heap[g5]? =some (.cells #[.int .i64 (l0_1.length:Int)] 3 (0,0))):=⟨(by rw [hw]; exact AX Bg5.out Eg5g7 _)⟩; have ng6_:Aside0 (sg7_w.heap[g6]? =some (.cells #[.bool false] 4 (0,0))):=⟨(by rw [hw]; exact AX Bg6.out Eg6g7 _)⟩; have ng7_:Aside0 (sg7_w.heap[g7]? =some (.cells #[.func (.func 32) #[] #[.pointer (some ⟨g5,0,none⟩),.pointer (some ⟨g1,0,none⟩),.pointer (some ⟨g6,0,none⟩),.pointer (some ⟨g3,0,none⟩),.pointer (some ⟨g2,0,none⟩),.pointer (some ⟨g7,0,none⟩)]] 69 (0,0))):=⟨(by rw [hw]; exact An (cs:= #[.nilFunc]) Bg7.out 0 _ rfl)⟩; have nHB_:Aside0 (Below w.heap.size w sg7_w):=⟨(by rw [hw]; exact AH HB.out Gg7.out)⟩; clear Bg1 Bg2 Bg3 Bg5 Bg6 Bg7 HB kg7 qg7; have Bg1:=ng1_; have Bg2:=ng2_; have Bg3:=ng3_; have Bg5:=ng5_; have Bg6:=ng6_; have Bg7:=ng7_; have HB:=nHB_; clear hw ng1_ ng2_ ng3_ ng5_ ng6_ ng7_ nHB_; have qe:sg7_w.cell? ⟨g7,0,none⟩=some (.func (.func 32) #[] #[.pointer (some ⟨g5,0,none⟩),.pointer (some ⟨g1,0,none⟩),.pointer (some ⟨g6,0,none⟩),.pointer (some ⟨g3,0,none⟩),.pointer (some ⟨g2,0,none⟩),.pointer (some ⟨g7,0,none⟩)]):=(AK Bg7.out 0).trans rfl; have HI:=Aside0.mk (show BInv ⟨A7,A0_1,c0_1,l0_1,(l0_1.length:Int),g5,g1,g6,g3,g2,g7⟩ w sg7_w ([],0,false) from ⟨Bg5.out,Bg1.out,Bg6.out,Bg3.out,⟨_,Bg2.out,Kd.R_nil _ _ _ _ _⟩,Bg7.out,HB.out,Eg5g3,Gg6.out,Gg3.out,Gg2.out,HR.out,HC.out⟩))|(go_at_fn 32; refine (hext sg7_w HI.out).mono ?_; rintro e w9 ⟨rfl,hI9,hK9⟩; have HI9:=Aside0.mk hI9; clear hI9 hK9 HI qe))
   obtain ⟨vo,ho1,ho2⟩:=HI9.out.o
   obtain ⟨Ao,co,eo⟩:=Kd.R_slice ho2
   subst eo
   have Bo:=Aside0.mk (show w9.drew.heap[g2]? =some (.cells #[.slice Ao st.1.length co] 26 (0,0)) from ho1)
   have Bl:=Aside0.mk (show w9.drew.heap[g3]? =some (.cells #[.int .i64 st.2.1] 3 (0,0)) from HI9.out.l)
   have HO:=Aside0.mk (Kd.R_drew ho2)
   have HB9:=Aside0.mk (AD HI9.out.b)
   refine Bv (n:=5) (S:=fun w'=>w'.cell? ⟨g2,0,none⟩=some (.slice Ao st.1.length co)∧w'.cell? ⟨g3,0,none⟩=some (.int .i64 st.2.1)) (ds:=[]) #[false,false,false,false,false] (by kernel_rfl) rfl rfl ⟨(AK Bo.out 0).trans rfl,(AK Bl.out 0).trans rfl⟩ (fun hHeld=> ?_)
   clear HI9 ho1 ho2 HB Bg1 Bg2 Bg3 Bg5 Bg6 Bg7
   have hne:g2≠g3:=CE Bo.out Bl.out (by decide)
   have hne':=hne.symm
   generalize w9.drew=wd at hHeld Bo Bl HO HB9 ⊢
   have fo:=AJ Bo.out 0
   have fl:=AJ Bl.out 0
   refine BB (i:=0) (N:=some 23) (v:= ?_) (a':= ?_) #[true,false,false,false,false] rfl rfl (by kernel_rfl) (fun _ _ _ h=>h) (Or.inl ⟨by rfl,?_⟩) hHeld ?_ ?_
   rotate_left
   ·rintro w' ⟨s0,s1⟩
    go_simp
    with_reducible rfl
   rotate_left
   ·simp only [Act.put,List.setIfInBounds_toArray,List.set_cons_zero,List.set_cons_succ,Ab,Ac]
    rfl
   refine BB (i:=1) (N:=some 24) (v:= ?_) (a':= ?_) #[true,true,false,false,false] rfl rfl (by kernel_rfl) (fun _ _ _ h=>h) (Or.inl ⟨by rfl,?_⟩) hHeld ?_ ?_
   rotate_left
   ·rintro w' ⟨s0,s1⟩
    go_simp
    with_reducible rfl
   rotate_left
   ·simp only [Act.put,List.setIfInBounds_toArray,List.set_cons_zero,List.set_cons_succ,Ab,Ac]
    rfl
   refine one_ (i:=2) (N:=none) #[true,true,true,false,false] rfl rfl (by kernel_rfl) (by decide) (fun K hK=> ?_)
   have hc0:=hHeld.1
   refine EV (w1:=wd.setCell ⟨g2,0,none⟩ (.slice Ao st.1.length co)) (by rfl) rfl ?_ ?_
   ·first|(go_simp; done)|(go_simp; rfl)
   have Bo2:=Aside0.mk (show (wd.setCell ⟨g2,0,none⟩ (.slice Ao st.1.length co)).heap[g2]? =some (.cells #[.slice Ao st.1.length co] 26 (0,0)) from An (cs:= #[.slice Ao st.1.length co]) Bo.out 0 _ rfl)
   have Bl2:=Aside0.mk (AX Bl.out hne' (.slice Ao st.1.length co):(wd.setCell ⟨g2,0,none⟩ (.slice Ao st.1.length co)).heap[g3]? =_)
   have HO2:=Aside0.mk (Kd.R_set HO.out Bo.out (by decide) 0 (.slice Ao st.1.length co))
   have HB10:=Aside0.mk (AH (j:=0) (v:= .slice Ao st.1.length co) HB9.out Gg2.out)
   refine hK.out _ _ ⟨(AK Bo2.out 0).trans rfl,(AK Bl2.out 0).trans rfl⟩ (fun hHeld=> ?_)
   clear hK K hc0 Bo Bl HO HB9 fo fl
   generalize wd.setCell ⟨g2,0,none⟩ (.slice Ao st.1.length co)=we at hHeld Bo2 Bl2 HO2 HB10 ⊢
   have fo:=AJ Bo2.out 0
   have fl:=AJ Bl2.out 0
   refine one_ (i:=3) (N:=none) #[true,true,true,true,false] rfl rfl (by kernel_rfl) (by decide) (fun K hK=> ?_)
   have hc0:=hHeld.2
   refine EV (w1:=we.setCell ⟨g3,0,none⟩ (.int .i64 st.2.1)) (by rfl) rfl ?_ ?_
   ·first|(go_simp; done)|(go_simp; rfl)
   have Bl3:=Aside0.mk (show (we.setCell ⟨g3,0,none⟩ (.int .i64 st.2.1)).heap[g3]? =some (.cells #[.int .i64 st.2.1] 3 (0,0)) from An (cs:= #[.int .i64 st.2.1]) Bl2.out 0 _ rfl)
   have Bo3:=Aside0.mk (AX Bo2.out hne (.int .i64 st.2.1):(we.setCell ⟨g3,0,none⟩ (.int .i64 st.2.1)).heap[g2]? =_)
   have HO3:=Aside0.mk (Kd.R_mono (Kd.R_far (p:=⟨g3,0,none⟩) HO2.out (fun k hk=>hk.2) (.int .i64 st.2.1)) (fun _ _=>trivial):Kd.R (Kd.int .i64) 3 _ w.heap.size (fun _=>True) _ _)
   have HB11:=Aside0.mk (AH (j:=0) (v:= .int .i64 st.2.1) HB10.out Gg3.out)
   refine hK.out _ _ ⟨(AK Bo3.out 0).trans rfl,(AK Bl3.out 0).trans rfl⟩ (fun hHeld=> ?_)
   clear hK K hc0 Bo2 Bl2 HO2 HB10 fo fl
   generalize we.setCell ⟨g3,0,none⟩ (.int .i64 st.2.1)=wf at hHeld Bo3 Bl3 HO3 HB11 ⊢
   refine Aj (i:=4) (N:=some 4) (v:= ?_) (a':= ?_) #[true,true,true,true,true] rfl rfl (by kernel_rfl) (fun _ _ _ h=>h) (Or.inl ⟨by rfl,?_⟩) ?_ ?_
   rotate_left
   ·intro w'
    go_simp
    with_reducible rfl
   rotate_left
   ·simp only [Act.put,List.setIfInBounds_toArray,List.set_cons_zero,List.set_cons_succ,Ab,Ac]
    rfl
   refine CD (by kernel_rfl) ?_
   go_wp2
   have z2:=hHeld.1
   have z3:=hHeld.2
   have hs:=HS.out
   cases hs
   refine bodyPost_ret (v:= .tuple #[.slice Ao st.1.length co,.int .i64 st.2.1,.int .i64 0]) ?_ rfl ?_
   ·show (results Try.f17 _).run Try.prog _=_
    rw [results,show Try.f17.results= #[.cell 2 26,.cell 3 3,.tmp 4] from rfl]
    go_simp
   ·exact ⟨_,rfl,HO3.out,HB11.out⟩
def Av.f (k:Nat):Option (Bool):=(some (([(⟨(⟨#[97]⟩:ByteArray),2,5,([]:List Int)⟩:S64),(⟨(⟨#[98]⟩:ByteArray),2,5,([]:List Int)⟩:S64),(⟨(⟨#[99]⟩:ByteArray),3,4,([]:List Int)⟩:S64)]:List (S64)):List (S64))).bind fun y205=>((AS.f k 2 y205 (([0,1,2]:List Int))).bind fun bt212=>((AV.f k 2 y205 bt212.1).bind fun bt216=>((Ae.f k 2 y205).bind fun bt218=>((Au.f k 2 y205).bind fun bt220=>(if bt212.2=0 then (if bt216.2=0 then (if bt218.2=0 then (if bt220.2.2=0 then (if (bt212.1.length:Int)=3 then (if 2<(bt212.1.length:Int) then (if ((Ai bt212.1 2).f1)=2 then (if bt216.1=5 then (if bt218.1=4 then (if bt220.2.1=(-1) then ((AM.f k 2 y205).bind fun t226=>(some t226)) else (some false)) else (some false)) else (some false)) else (some false)) else (none)) else (some false)) else (some false)) else (some false)) else (some false)) else (some false))))))
theorem Av.mono:∀k,LeO (Av.f k) (Av.f (k+1)):=by
 intro k
 unfold Av.f
 repeat' first
  |(with_reducible exact Au.mono _ _ _)
  |(with_reducible exact Ae.mono _ _ _)
  |(with_reducible exact AV.mono _ _ _ _)
  |(with_reducible exact AS.mono _ _ _ _)
  |(with_reducible exact AM.mono _ _ _)
  |(with_reducible exact LeO.refl _)
  |(with_reducible exact LeO.none _)
  |(with_reducible refine LeO.ite ?_ ?_)
  |(with_reducible refine LeO.bind ?_ (fun _=> ?_))
  |exact Au.mono _ _ _
  |exact Ae.mono _ _ _
  |exact AV.mono _ _ _ _
  |exact AS.mono _ _ _ _
  |exact AM.mono _ _ _
  |exact LeO.none _
  |refine LeO.ite ?_ ?_
  |refine LeO.bind ?_ (fun _=> ?_)
set_option maxHeartbeats 8000000 in
theorem Av.calls (k:Nat) (r:Bool) (w:World) (h:Av.f k=some r):
  Calls Try.prog 9 #[] w fun e w'=>e= .returned (.bool r)∧Below w.heap.size w w':=by
 have hu64:=Try.underlying64
 have hu34:=Try.underlying34
 have HB:=Aside0.mk (Below.refl w.heap.size w)
 have H:((some (([(⟨(⟨#[97]⟩:ByteArray),2,5,([]:List Int)⟩:S64),(⟨(⟨#[98]⟩:ByteArray),2,5,([]:List Int)⟩:S64),(⟨(⟨#[99]⟩:ByteArray),3,4,([]:List Int)⟩:S64)]:List (S64)):List (S64))).bind fun y205=>((AS.f k 2 y205 (([0,1,2]:List Int))).bind fun bt212=>((AV.f k 2 y205 bt212.1).bind fun bt216=>((Ae.f k 2 y205).bind fun bt218=>((Au.f k 2 y205).bind fun bt220=>(if bt212.2=0 then (if bt216.2=0 then (if bt218.2=0 then (if bt220.2.2=0 then (if (bt212.1.length:Int)=3 then (if 2<(bt212.1.length:Int) then (if ((Ai bt212.1 2).f1)=2 then (if bt216.1=5 then (if bt218.1=4 then (if bt220.2.1=(-1) then ((AM.f k 2 y205).bind fun t226=>(some t226)) else (some false)) else (some false)) else (some false)) else (some false)) else (none)) else (some false)) else (some false)) else (some false)) else (some false)) else (some false)))))))=some r:=h
 clear h
 obtain ⟨y205,hy205⟩:∃y_:List (S64),y_=(([(⟨(⟨#[97]⟩:ByteArray),2,5,([]:List Int)⟩:S64),(⟨(⟨#[98]⟩:ByteArray),2,5,([]:List Int)⟩:S64),(⟨(⟨#[99]⟩:ByteArray),3,4,([]:List Int)⟩:S64)]:List (S64))):=⟨_,rfl⟩
 replace H:((AS.f k 2 y205 (([0,1,2]:List Int))).bind fun bt212=>((AV.f k 2 y205 bt212.1).bind fun bt216=>((Ae.f k 2 y205).bind fun bt218=>((Au.f k 2 y205).bind fun bt220=>(if bt212.2=0 then (if bt216.2=0 then (if bt218.2=0 then (if bt220.2.2=0 then (if (bt212.1.length:Int)=3 then (if 2<(bt212.1.length:Int) then (if ((Ai bt212.1 2).f1)=2 then (if bt216.1=5 then (if bt218.1=4 then (if bt220.2.1=(-1) then ((AM.f k 2 y205).bind fun t226=>(some t226)) else (some false)) else (some false)) else (some false)) else (some false)) else (none)) else (some false)) else (some false)) else (some false)) else (some false)) else (some false))))))=some r:=by first|(rw [hy205]; with_reducible exact H)|(have H2_:=(Option.bind_some _ _).symm.trans H; rw [hy205]; with_reducible exact H2_)|(have H2_:=(Option.bind_some _ _).symm.trans H; with_reducible exact H2_)|with_reducible exact H|(rw [hy205]; exact H)|exact H
 have Ny205:=Aside0.mk hy205
 clear hy205
 obtain ⟨y209,hy209⟩:∃y_:List Int,y_=(([0,1,2]:List Int)):=⟨_,rfl⟩
 replace H:((AS.f k 2 y205 y209).bind fun bt212=>((AV.f k 2 y205 bt212.1).bind fun bt216=>((Ae.f k 2 y205).bind fun bt218=>((Au.f k 2 y205).bind fun bt220=>(if bt212.2=0 then (if bt216.2=0 then (if bt218.2=0 then (if bt220.2.2=0 then (if (bt212.1.length:Int)=3 then (if 2<(bt212.1.length:Int) then (if ((Ai bt212.1 2).f1)=2 then (if bt216.1=5 then (if bt218.1=4 then (if bt220.2.1=(-1) then ((AM.f k 2 y205).bind fun t226=>(some t226)) else (some false)) else (some false)) else (some false)) else (some false)) else (none)) else (some false)) else (some false)) else (some false)) else (some false)) else (some false))))))=some r:=by first|(rw [hy209]; with_reducible exact H)|(have H2_:=(Option.bind_some _ _).symm.trans H; rw [hy209]; with_reducible exact H2_)|(have H2_:=(Option.bind_some _ _).symm.trans H; with_reducible exact H2_)|with_reducible exact H|(rw [hy209]; exact H)|exact H
 have Ny209:=Aside0.mk hy209
 clear hy209
 replace H:=Option.bind_eq_some_iff.mp H
 obtain ⟨⟨t212,t215⟩,A10,H⟩:=H
 replace H:((AV.f k 2 y205 t212).bind fun bt216=>((Ae.f k 2 y205).bind fun bt218=>((Au.f k 2 y205).bind fun bt220=>(if t215=0 then (if bt216.2=0 then (if bt218.2=0 then (if bt220.2.2=0 then (if (t212.length:Int)=3 then (if 2<(t212.length:Int) then (if ((Ai t212 2).f1)=2 then (if bt216.1=5 then (if bt218.1=4 then (if bt220.2.1=(-1) then ((AM.f k 2 y205).bind fun t226=>(some t226)) else (some false)) else (some false)) else (some false)) else (some false)) else (none)) else (some false)) else (some false)) else (some false)) else (some false)) else (some false)))))=some r:=H
 have A1:=Aside0.mk A10
 clear A10
 replace H:=Option.bind_eq_some_iff.mp H
 obtain ⟨⟨t216,t217⟩,A20,H⟩:=H
 replace H:((Ae.f k 2 y205).bind fun bt218=>((Au.f k 2 y205).bind fun bt220=>(if t215=0 then (if t217=0 then (if bt218.2=0 then (if bt220.2.2=0 then (if (t212.length:Int)=3 then (if 2<(t212.length:Int) then (if ((Ai t212 2).f1)=2 then (if t216=5 then (if bt218.1=4 then (if bt220.2.1=(-1) then ((AM.f k 2 y205).bind fun t226=>(some t226)) else (some false)) else (some false)) else (some false)) else (some false)) else (none)) else (some false)) else (some false)) else (some false)) else (some false)) else (some false))))=some r:=H
 have A2:=Aside0.mk A20
 clear A20
 replace H:=Option.bind_eq_some_iff.mp H
 obtain ⟨⟨t218,t219⟩,A30,H⟩:=H
 replace H:((Au.f k 2 y205).bind fun bt220=>(if t215=0 then (if t217=0 then (if t219=0 then (if bt220.2.2=0 then (if (t212.length:Int)=3 then (if 2<(t212.length:Int) then (if ((Ai t212 2).f1)=2 then (if t216=5 then (if t218=4 then (if bt220.2.1=(-1) then ((AM.f k 2 y205).bind fun t226=>(some t226)) else (some false)) else (some false)) else (some false)) else (some false)) else (none)) else (some false)) else (some false)) else (some false)) else (some false)) else (some false)))=some r:=H
 have A3:=Aside0.mk A30
 clear A30
 replace H:=Option.bind_eq_some_iff.mp H
 obtain ⟨⟨t220,t223,t224⟩,A40,H⟩:=H
 replace H:(if t215=0 then (if t217=0 then (if t219=0 then (if t224=0 then (if (t212.length:Int)=3 then (if 2<(t212.length:Int) then (if ((Ai t212 2).f1)=2 then (if t216=5 then (if t218=4 then (if t223=(-1) then ((AM.f k 2 y205).bind fun t226=>(some t226)) else (some false)) else (some false)) else (some false)) else (some false)) else (none)) else (some false)) else (some false)) else (some false)) else (some false)) else (some false))=some r:=H
 have A4:=Aside0.mk A40
 clear A40
 by_cases c5:t215=0
 ·rw [if_pos c5] at H
  have c5b0:(t215==0)=true:=beq_iff_eq.mpr c5
  have c5b1:(t215 !=0)=false:=bne_eq_false_iff_eq.mpr c5
  clear c5
  by_cases c6:t217=0
  ·rw [if_pos c6] at H
   have c6b0:(t217==0)=true:=beq_iff_eq.mpr c6
   have c6b1:(t217 !=0)=false:=bne_eq_false_iff_eq.mpr c6
   clear c6
   by_cases c7:t219=0
   ·rw [if_pos c7] at H
    have c7b0:(t219==0)=true:=beq_iff_eq.mpr c7
    have c7b1:(t219 !=0)=false:=bne_eq_false_iff_eq.mpr c7
    clear c7
    by_cases c8:t224=0
    ·rw [if_pos c8] at H
     have c8b0:(t224==0)=true:=beq_iff_eq.mpr c8
     have c8b1:(t224 !=0)=false:=bne_eq_false_iff_eq.mpr c8
     clear c8
     by_cases c9:(t212.length:Int)=3
     ·rw [if_pos c9] at H
      have c9b0:((t212.length:Int)==3)=true:=beq_iff_eq.mpr c9
      have c9b1:((t212.length:Int) !=3)=false:=bne_eq_false_iff_eq.mpr c9
      clear c9
      by_cases c10:2<(t212.length:Int)
      ·rw [if_pos c10] at H
       have c10b0:decide (2<(t212.length:Int))=true:=decide_eq_true c10
       have c10b1:decide (2<t212.length)=true:=decide_eq_true (by omega)
       clear c10
       by_cases c11:((Ai t212 2).f1)=2
       ·rw [if_pos c11] at H
        have c11b0:(((Ai t212 2).f1)==2)=true:=beq_iff_eq.mpr c11
        have c11b1:(((Ai t212 2).f1) !=2)=false:=bne_eq_false_iff_eq.mpr c11
        clear c11
        by_cases c12:t216=5
        ·rw [if_pos c12] at H
         have c12b0:(t216==5)=true:=beq_iff_eq.mpr c12
         have c12b1:(t216 !=5)=false:=bne_eq_false_iff_eq.mpr c12
         clear c12
         by_cases c13:t218=4
         ·rw [if_pos c13] at H
          have c13b0:(t218==4)=true:=beq_iff_eq.mpr c13
          have c13b1:(t218 !=4)=false:=bne_eq_false_iff_eq.mpr c13
          clear c13
          by_cases c14:t223=(-1)
          ·rw [if_pos c14] at H
           have c14b0:(t223==(-1))=true:=beq_iff_eq.mpr c14
           have c14b1:(t223 !=(-1))=false:=bne_eq_false_iff_eq.mpr c14
           clear c14
           replace H:=Option.bind_eq_some_iff.mp H
           obtain ⟨t226,A150,H⟩:=H
           replace H:(some t226)=some r:=H
           have A15:=Aside0.mk A150
           clear A150
           obtain rfl:=Option.some.inj H
           go_enter Try.func9,Try.ntmps9
           go_wp2_with (first|((with_reducible refine Ah (N:=14) rfl ?_); (try (refine Aq (by rfl) ?_; dsimp only)); refine Kd.S_lit k64 _ 64 ?hg (N:=14) ?hd (xs:=([(⟨(⟨#[97]⟩:ByteArray),2,5,([]:List Int)⟩:S64),(⟨(⟨#[98]⟩:ByteArray),2,5,([]:List Int)⟩:S64),(⟨(⟨#[99]⟩:ByteArray),3,4,([]:List Int)⟩:S64)]:List (S64))) (inner:=[.string (⟨#[97]⟩:ByteArray),.int .i64 2,.int .i64 5,.slice none 0 0,.string (⟨#[98]⟩:ByteArray),.int .i64 2,.int .i64 5,.slice none 0 0,.string (⟨#[99]⟩:ByteArray),.int .i64 3,.int .i64 4,.slice none 0 0]) (ok:=fun _=>True) (okp:=fun _=>True) ?hr ?hp (fun _ hk=>hk) trivial (Below.refl _ _) (Nat.le_refl _) (by simp) ?_; (case hd=>rfl); (case hg=>rfl); (case hr=>first|(go_simp; done)|(go_simp; rfl)); (case hp=>exact (Reps.c4 (show Kd.M k64 _ _ _ (⟨(⟨#[97]⟩:ByteArray),2,5,([]:List Int)⟩:S64) [.string (⟨#[97]⟩:ByteArray),.int .i64 2,.int .i64 5,.slice none 0 0] from (B6 _ _ _ (⟨(⟨#[97]⟩:ByteArray),2,5,([]:List Int)⟩:S64) (Kd.R_nil _ _ _ _ _))) (Reps.c4 (show Kd.M k64 _ _ _ (⟨(⟨#[98]⟩:ByteArray),2,5,([]:List Int)⟩:S64) [.string (⟨#[98]⟩:ByteArray),.int .i64 2,.int .i64 5,.slice none 0 0] from (B6 _ _ _ (⟨(⟨#[98]⟩:ByteArray),2,5,([]:List Int)⟩:S64) (Kd.R_nil _ _ _ _ _))) (Reps.c4 (show Kd.M k64 _ _ _ (⟨(⟨#[99]⟩:ByteArray),3,4,([]:List Int)⟩:S64) [.string (⟨#[99]⟩:ByteArray),.int .i64 3,.int .i64 4,.slice none 0 0] from (B6 _ _ _ (⟨(⟨#[99]⟩:ByteArray),3,4,([]:List Int)⟩:S64) (Kd.R_nil _ _ _ _ _))) (Reps.none _ _))))); intro v206 w16 ho17 hb hg_ hnew_; clear hg_ hnew_; (first|rw [←Ny205.out] at ho17|(simp only [Int.reduceToNat] at ho17; rw [←Ny205.out] at ho17)); have n0_:=Aside0.mk (Kd.S_lower ho17 (AP (by repeat (first|(with_reducible first|exact HB.out|apply AE|apply AC|apply AD)|exact HB.out)))); have n1_:=Aside0.mk (AN (by repeat (first|(with_reducible first|exact HB.out|apply AE|apply AC|apply AD)|exact HB.out)) hb); clear HB; have HO207:=n0_; have HB:=n1_; clear n0_ n1_; clear hb ho17; obtain ⟨Ao18,co18,eo18⟩:=Kd.S_slice HO207.out; subst eo18)|((with_reducible refine Ah (N:=1) rfl ?_); (try (refine Aq (by rfl) ?_; dsimp only)); refine Al ?hg (N:=1) ?hd (cs:= #[.int .i64 0,.slice none 0 0]) (t:=34) ?hr ?_; (case hd=>rfl); (case hg=>rfl); (case hr=>first|(go_simp; done)|(go_simp; rfl)); intro gb208 hg w19 hbox hb; have n0_:=Aside0.mk (Kd.S_below (by (with_reducible repeat (first|apply Kd.S_alloc|apply Kd.S_drewN|apply Kd.S_drew)); exact HO207.out) hb); have n1_:=Aside0.mk (AN (by repeat (first|(with_reducible first|exact HB.out|apply AE|apply AC|apply AD)|exact HB.out)) hb); have n2_:=Aside0.mk (hbox); have n3_:=Aside0.mk ((by rw [hg]; exact (AP (by repeat (first|(with_reducible first|exact HB.out|apply AE|apply AC|apply AD)|exact HB.out))):w.heap.size≤gb208)); have n4_:=Aside0.mk ((by rw [hg]; exact (AP (by repeat (first|(with_reducible first|exact HB.out|apply AE|apply AC|apply AD)|exact HB.out))):w.heap.size≤gb208)); clear HO207; clear HB; have HO207:=n0_; have HB:=n1_; have BK208:=n2_; have GW208:=n3_; have GE208:=n4_; clear n0_ n1_ n2_ n3_ n4_; clear hb hbox hg; have hcz20_0:w19.cell? ⟨gb208,0,none⟩=some (.int .i64 0):=(AK BK208.out 0).trans rfl; have hcz20_1:w19.cell? ⟨gb208,1,none⟩=some (.slice none 0 0):=(AK BK208.out 1).trans rfl; have hfz20_0:=AJ BK208.out 0; have hfz20_1:=AJ BK208.out 1)|((with_reducible refine Ah (N:=18) rfl ?_); (try (refine Aq (by rfl) ?_; dsimp only)); refine Kd.R_lit (Kd.int .i64) _ 3 ?hg (N:=18) ?hd (xs:=([0,1,2]:List Int)) (inner:=[.int .i64 0,.int .i64 1,.int .i64 2]) (ok:=fun _=>True) (okp:=fun _=>True) ?hr ?hp (fun _ hk=>hk) trivial (Below.refl _ _) (Nat.le_refl _) (by simp) ?_; (case hd=>rfl); (case hg=>rfl); (case hr=>first|(go_simp; done)|(go_simp; rfl)); (case hp=>exact (Reps.one (show Kd.M (Kd.int .i64) _ _ _ 0 [.int .i64 0] from rfl) (Reps.one (show Kd.M (Kd.int .i64) _ _ _ 1 [.int .i64 1] from rfl) (Reps.one (show Kd.M (Kd.int .i64) _ _ _ 2 [.int .i64 2] from rfl) (Reps.none _ _))))); intro v210 w21 ho22 hb hg_ hnew_; clear hg_ hnew_; (first|rw [←Ny209.out] at ho22|(simp only [Int.reduceToNat] at ho22; rw [←Ny209.out] at ho22)); have n0_:=Aside0.mk (Kd.S_elder' (by (with_reducible repeat (first|apply Kd.S_alloc|apply Kd.S_drewN|apply Kd.S_drew)); exact (Kd.S_mono (Kd.S_far (p:=⟨gb208,1,none⟩) (Kd.S_far (p:=⟨gb208,0,none⟩) (Kd.S_types HO207.out BK208.out (by decide)) (fun _ hk=>hk.2) (.int .i64 2)) (fun _ hk=>hk.2) (.slice Ao18 y205.length co18)) (fun _ h_=>h_.1))) (Kd.R_base ho22) hb); have n1_:=Aside0.mk (Kd.R_lower ho22 (AP (by repeat (first|(with_reducible first|exact HB.out|apply AE|apply AC|apply AD|refine AH ?_ GE208.out)|exact HB.out)))); have n2_:=Aside0.mk (AO (g:=gb208) (o:= .cells #[.int .i64 2,.slice Ao18 y205.length co18] 34 (0,0)) (by (with_reducible repeat (first|refine AF ?_ _|refine AI ?_|refine AG ?_ _)); refine An (cs:= #[.int .i64 2,.slice none 0 0]) ?_ 1 _ rfl; (with_reducible repeat (first|refine AF ?_ _|refine AI ?_|refine AG ?_ _)); refine An (cs:= #[.int .i64 0,.slice none 0 0]) ?_ 0 _ rfl; (with_reducible repeat (first|refine AF ?_ _|refine AI ?_|refine AG ?_ _)); exact BK208.out) hb); have n3_:=Aside0.mk (AN (by repeat (first|(with_reducible first|exact HB.out|apply AE|apply AC|apply AD|refine AH ?_ GE208.out)|exact HB.out)) hb); clear HO207; clear BK208; clear HB; have HO207:=n0_; have HO211:=n1_; have BK208:=n2_; have HB:=n3_; clear n0_ n1_ n2_ n3_; clear hb ho22; obtain ⟨Ao23,co23,eo23⟩:=Kd.R_slice HO211.out; subst eo23)|((with_reducible refine AR (f:=15) rfl ?_); refine Ap (some 19) rfl rfl Try.func15 (by kernel_rfl) rfl #[.agg #[.int .i64 2,.slice Ao18 y205.length co18],.slice Ao23 y209.length co23] rfl (by (try simp only [List.map_toArray,List.map_cons,List.map_nil]); first|done|rfl|(simp only [List.length_drop,List.length_take]; rfl)) ?_; (with_reducible refine (AS.calls k 2 _ _ y205 _ _ y209 t212 t215 _ ?side1 ?side2 ?side3 ?side4 A1.out).mono ?_); (case side1=>repeat (first|exact (Kd.S_reads' HO207.out).2.2|(with_reducible refine Kd.C_alloc ?_ _)|(with_reducible refine Kd.C_drewN ?_ _)|(with_reducible refine Kd.C_drew ?_))); (case side2=>exact (Kd.S_reads' HO207.out).2.1); (case side3=>repeat (first|exact (Kd.R_reads' HO211.out).2.2|(with_reducible refine Kd.C_alloc ?_ _)|(with_reducible refine Kd.C_drewN ?_ _)|(with_reducible refine Kd.C_drew ?_))); (case side4=>exact (Kd.R_reads' HO211.out).2.1); rintro e w24 ⟨v213,rfl,ho0,hb⟩; refine ⟨_,rfl,?_⟩; have n0_:=Aside0.mk (Kd.S_below (by (with_reducible repeat (first|apply Kd.S_alloc|apply Kd.S_drewN|apply Kd.S_drew)); exact HO207.out) hb); have n1_:=Aside0.mk (Kd.R_below (by (with_reducible repeat (first|apply Kd.R_alloc|apply Kd.R_drewN|apply Kd.R_drew)); exact HO211.out) hb); have n2_:=Aside0.mk (Kd.R_lower ho0 (AP (by repeat (first|(with_reducible first|exact HB.out|apply AE|apply AC|apply AD|refine AH ?_ GE208.out)|exact HB.out)))); have n3_:=Aside0.mk (AO (g:=gb208) (o:= .cells #[.int .i64 2,.slice Ao18 y205.length co18] 34 (0,0)) (by (with_reducible repeat (first|refine AF ?_ _|refine AI ?_|refine AG ?_ _)); exact BK208.out) hb); have n4_:=Aside0.mk (AN (by repeat (first|(with_reducible first|exact HB.out|apply AE|apply AC|apply AD|refine AH ?_ GE208.out)|exact HB.out)) hb); clear HO207; clear HO211; clear BK208; clear HB; have HO207:=n0_; have HO211:=n1_; have HO214:=n2_; have BK208:=n3_; have HB:=n4_; clear n0_ n1_ n2_ n3_ n4_; (try clear hb); (try clear hb2); (try clear hk); (try clear hi); (try clear ho0); have hcz25_0:w24.cell? ⟨gb208,0,none⟩=some (.int .i64 2):=(AK BK208.out 0).trans rfl; have hcz25_1:w24.cell? ⟨gb208,1,none⟩=some (.slice Ao18 y205.length co18):=(AK BK208.out 1).trans rfl; have hfz25_0:=AJ BK208.out 0; have hfz25_1:=AJ BK208.out 1; obtain ⟨Ao26,co26,eo26⟩:=Kd.R_slice HO214.out; subst eo26)|((with_reducible refine AR (f:=13) rfl ?_); refine Ap (some 25) rfl rfl Try.func13 (by kernel_rfl) rfl #[.agg #[.int .i64 2,.slice Ao18 y205.length co18],.slice Ao26 t212.length co26] rfl (by (try simp only [List.map_toArray,List.map_cons,List.map_nil]); first|done|rfl|(simp only [List.length_drop,List.length_take]; rfl)) ?_; (with_reducible refine (AV.calls k 2 _ _ y205 _ _ t212 t216 t217 _ ?side1 ?side2 ?side3 ?side4 A2.out).mono ?_); (case side1=>repeat (first|exact (Kd.S_reads' HO207.out).2.2|(with_reducible refine Kd.C_alloc ?_ _)|(with_reducible refine Kd.C_drewN ?_ _)|(with_reducible refine Kd.C_drew ?_))); (case side2=>exact (Kd.S_reads' HO207.out).2.1); (case side3=>repeat (first|exact (Kd.R_reads' HO214.out).2.2|(with_reducible refine Kd.C_alloc ?_ _)|(with_reducible refine Kd.C_drewN ?_ _)|(with_reducible refine Kd.C_drew ?_))); (case side4=>exact (Kd.R_reads' HO214.out).2.1); rintro e w27 ⟨rfl,hb⟩; refine ⟨_,rfl,?_⟩; have n0_:=Aside0.mk (Kd.S_below (by (with_reducible repeat (first|apply Kd.S_alloc|apply Kd.S_drewN|apply Kd.S_drew)); exact HO207.out) hb); have n1_:=Aside0.mk (Kd.R_below (by (with_reducible repeat (first|apply Kd.R_alloc|apply Kd.R_drewN|apply Kd.R_drew)); exact HO211.out) hb); have n2_:=Aside0.mk (Kd.R_below (by (with_reducible repeat (first|apply Kd.R_alloc|apply Kd.R_drewN|apply Kd.R_drew)); exact HO214.out) hb); have n3_:=Aside0.mk (AO (g:=gb208) (o:= .cells #[.int .i64 2,.slice Ao18 y205.length co18] 34 (0,0)) (by (with_reducible repeat (first|refine AF ?_ _|refine AI ?_|refine AG ?_ _)); exact BK208.out) hb); have n4_:=Aside0.mk (AN (by repeat (first|(with_reducible first|exact HB.out|apply AE|apply AC|apply AD|refine AH ?_ GE208.out)|exact HB.out)) hb); clear HO207; clear HO211; clear HO214; clear BK208; clear HB; have HO207:=n0_; have HO211:=n1_; have HO214:=n2_; have BK208:=n3_; have HB:=n4_; clear n0_ n1_ n2_ n3_ n4_; (try clear hb); (try clear hb2); (try clear hk); (try clear hi); have hcz28_0:w27.cell? ⟨gb208,0,none⟩=some (.int .i64 2):=(AK BK208.out 0).trans rfl; have hcz28_1:w27.cell? ⟨gb208,1,none⟩=some (.slice Ao18 y205.length co18):=(AK BK208.out 1).trans rfl; have hfz28_0:=AJ BK208.out 0; have hfz28_1:=AJ BK208.out 1)|((with_reducible refine AR (f:=11) rfl ?_); refine Ap (some 30) rfl rfl Try.func11 (by kernel_rfl) rfl #[.agg #[.int .i64 2,.slice Ao18 y205.length co18]] rfl (by (try simp only [List.map_toArray,List.map_cons,List.map_nil]); first|done|rfl|(simp only [List.length_drop,List.length_take]; rfl)) ?_; (with_reducible refine (Ae.calls k 2 _ _ y205 t218 t219 _ ?side1 ?side2 A3.out).mono ?_); (case side1=>repeat (first|exact (Kd.S_reads' HO207.out).2.2|(with_reducible refine Kd.C_alloc ?_ _)|(with_reducible refine Kd.C_drewN ?_ _)|(with_reducible refine Kd.C_drew ?_))); (case side2=>exact (Kd.S_reads' HO207.out).2.1); rintro e w29 ⟨rfl,hb⟩; refine ⟨_,rfl,?_⟩; have n0_:=Aside0.mk (Kd.S_below (by (with_reducible repeat (first|apply Kd.S_alloc|apply Kd.S_drewN|apply Kd.S_drew)); exact HO207.out) hb); have n1_:=Aside0.mk (Kd.R_below (by (with_reducible repeat (first|apply Kd.R_alloc|apply Kd.R_drewN|apply Kd.R_drew)); exact HO211.out) hb); have n2_:=Aside0.mk (Kd.R_below (by (with_reducible repeat (first|apply Kd.R_alloc|apply Kd.R_drewN|apply Kd.R_drew)); exact HO214.out) hb); have n3_:=Aside0.mk (AO (g:=gb208) (o:= .cells #[.int .i64 2,.slice Ao18 y205.length co18] 34 (0,0)) (by (with_reducible repeat (first|refine AF ?_ _|refine AI ?_|refine AG ?_ _)); exact BK208.out) hb); have n4_:=Aside0.mk (AN (by repeat (first|(with_reducible first|exact HB.out|apply AE|apply AC|apply AD|refine AH ?_ GE208.out)|exact HB.out)) hb); clear HO207; clear HO211; clear HO214; clear BK208; clear HB; have HO207:=n0_; have HO211:=n1_; have HO214:=n2_; have BK208:=n3_; have HB:=n4_; clear n0_ n1_ n2_ n3_ n4_; (try clear hb); (try clear hb2); (try clear hk); (try clear hi); have hcz30_0:w29.cell? ⟨gb208,0,none⟩=some (.int .i64 2):=(AK BK208.out 0).trans rfl; have hcz30_1:w29.cell? ⟨gb208,1,none⟩=some (.slice Ao18 y205.length co18):=(AK BK208.out 1).trans rfl; have hfz30_0:=AJ BK208.out 0; have hfz30_1:=AJ BK208.out 1)|((with_reducible refine AR (f:=17) rfl ?_); refine Ap (some 35) rfl rfl Try.func17 (by kernel_rfl) rfl #[.agg #[.int .i64 2,.slice Ao18 y205.length co18]] rfl (by (try simp only [List.map_toArray,List.map_cons,List.map_nil]); first|done|rfl|(simp only [List.length_drop,List.length_take]; rfl)) ?_; (with_reducible refine (Au.calls k 2 _ _ y205 t220 t223 t224 _ ?side1 ?side2 A4.out).mono ?_); (case side1=>repeat (first|exact (Kd.S_reads' HO207.out).2.2|(with_reducible refine Kd.C_alloc ?_ _)|(with_reducible refine Kd.C_drewN ?_ _)|(with_reducible refine Kd.C_drew ?_))); (case side2=>exact (Kd.S_reads' HO207.out).2.1); rintro e w31 ⟨v221,rfl,ho0,hb⟩; refine ⟨_,rfl,?_⟩; have n0_:=Aside0.mk (Kd.S_elder' (by (with_reducible repeat (first|apply Kd.S_alloc|apply Kd.S_drewN|apply Kd.S_drew)); exact HO207.out) (Kd.R_base ho0) hb); have n1_:=Aside0.mk (Kd.R_elder' (by (with_reducible repeat (first|apply Kd.R_alloc|apply Kd.R_drewN|apply Kd.R_drew)); exact HO211.out) (Kd.R_base ho0) hb); have n2_:=Aside0.mk (Kd.R_below (by (with_reducible repeat (first|apply Kd.R_alloc|apply Kd.R_drewN|apply Kd.R_drew)); exact HO214.out) hb); have n3_:=Aside0.mk (Kd.R_lower (Kd.R_new' ho0 (Kd.R_lt (by (with_reducible repeat (first|apply Kd.R_alloc|apply Kd.R_drewN|apply Kd.R_drew)); exact HO211.out))) (AP (by repeat (first|(with_reducible first|exact HB.out|apply AE|apply AC|apply AD|refine AH ?_ GE208.out)|exact HB.out)))); have n4_:=Aside0.mk (AO (g:=gb208) (o:= .cells #[.int .i64 2,.slice Ao18 y205.length co18] 34 (0,0)) (by (with_reducible repeat (first|refine AF ?_ _|refine AI ?_|refine AG ?_ _)); exact BK208.out) hb); have n5_:=Aside0.mk (AN (by repeat (first|(with_reducible first|exact HB.out|apply AE|apply AC|apply AD|refine AH ?_ GE208.out)|exact HB.out)) hb); clear HO207; clear HO211; clear HO214; clear BK208; clear HB; have HO207:=n0_; have HO211:=n1_; have HO214:=n2_; have HO222:=n3_; have BK208:=n4_; have HB:=n5_; clear n0_ n1_ n2_ n3_ n4_ n5_; (try clear hb); (try clear hb2); (try clear hk); (try clear hi); (try clear ho0); have p225:0≤(2:Int):=(by omega); have q225:2<(t212.length:Int):=of_decide_eq_true (by first|(with_reducible assumption)|assumption); obtain ⟨ad225,e225,hx225_0,hx225_1⟩:=BF (Kd.R_reads' HO214.out).2.2 2 p225 q225; cases e225; (try simp only [show (2:Int).toNat=2 from rfl,Nat.reduceMul,Nat.reduceEqDiff,Go.Addr.add,↓reduceIte] at hx225_0); (try simp only [show (2:Int).toNat=2 from rfl,Nat.reduceMul,Nat.reduceEqDiff,Go.Addr.add,↓reduceIte] at hx225_1); have qi225:(2<t212.length)=True:=eq_true (by omega); (try rw [show ((2:Int)).toNat=2 from rfl] at hx225_0); (try rw [show 2*2=4 from rfl] at hx225_0); (try rw [show ((2:Int)).toNat=2 from rfl] at hx225_1); (try rw [show 2*2=4 from rfl] at hx225_1); replace p225:=eq_true p225; replace q225:=eq_true q225; have hcz32_0:w31.cell? ⟨gb208,0,none⟩=some (.int .i64 2):=(AK BK208.out 0).trans rfl; have hcz32_1:w31.cell? ⟨gb208,1,none⟩=some (.slice Ao18 y205.length co18):=(AK BK208.out 1).trans rfl; have hfz32_0:=AJ BK208.out 0; have hfz32_1:=AJ BK208.out 1)|(go_at_call 29; (with_reducible refine (AM.calls k 2 _ _ y205 t226 _ ?side1 ?side2 A15.out).mono ?_); (case side1=>repeat (first|exact (Kd.S_reads' HO207.out).2.2|(with_reducible refine Kd.C_alloc ?_ _)|(with_reducible refine Kd.C_drewN ?_ _)|(with_reducible refine Kd.C_drew ?_))); (case side2=>exact (Kd.S_reads' HO207.out).2.1); rintro e w33 ⟨rfl,hb⟩; have n0_:=Aside0.mk (Kd.S_below (by (with_reducible repeat (first|apply Kd.S_alloc|apply Kd.S_drewN|apply Kd.S_drew)); exact HO207.out) hb); have n1_:=Aside0.mk (Kd.R_below (by (with_reducible repeat (first|apply Kd.R_alloc|apply Kd.R_drewN|apply Kd.R_drew)); exact HO211.out) hb); have n2_:=Aside0.mk (Kd.R_below (by (with_reducible repeat (first|apply Kd.R_alloc|apply Kd.R_drewN|apply Kd.R_drew)); exact HO214.out) hb); have n3_:=Aside0.mk (Kd.R_below (by (with_reducible repeat (first|apply Kd.R_alloc|apply Kd.R_drewN|apply Kd.R_drew)); exact HO222.out) hb); have n4_:=Aside0.mk (AO (g:=gb208) (o:= .cells #[.int .i64 2,.slice Ao18 y205.length co18] 34 (0,0)) (by (with_reducible repeat (first|refine AF ?_ _|refine AI ?_|refine AG ?_ _)); exact BK208.out) hb); have n5_:=Aside0.mk (AN (by repeat (first|(with_reducible first|exact HB.out|apply AE|apply AC|apply AD|refine AH ?_ GE208.out)|exact HB.out)) hb); clear HO207; clear HO211; clear HO214; clear HO222; clear BK208; clear HB; have HO207:=n0_; have HO211:=n1_; have HO214:=n2_; have HO222:=n3_; have BK208:=n4_; have HB:=n5_; clear n0_ n1_ n2_ n3_ n4_ n5_; (try clear hb); (try clear hb2); (try clear hk); (try clear hi)))
           go_ret
           exact ⟨by first|rfl|(simp [AU,AT]<;>rfl)|(simp [*,AU,AT]<;>rfl),by repeat (first|(with_reducible first|exact HB.out|apply AE|apply AC|apply AD|refine AH ?_ GE208.out)|exact HB.out)⟩
          ·rw [if_neg c14] at H
           have c14b0:(t223==(-1))=false:=beq_eq_false_iff_ne.mpr c14
           have c14b1:(t223 !=(-1))=true:=bne_iff_ne.mpr c14
           obtain rfl:=Option.some.inj H
           go_enter Try.func9,Try.ntmps9
           go_wp2_with (first|((with_reducible refine Ah (N:=14) rfl ?_); (try (refine Aq (by rfl) ?_; dsimp only)); refine Kd.S_lit k64 _ 64 ?hg (N:=14) ?hd (xs:=([(⟨(⟨#[97]⟩:ByteArray),2,5,([]:List Int)⟩:S64),(⟨(⟨#[98]⟩:ByteArray),2,5,([]:List Int)⟩:S64),(⟨(⟨#[99]⟩:ByteArray),3,4,([]:List Int)⟩:S64)]:List (S64))) (inner:=[.string (⟨#[97]⟩:ByteArray),.int .i64 2,.int .i64 5,.slice none 0 0,.string (⟨#[98]⟩:ByteArray),.int .i64 2,.int .i64 5,.slice none 0 0,.string (⟨#[99]⟩:ByteArray),.int .i64 3,.int .i64 4,.slice none 0 0]) (ok:=fun _=>True) (okp:=fun _=>True) ?hr ?hp (fun _ hk=>hk) trivial (Below.refl _ _) (Nat.le_refl _) (by simp) ?_; (case hd=>rfl); (case hg=>rfl); (case hr=>first|(go_simp; done)|(go_simp; rfl)); (case hp=>exact (Reps.c4 (show Kd.M k64 _ _ _ (⟨(⟨#[97]⟩:ByteArray),2,5,([]:List Int)⟩:S64) [.string (⟨#[97]⟩:ByteArray),.int .i64 2,.int .i64 5,.slice none 0 0] from (B6 _ _ _ (⟨(⟨#[97]⟩:ByteArray),2,5,([]:List Int)⟩:S64) (Kd.R_nil _ _ _ _ _))) (Reps.c4 (show Kd.M k64 _ _ _ (⟨(⟨#[98]⟩:ByteArray),2,5,([]:List Int)⟩:S64) [.string (⟨#[98]⟩:ByteArray),.int .i64 2,.int .i64 5,.slice none 0 0] from (B6 _ _ _ (⟨(⟨#[98]⟩:ByteArray),2,5,([]:List Int)⟩:S64) (Kd.R_nil _ _ _ _ _))) (Reps.c4 (show Kd.M k64 _ _ _ (⟨(⟨#[99]⟩:ByteArray),3,4,([]:List Int)⟩:S64) [.string (⟨#[99]⟩:ByteArray),.int .i64 3,.int .i64 4,.slice none 0 0] from (B6 _ _ _ (⟨(⟨#[99]⟩:ByteArray),3,4,([]:List Int)⟩:S64) (Kd.R_nil _ _ _ _ _))) (Reps.none _ _))))); intro v206 w34 ho35 hb hg_ hnew_; clear hg_ hnew_; (first|rw [←Ny205.out] at ho35|(simp only [Int.reduceToNat] at ho35; rw [←Ny205.out] at ho35)); have n0_:=Aside0.mk (Kd.S_lower ho35 (AP (by repeat (first|(with_reducible first|exact HB.out|apply AE|apply AC|apply AD)|exact HB.out)))); have n1_:=Aside0.mk (AN (by repeat (first|(with_reducible first|exact HB.out|apply AE|apply AC|apply AD)|exact HB.out)) hb); clear HB; have HO207:=n0_; have HB:=n1_; clear n0_ n1_; clear hb ho35; obtain ⟨Ao36,co36,eo36⟩:=Kd.S_slice HO207.out; subst eo36)|((with_reducible refine Ah (N:=1) rfl ?_); (try (refine Aq (by rfl) ?_; dsimp only)); refine Al ?hg (N:=1) ?hd (cs:= #[.int .i64 0,.slice none 0 0]) (t:=34) ?hr ?_; (case hd=>rfl); (case hg=>rfl); (case hr=>first|(go_simp; done)|(go_simp; rfl)); intro gb208 hg w37 hbox hb; have n0_:=Aside0.mk (Kd.S_below (by (with_reducible repeat (first|apply Kd.S_alloc|apply Kd.S_drewN|apply Kd.S_drew)); exact HO207.out) hb); have n1_:=Aside0.mk (AN (by repeat (first|(with_reducible first|exact HB.out|apply AE|apply AC|apply AD)|exact HB.out)) hb); have n2_:=Aside0.mk (hbox); have n3_:=Aside0.mk ((by rw [hg]; exact (AP (by repeat (first|(with_reducible first|exact HB.out|apply AE|apply AC|apply AD)|exact HB.out))):w.heap.size≤gb208)); have n4_:=Aside0.mk ((by rw [hg]; exact (AP (by repeat (first|(with_reducible first|exact HB.out|apply AE|apply AC|apply AD)|exact HB.out))):w.heap.size≤gb208)); clear HO207; clear HB; have HO207:=n0_; have HB:=n1_; have BK208:=n2_; have GW208:=n3_; have GE208:=n4_; clear n0_ n1_ n2_ n3_ n4_; clear hb hbox hg; have hcz38_0:w37.cell? ⟨gb208,0,none⟩=some (.int .i64 0):=(AK BK208.out 0).trans rfl; have hcz38_1:w37.cell? ⟨gb208,1,none⟩=some (.slice none 0 0):=(AK BK208.out 1).trans rfl; have hfz38_0:=AJ BK208.out 0; have hfz38_1:=AJ BK208.out 1)|((with_reducible refine Ah (N:=18) rfl ?_); (try (refine Aq (by rfl) ?_; dsimp only)); refine Kd.R_lit (Kd.int .i64) _ 3 ?hg (N:=18) ?hd (xs:=([0,1,2]:List Int)) (inner:=[.int .i64 0,.int .i64 1,.int .i64 2]) (ok:=fun _=>True) (okp:=fun _=>True) ?hr ?hp (fun _ hk=>hk) trivial (Below.refl _ _) (Nat.le_refl _) (by simp) ?_; (case hd=>rfl); (case hg=>rfl); (case hr=>first|(go_simp; done)|(go_simp; rfl)); (case hp=>exact (Reps.one (show Kd.M (Kd.int .i64) _ _ _ 0 [.int .i64 0] from rfl) (Reps.one (show Kd.M (Kd.int .i64) _ _ _ 1 [.int .i64 1] from rfl) (Reps.one (show Kd.M (Kd.int .i64) _ _ _ 2 [.int .i64 2] from rfl) (Reps.none _ _))))); intro v210 w39 ho40 hb hg_ hnew_; clear hg_ hnew_; (first|rw [←Ny209.out] at ho40|(simp only [Int.reduceToNat] at ho40; rw [←Ny209.out] at ho40)); have n0_:=Aside0.mk (Kd.S_elder' (by (with_reducible repeat (first|apply Kd.S_alloc|apply Kd.S_drewN|apply Kd.S_drew)); exact (Kd.S_mono (Kd.S_far (p:=⟨gb208,1,none⟩) (Kd.S_far (p:=⟨gb208,0,none⟩) (Kd.S_types HO207.out BK208.out (by decide)) (fun _ hk=>hk.2) (.int .i64 2)) (fun _ hk=>hk.2) (.slice Ao36 y205.length co36)) (fun _ h_=>h_.1))) (Kd.R_base ho40) hb); have n1_:=Aside0.mk (Kd.R_lower ho40 (AP (by repeat (first|(with_reducible first|exact HB.out|apply AE|apply AC|apply AD|refine AH ?_ GE208.out)|exact HB.out)))); have n2_:=Aside0.mk (AO (g:=gb208) (o:= .cells #[.int .i64 2,.slice Ao36 y205.length co36] 34 (0,0)) (by (with_reducible repeat (first|refine AF ?_ _|refine AI ?_|refine AG ?_ _)); refine An (cs:= #[.int .i64 2,.slice none 0 0]) ?_ 1 _ rfl; (with_reducible repeat (first|refine AF ?_ _|refine AI ?_|refine AG ?_ _)); refine An (cs:= #[.int .i64 0,.slice none 0 0]) ?_ 0 _ rfl; (with_reducible repeat (first|refine AF ?_ _|refine AI ?_|refine AG ?_ _)); exact BK208.out) hb); have n3_:=Aside0.mk (AN (by repeat (first|(with_reducible first|exact HB.out|apply AE|apply AC|apply AD|refine AH ?_ GE208.out)|exact HB.out)) hb); clear HO207; clear BK208; clear HB; have HO207:=n0_; have HO211:=n1_; have BK208:=n2_; have HB:=n3_; clear n0_ n1_ n2_ n3_; clear hb ho40; obtain ⟨Ao41,co41,eo41⟩:=Kd.R_slice HO211.out; subst eo41)|((with_reducible refine AR (f:=15) rfl ?_); refine Ap (some 19) rfl rfl Try.func15 (by kernel_rfl) rfl #[.agg #[.int .i64 2,.slice Ao36 y205.length co36],.slice Ao41 y209.length co41] rfl (by (try simp only [List.map_toArray,List.map_cons,List.map_nil]); first|done|rfl|(simp only [List.length_drop,List.length_take]; rfl)) ?_; (with_reducible refine (AS.calls k 2 _ _ y205 _ _ y209 t212 t215 _ ?side1 ?side2 ?side3 ?side4 A1.out).mono ?_); (case side1=>repeat (first|exact (Kd.S_reads' HO207.out).2.2|(with_reducible refine Kd.C_alloc ?_ _)|(with_reducible refine Kd.C_drewN ?_ _)|(with_reducible refine Kd.C_drew ?_))); (case side2=>exact (Kd.S_reads' HO207.out).2.1); (case side3=>repeat (first|exact (Kd.R_reads' HO211.out).2.2|(with_reducible refine Kd.C_alloc ?_ _)|(with_reducible refine Kd.C_drewN ?_ _)|(with_reducible refine Kd.C_drew ?_))); (case side4=>exact (Kd.R_reads' HO211.out).2.1); rintro e w42 ⟨v213,rfl,ho0,hb⟩; refine ⟨_,rfl,?_⟩; have n0_:=Aside0.mk (Kd.S_below (by (with_reducible repeat (first|apply Kd.S_alloc|apply Kd.S_drewN|apply Kd.S_drew)); exact HO207.out) hb); have n1_:=Aside0.mk (Kd.R_below (by (with_reducible repeat (first|apply Kd.R_alloc|apply Kd.R_drewN|apply Kd.R_drew)); exact HO211.out) hb); have n2_:=Aside0.mk (Kd.R_lower ho0 (AP (by repeat (first|(with_reducible first|exact HB.out|apply AE|apply AC|apply AD|refine AH ?_ GE208.out)|exact HB.out)))); have n3_:=Aside0.mk (AO (g:=gb208) (o:= .cells #[.int .i64 2,.slice Ao36 y205.length co36] 34 (0,0)) (by (with_reducible repeat (first|refine AF ?_ _|refine AI ?_|refine AG ?_ _)); exact BK208.out) hb); have n4_:=Aside0.mk (AN (by repeat (first|(with_reducible first|exact HB.out|apply AE|apply AC|apply AD|refine AH ?_ GE208.out)|exact HB.out)) hb); clear HO207; clear HO211; clear BK208; clear HB; have HO207:=n0_; have HO211:=n1_; have HO214:=n2_; have BK208:=n3_; have HB:=n4_; clear n0_ n1_ n2_ n3_ n4_; (try clear hb); (try clear hb2); (try clear hk); (try clear hi); (try clear ho0); have hcz43_0:w42.cell? ⟨gb208,0,none⟩=some (.int .i64 2):=(AK BK208.out 0).trans rfl; have hcz43_1:w42.cell? ⟨gb208,1,none⟩=some (.slice Ao36 y205.length co36):=(AK BK208.out 1).trans rfl; have hfz43_0:=AJ BK208.out 0; have hfz43_1:=AJ BK208.out 1; obtain ⟨Ao44,co44,eo44⟩:=Kd.R_slice HO214.out; subst eo44)|((with_reducible refine AR (f:=13) rfl ?_); refine Ap (some 25) rfl rfl Try.func13 (by kernel_rfl) rfl #[.agg #[.int .i64 2,.slice Ao36 y205.length co36],.slice Ao44 t212.length co44] rfl (by (try simp only [List.map_toArray,List.map_cons,List.map_nil]); first|done|rfl|(simp only [List.length_drop,List.length_take]; rfl)) ?_; (with_reducible refine (AV.calls k 2 _ _ y205 _ _ t212 t216 t217 _ ?side1 ?side2 ?side3 ?side4 A2.out).mono ?_); (case side1=>repeat (first|exact (Kd.S_reads' HO207.out).2.2|(with_reducible refine Kd.C_alloc ?_ _)|(with_reducible refine Kd.C_drewN ?_ _)|(with_reducible refine Kd.C_drew ?_))); (case side2=>exact (Kd.S_reads' HO207.out).2.1); (case side3=>repeat (first|exact (Kd.R_reads' HO214.out).2.2|(with_reducible refine Kd.C_alloc ?_ _)|(with_reducible refine Kd.C_drewN ?_ _)|(with_reducible refine Kd.C_drew ?_))); (case side4=>exact (Kd.R_reads' HO214.out).2.1); rintro e w45 ⟨rfl,hb⟩; refine ⟨_,rfl,?_⟩; have n0_:=Aside0.mk (Kd.S_below (by (with_reducible repeat (first|apply Kd.S_alloc|apply Kd.S_drewN|apply Kd.S_drew)); exact HO207.out) hb); have n1_:=Aside0.mk (Kd.R_below (by (with_reducible repeat (first|apply Kd.R_alloc|apply Kd.R_drewN|apply Kd.R_drew)); exact HO211.out) hb); have n2_:=Aside0.mk (Kd.R_below (by (with_reducible repeat (first|apply Kd.R_alloc|apply Kd.R_drewN|apply Kd.R_drew)); exact HO214.out) hb); have n3_:=Aside0.mk (AO (g:=gb208) (o:= .cells #[.int .i64 2,.slice Ao36 y205.length co36] 34 (0,0)) (by (with_reducible repeat (first|refine AF ?_ _|refine AI ?_|refine AG ?_ _)); exact BK208.out) hb); have n4_:=Aside0.mk (AN (by repeat (first|(with_reducible first|exact HB.out|apply AE|apply AC|apply AD|refine AH ?_ GE208.out)|exact HB.out)) hb); clear HO207; clear HO211; clear HO214; clear BK208; clear HB; have HO207:=n0_; have HO211:=n1_; have HO214:=n2_; have BK208:=n3_; have HB:=n4_; clear n0_ n1_ n2_ n3_ n4_; (try clear hb); (try clear hb2); (try clear hk); (try clear hi); have hcz46_0:w45.cell? ⟨gb208,0,none⟩=some (.int .i64 2):=(AK BK208.out 0).trans rfl; have hcz46_1:w45.cell? ⟨gb208,1,none⟩=some (.slice Ao36 y205.length co36):=(AK BK208.out 1).trans rfl; have hfz46_0:=AJ BK208.out 0; have hfz46_1:=AJ BK208.out 1)|((with_reducible refine AR (f:=11) rfl ?_); refine Ap (some 30) rfl rfl Try.func11 (by kernel_rfl) rfl #[.agg #[.int .i64 2,.slice Ao36 y205.length co36]] rfl (by (try simp only [List.map_toArray,List.map_cons,List.map_nil]); first|done|rfl|(simp only [List.length_drop,List.length_take]; rfl)) ?_; (with_reducible refine (Ae.calls k 2 _ _ y205 t218 t219 _ ?side1 ?side2 A3.out).mono ?_); (case side1=>repeat (first|exact (Kd.S_reads' HO207.out).2.2|(with_reducible refine Kd.C_alloc ?_ _)|(with_reducible refine Kd.C_drewN ?_ _)|(with_reducible refine Kd.C_drew ?_))); (case side2=>exact (Kd.S_reads' HO207.out).2.1); rintro e w47 ⟨rfl,hb⟩; refine ⟨_,rfl,?_⟩; have n0_:=Aside0.mk (Kd.S_below (by (with_reducible repeat (first|apply Kd.S_alloc|apply Kd.S_drewN|apply Kd.S_drew)); exact HO207.out) hb); have n1_:=Aside0.mk (Kd.R_below (by (with_reducible repeat (first|apply Kd.R_alloc|apply Kd.R_drewN|apply Kd.R_drew)); exact HO211.out) hb); have n2_:=Aside0.mk (Kd.R_below (by (with_reducible repeat (first|apply Kd.R_alloc|apply Kd.R_drewN|apply Kd.R_drew)); exact HO214.out) hb); have n3_:=Aside0.mk (AO (g:=gb208) (o:= .cells #[.int .i64 2,.slice Ao36 y205.length co36] 34 (0,0)) (by (with_reducible repeat (first|refine AF ?_ _|refine AI ?_|refine AG ?_ _)); exact BK208.out) hb); have n4_:=Aside0.mk (AN (by repeat (first|(with_reducible first|exact HB.out|apply AE|apply AC|apply AD|refine AH ?_ GE208.out)|exact HB.out)) hb); clear HO207; clear HO211; clear HO214; clear BK208; clear HB; have HO207:=n0_; have HO211:=n1_; have HO214:=n2_; have BK208:=n3_; have HB:=n4_; clear n0_ n1_ n2_ n3_ n4_; (try clear hb); (try clear hb2); (try clear hk); (try clear hi); have hcz48_0:w47.cell? ⟨gb208,0,none⟩=some (.int .i64 2):=(AK BK208.out 0).trans rfl; have hcz48_1:w47.cell? ⟨gb208,1,none⟩=some (.slice Ao36 y205.length co36):=(AK BK208.out 1).trans rfl; have hfz48_0:=AJ BK208.out 0; have hfz48_1:=AJ BK208.out 1)|((with_reducible refine AR (f:=17) rfl ?_); refine Ap (some 35) rfl rfl Try.func17 (by kernel_rfl) rfl #[.agg #[.int .i64 2,.slice Ao36 y205.length co36]] rfl (by (try simp only [List.map_toArray,List.map_cons,List.map_nil]); first|done|rfl|(simp only [List.length_drop,List.length_take]; rfl)) ?_; (with_reducible refine (Au.calls k 2 _ _ y205 t220 t223 t224 _ ?side1 ?side2 A4.out).mono ?_); (case side1=>repeat (first|exact (Kd.S_reads' HO207.out).2.2|(with_reducible refine Kd.C_alloc ?_ _)|(with_reducible refine Kd.C_drewN ?_ _)|(with_reducible refine Kd.C_drew ?_))); (case side2=>exact (Kd.S_reads' HO207.out).2.1); rintro e w49 ⟨v221,rfl,ho0,hb⟩; refine ⟨_,rfl,?_⟩; have n0_:=Aside0.mk (Kd.S_elder' (by (with_reducible repeat (first|apply Kd.S_alloc|apply Kd.S_drewN|apply Kd.S_drew)); exact HO207.out) (Kd.R_base ho0) hb); have n1_:=Aside0.mk (Kd.R_elder' (by (with_reducible repeat (first|apply Kd.R_alloc|apply Kd.R_drewN|apply Kd.R_drew)); exact HO211.out) (Kd.R_base ho0) hb); have n2_:=Aside0.mk (Kd.R_below (by (with_reducible repeat (first|apply Kd.R_alloc|apply Kd.R_drewN|apply Kd.R_drew)); exact HO214.out) hb); have n3_:=Aside0.mk (Kd.R_lower (Kd.R_new' ho0 (Kd.R_lt (by (with_reducible repeat (first|apply Kd.R_alloc|apply Kd.R_drewN|apply Kd.R_drew)); exact HO211.out))) (AP (by repeat (first|(with_reducible first|exact HB.out|apply AE|apply AC|apply AD|refine AH ?_ GE208.out)|exact HB.out)))); have n4_:=Aside0.mk (AO (g:=gb208) (o:= .cells #[.int .i64 2,.slice Ao36 y205.length co36] 34 (0,0)) (by (with_reducible repeat (first|refine AF ?_ _|refine AI ?_|refine AG ?_ _)); exact BK208.out) hb); have n5_:=Aside0.mk (AN (by repeat (first|(with_reducible first|exact HB.out|apply AE|apply AC|apply AD|refine AH ?_ GE208.out)|exact HB.out)) hb); clear HO207; clear HO211; clear HO214; clear BK208; clear HB; have HO207:=n0_; have HO211:=n1_; have HO214:=n2_; have HO222:=n3_; have BK208:=n4_; have HB:=n5_; clear n0_ n1_ n2_ n3_ n4_ n5_; (try clear hb); (try clear hb2); (try clear hk); (try clear hi); (try clear ho0); have p225:0≤(2:Int):=(by omega); have q225:2<(t212.length:Int):=of_decide_eq_true (by first|(with_reducible assumption)|assumption); obtain ⟨ad225,e225,hx225_0,hx225_1⟩:=BF (Kd.R_reads' HO214.out).2.2 2 p225 q225; cases e225; (try simp only [show (2:Int).toNat=2 from rfl,Nat.reduceMul,Nat.reduceEqDiff,Go.Addr.add,↓reduceIte] at hx225_0); (try simp only [show (2:Int).toNat=2 from rfl,Nat.reduceMul,Nat.reduceEqDiff,Go.Addr.add,↓reduceIte] at hx225_1); have qi225:(2<t212.length)=True:=eq_true (by omega); (try rw [show ((2:Int)).toNat=2 from rfl] at hx225_0); (try rw [show 2*2=4 from rfl] at hx225_0); (try rw [show ((2:Int)).toNat=2 from rfl] at hx225_1); (try rw [show 2*2=4 from rfl] at hx225_1); replace p225:=eq_true p225; replace q225:=eq_true q225))
           go_ret
           exact ⟨by first|rfl|(simp [AU,AT]<;>rfl)|(simp [*,AU,AT]<;>rfl),by repeat (first|(with_reducible first|exact HB.out|apply AE|apply AC|apply AD|refine AH ?_ GE208.out)|exact HB.out)⟩
         ·rw [if_neg c13] at H
          have c13b0:(t218==4)=false:=beq_eq_false_iff_ne.mpr c13
          have c13b1:(t218 !=4)=true:=bne_iff_ne.mpr c13
          obtain rfl:=Option.some.inj H
          go_enter Try.func9,Try.ntmps9
          go_wp2_with (first|((with_reducible refine Ah (N:=14) rfl ?_); (try (refine Aq (by rfl) ?_; dsimp only)); refine Kd.S_lit k64 _ 64 ?hg (N:=14) ?hd (xs:=([(⟨(⟨#[97]⟩:ByteArray),2,5,([]:List Int)⟩:S64),(⟨(⟨#[98]⟩:ByteArray),2,5,([]:List Int)⟩:S64),(⟨(⟨#[99]⟩:ByteArray),3,4,([]:List Int)⟩:S64)]:List (S64))) (inner:=[.string (⟨#[97]⟩:ByteArray),.int .i64 2,.int .i64 5,.slice none 0 0,.string (⟨#[98]⟩:ByteArray),.int .i64 2,.int .i64 5,.slice none 0 0,.string (⟨#[99]⟩:ByteArray),.int .i64 3,.int .i64 4,.slice none 0 0]) (ok:=fun _=>True) (okp:=fun _=>True) ?hr ?hp (fun _ hk=>hk) trivial (Below.refl _ _) (Nat.le_refl _) (by simp) ?_; (case hd=>rfl); (case hg=>rfl); (case hr=>first|(go_simp; done)|(go_simp; rfl)); (case hp=>exact (Reps.c4 (show Kd.M k64 _ _ _ (⟨(⟨#[97]⟩:ByteArray),2,5,([]:List Int)⟩:S64) [.string (⟨#[97]⟩:ByteArray),.int .i64 2,.int .i64 5,.slice none 0 0] from (B6 _ _ _ (⟨(⟨#[97]⟩:ByteArray),2,5,([]:List Int)⟩:S64) (Kd.R_nil _ _ _ _ _))) (Reps.c4 (show Kd.M k64 _ _ _ (⟨(⟨#[98]⟩:ByteArray),2,5,([]:List Int)⟩:S64) [.string (⟨#[98]⟩:ByteArray),.int .i64 2,.int .i64 5,.slice none 0 0] from (B6 _ _ _ (⟨(⟨#[98]⟩:ByteArray),2,5,([]:List Int)⟩:S64) (Kd.R_nil _ _ _ _ _))) (Reps.c4 (show Kd.M k64 _ _ _ (⟨(⟨#[99]⟩:ByteArray),3,4,([]:List Int)⟩:S64) [.string (⟨#[99]⟩:ByteArray),.int .i64 3,.int .i64 4,.slice none 0 0] from (B6 _ _ _ (⟨(⟨#[99]⟩:ByteArray),3,4,([]:List Int)⟩:S64) (Kd.R_nil _ _ _ _ _))) (Reps.none _ _))))); intro v206 w50 ho51 hb hg_ hnew_; clear hg_ hnew_; (first|rw [←Ny205.out] at ho51|(simp only [Int.reduceToNat] at ho51; rw [←Ny205.out] at ho51)); have n0_:=Aside0.mk (Kd.S_lower ho51 (AP (by repeat (first|(with_reducible first|exact HB.out|apply AE|apply AC|apply AD)|exact HB.out)))); have n1_:=Aside0.mk (AN (by repeat (first|(with_reducible first|exact HB.out|apply AE|apply AC|apply AD)|exact HB.out)) hb); clear HB; have HO207:=n0_; have HB:=n1_; clear n0_ n1_; clear hb ho51; obtain ⟨Ao52,co52,eo52⟩:=Kd.S_slice HO207.out; subst eo52)|((with_reducible refine Ah (N:=1) rfl ?_); (try (refine Aq (by rfl) ?_; dsimp only)); refine Al ?hg (N:=1) ?hd (cs:= #[.int .i64 0,.slice none 0 0]) (t:=34) ?hr ?_; (case hd=>rfl); (case hg=>rfl); (case hr=>first|(go_simp; done)|(go_simp; rfl)); intro gb208 hg w53 hbox hb; have n0_:=Aside0.mk (Kd.S_below (by (with_reducible repeat (first|apply Kd.S_alloc|apply Kd.S_drewN|apply Kd.S_drew)); exact HO207.out) hb); have n1_:=Aside0.mk (AN (by repeat (first|(with_reducible first|exact HB.out|apply AE|apply AC|apply AD)|exact HB.out)) hb); have n2_:=Aside0.mk (hbox); have n3_:=Aside0.mk ((by rw [hg]; exact (AP (by repeat (first|(with_reducible first|exact HB.out|apply AE|apply AC|apply AD)|exact HB.out))):w.heap.size≤gb208)); have n4_:=Aside0.mk ((by rw [hg]; exact (AP (by repeat (first|(with_reducible first|exact HB.out|apply AE|apply AC|apply AD)|exact HB.out))):w.heap.size≤gb208)); clear HO207; clear HB; have HO207:=n0_; have HB:=n1_; have BK208:=n2_; have GW208:=n3_; have GE208:=n4_; clear n0_ n1_ n2_ n3_ n4_; clear hb hbox hg; have hcz54_0:w53.cell? ⟨gb208,0,none⟩=some (.int .i64 0):=(AK BK208.out 0).trans rfl; have hcz54_1:w53.cell? ⟨gb208,1,none⟩=some (.slice none 0 0):=(AK BK208.out 1).trans rfl; have hfz54_0:=AJ BK208.out 0; have hfz54_1:=AJ BK208.out 1)|((with_reducible refine Ah (N:=18) rfl ?_); (try (refine Aq (by rfl) ?_; dsimp only)); refine Kd.R_lit (Kd.int .i64) _ 3 ?hg (N:=18) ?hd (xs:=([0,1,2]:List Int)) (inner:=[.int .i64 0,.int .i64 1,.int .i64 2]) (ok:=fun _=>True) (okp:=fun _=>True) ?hr ?hp (fun _ hk=>hk) trivial (Below.refl _ _) (Nat.le_refl _) (by simp) ?_; (case hd=>rfl); (case hg=>rfl); (case hr=>first|(go_simp; done)|(go_simp; rfl)); (case hp=>exact (Reps.one (show Kd.M (Kd.int .i64) _ _ _ 0 [.int .i64 0] from rfl) (Reps.one (show Kd.M (Kd.int .i64) _ _ _ 1 [.int .i64 1] from rfl) (Reps.one (show Kd.M (Kd.int .i64) _ _ _ 2 [.int .i64 2] from rfl) (Reps.none _ _))))); intro v210 w55 ho56 hb hg_ hnew_; clear hg_ hnew_; (first|rw [←Ny209.out] at ho56|(simp only [Int.reduceToNat] at ho56; rw [←Ny209.out] at ho56)); have n0_:=Aside0.mk (Kd.S_elder' (by (with_reducible repeat (first|apply Kd.S_alloc|apply Kd.S_drewN|apply Kd.S_drew)); exact (Kd.S_mono (Kd.S_far (p:=⟨gb208,1,none⟩) (Kd.S_far (p:=⟨gb208,0,none⟩) (Kd.S_types HO207.out BK208.out (by decide)) (fun _ hk=>hk.2) (.int .i64 2)) (fun _ hk=>hk.2) (.slice Ao52 y205.length co52)) (fun _ h_=>h_.1))) (Kd.R_base ho56) hb); have n1_:=Aside0.mk (Kd.R_lower ho56 (AP (by repeat (first|(with_reducible first|exact HB.out|apply AE|apply AC|apply AD|refine AH ?_ GE208.out)|exact HB.out)))); have n2_:=Aside0.mk (AO (g:=gb208) (o:= .cells #[.int .i64 2,.slice Ao52 y205.length co52] 34 (0,0)) (by (with_reducible repeat (first|refine AF ?_ _|refine AI ?_|refine AG ?_ _)); refine An (cs:= #[.int .i64 2,.slice none 0 0]) ?_ 1 _ rfl; (with_reducible repeat (first|refine AF ?_ _|refine AI ?_|refine AG ?_ _)); refine An (cs:= #[.int .i64 0,.slice none 0 0]) ?_ 0 _ rfl; (with_reducible repeat (first|refine AF ?_ _|refine AI ?_|refine AG ?_ _)); exact BK208.out) hb); have n3_:=Aside0.mk (AN (by repeat (first|(with_reducible first|exact HB.out|apply AE|apply AC|apply AD|refine AH ?_ GE208.out)|exact HB.out)) hb); clear HO207; clear BK208; clear HB; have HO207:=n0_; have HO211:=n1_; have BK208:=n2_; have HB:=n3_; clear n0_ n1_ n2_ n3_; clear hb ho56; obtain ⟨Ao57,co57,eo57⟩:=Kd.R_slice HO211.out; subst eo57)|((with_reducible refine AR (f:=15) rfl ?_); refine Ap (some 19) rfl rfl Try.func15 (by kernel_rfl) rfl #[.agg #[.int .i64 2,.slice Ao52 y205.length co52],.slice Ao57 y209.length co57] rfl (by (try simp only [List.map_toArray,List.map_cons,List.map_nil]); first|done|rfl|(simp only [List.length_drop,List.length_take]; rfl)) ?_; (with_reducible refine (AS.calls k 2 _ _ y205 _ _ y209 t212 t215 _ ?side1 ?side2 ?side3 ?side4 A1.out).mono ?_); (case side1=>repeat (first|exact (Kd.S_reads' HO207.out).2.2|(with_reducible refine Kd.C_alloc ?_ _)|(with_reducible refine Kd.C_drewN ?_ _)|(with_reducible refine Kd.C_drew ?_))); (case side2=>exact (Kd.S_reads' HO207.out).2.1); (case side3=>repeat (first|exact (Kd.R_reads' HO211.out).2.2|(with_reducible refine Kd.C_alloc ?_ _)|(with_reducible refine Kd.C_drewN ?_ _)|(with_reducible refine Kd.C_drew ?_))); (case side4=>exact (Kd.R_reads' HO211.out).2.1); rintro e w58 ⟨v213,rfl,ho0,hb⟩; refine ⟨_,rfl,?_⟩; have n0_:=Aside0.mk (Kd.S_below (by (with_reducible repeat (first|apply Kd.S_alloc|apply Kd.S_drewN|apply Kd.S_drew)); exact HO207.out) hb); have n1_:=Aside0.mk (Kd.R_below (by (with_reducible repeat (first|apply Kd.R_alloc|apply Kd.R_drewN|apply Kd.R_drew)); exact HO211.out) hb); have n2_:=Aside0.mk (Kd.R_lower ho0 (AP (by repeat (first|(with_reducible first|exact HB.out|apply AE|apply AC|apply AD|refine AH ?_ GE208.out)|exact HB.out)))); have n3_:=Aside0.mk (AO (g:=gb208) (o:= .cells #[.int .i64 2,.slice Ao52 y205.length co52] 34 (0,0)) (by (with_reducible repeat (first|refine AF ?_ _|refine AI ?_|refine AG ?_ _)); exact BK208.out) hb); have n4_:=Aside0.mk (AN (by repeat (first|(with_reducible first|exact HB.out|apply AE|apply AC|apply AD|refine AH ?_ GE208.out)|exact HB.out)) hb); clear HO207; clear HO211; clear BK208; clear HB; have HO207:=n0_; have HO211:=n1_; have HO214:=n2_; have BK208:=n3_; have HB:=n4_; clear n0_ n1_ n2_ n3_ n4_; (try clear hb); (try clear hb2); (try clear hk); (try clear hi); (try clear ho0); have hcz59_0:w58.cell? ⟨gb208,0,none⟩=some (.int .i64 2):=(AK BK208.out 0).trans rfl; have hcz59_1:w58.cell? ⟨gb208,1,none⟩=some (.slice Ao52 y205.length co52):=(AK BK208.out 1).trans rfl; have hfz59_0:=AJ BK208.out 0; have hfz59_1:=AJ BK208.out 1; obtain ⟨Ao60,co60,eo60⟩:=Kd.R_slice HO214.out; subst eo60)|((with_reducible refine AR (f:=13) rfl ?_); refine Ap (some 25) rfl rfl Try.func13 (by kernel_rfl) rfl #[.agg #[.int .i64 2,.slice Ao52 y205.length co52],.slice Ao60 t212.length co60] rfl (by (try simp only [List.map_toArray,List.map_cons,List.map_nil]); first|done|rfl|(simp only [List.length_drop,List.length_take]; rfl)) ?_; (with_reducible refine (AV.calls k 2 _ _ y205 _ _ t212 t216 t217 _ ?side1 ?side2 ?side3 ?side4 A2.out).mono ?_); (case side1=>repeat (first|exact (Kd.S_reads' HO207.out).2.2|(with_reducible refine Kd.C_alloc ?_ _)|(with_reducible refine Kd.C_drewN ?_ _)|(with_reducible refine Kd.C_drew ?_))); (case side2=>exact (Kd.S_reads' HO207.out).2.1); (case side3=>repeat (first|exact (Kd.R_reads' HO214.out).2.2|(with_reducible refine Kd.C_alloc ?_ _)|(with_reducible refine Kd.C_drewN ?_ _)|(with_reducible refine Kd.C_drew ?_))); (case side4=>exact (Kd.R_reads' HO214.out).2.1); rintro e w61 ⟨rfl,hb⟩; refine ⟨_,rfl,?_⟩; have n0_:=Aside0.mk (Kd.S_below (by (with_reducible repeat (first|apply Kd.S_alloc|apply Kd.S_drewN|apply Kd.S_drew)); exact HO207.out) hb); have n1_:=Aside0.mk (Kd.R_below (by (with_reducible repeat (first|apply Kd.R_alloc|apply Kd.R_drewN|apply Kd.R_drew)); exact HO211.out) hb); have n2_:=Aside0.mk (Kd.R_below (by (with_reducible repeat (first|apply Kd.R_alloc|apply Kd.R_drewN|apply Kd.R_drew)); exact HO214.out) hb); have n3_:=Aside0.mk (AO (g:=gb208) (o:= .cells #[.int .i64 2,.slice Ao52 y205.length co52] 34 (0,0)) (by (with_reducible repeat (first|refine AF ?_ _|refine AI ?_|refine AG ?_ _)); exact BK208.out) hb); have n4_:=Aside0.mk (AN (by repeat (first|(with_reducible first|exact HB.out|apply AE|apply AC|apply AD|refine AH ?_ GE208.out)|exact HB.out)) hb); clear HO207; clear HO211; clear HO214; clear BK208; clear HB; have HO207:=n0_; have HO211:=n1_; have HO214:=n2_; have BK208:=n3_; have HB:=n4_; clear n0_ n1_ n2_ n3_ n4_; (try clear hb); (try clear hb2); (try clear hk); (try clear hi); have hcz62_0:w61.cell? ⟨gb208,0,none⟩=some (.int .i64 2):=(AK BK208.out 0).trans rfl; have hcz62_1:w61.cell? ⟨gb208,1,none⟩=some (.slice Ao52 y205.length co52):=(AK BK208.out 1).trans rfl; have hfz62_0:=AJ BK208.out 0; have hfz62_1:=AJ BK208.out 1)|((with_reducible refine AR (f:=11) rfl ?_); refine Ap (some 30) rfl rfl Try.func11 (by kernel_rfl) rfl #[.agg #[.int .i64 2,.slice Ao52 y205.length co52]] rfl (by (try simp only [List.map_toArray,List.map_cons,List.map_nil]); first|done|rfl|(simp only [List.length_drop,List.length_take]; rfl)) ?_; (with_reducible refine (Ae.calls k 2 _ _ y205 t218 t219 _ ?side1 ?side2 A3.out).mono ?_); (case side1=>repeat (first|exact (Kd.S_reads' HO207.out).2.2|(with_reducible refine Kd.C_alloc ?_ _)|(with_reducible refine Kd.C_drewN ?_ _)|(with_reducible refine Kd.C_drew ?_))); (case side2=>exact (Kd.S_reads' HO207.out).2.1); rintro e w63 ⟨rfl,hb⟩; refine ⟨_,rfl,?_⟩; have n0_:=Aside0.mk (Kd.S_below (by (with_reducible repeat (first|apply Kd.S_alloc|apply Kd.S_drewN|apply Kd.S_drew)); exact HO207.out) hb); have n1_:=Aside0.mk (Kd.R_below (by (with_reducible repeat (first|apply Kd.R_alloc|apply Kd.R_drewN|apply Kd.R_drew)); exact HO211.out) hb); have n2_:=Aside0.mk (Kd.R_below (by (with_reducible repeat (first|apply Kd.R_alloc|apply Kd.R_drewN|apply Kd.R_drew)); exact HO214.out) hb); have n3_:=Aside0.mk (AO (g:=gb208) (o:= .cells #[.int .i64 2,.slice Ao52 y205.length co52] 34 (0,0)) (by (with_reducible repeat (first|refine AF ?_ _|refine AI ?_|refine AG ?_ _)); exact BK208.out) hb); have n4_:=Aside0.mk (AN (by repeat (first|(with_reducible first|exact HB.out|apply AE|apply AC|apply AD|refine AH ?_ GE208.out)|exact HB.out)) hb); clear HO207; clear HO211; clear HO214; clear BK208; clear HB; have HO207:=n0_; have HO211:=n1_; have HO214:=n2_; have BK208:=n3_; have HB:=n4_; clear n0_ n1_ n2_ n3_ n4_; (try clear hb); (try clear hb2); (try clear hk); (try clear hi); have hcz64_0:w63.cell? ⟨gb208,0,none⟩=some (.int .i64 2):=(AK BK208.out 0).trans rfl; have hcz64_1:w63.cell? ⟨gb208,1,none⟩=some (.slice Ao52 y205.length co52):=(AK BK208.out 1).trans rfl; have hfz64_0:=AJ BK208.out 0; have hfz64_1:=AJ BK208.out 1)|((with_reducible refine AR (f:=17) rfl ?_); refine Ap (some 35) rfl rfl Try.func17 (by kernel_rfl) rfl #[.agg #[.int .i64 2,.slice Ao52 y205.length co52]] rfl (by (try simp only [List.map_toArray,List.map_cons,List.map_nil]); first|done|rfl|(simp only [List.length_drop,List.length_take]; rfl)) ?_; (with_reducible refine (Au.calls k 2 _ _ y205 t220 t223 t224 _ ?side1 ?side2 A4.out).mono ?_); (case side1=>repeat (first|exact (Kd.S_reads' HO207.out).2.2|(with_reducible refine Kd.C_alloc ?_ _)|(with_reducible refine Kd.C_drewN ?_ _)|(with_reducible refine Kd.C_drew ?_))); (case side2=>exact (Kd.S_reads' HO207.out).2.1); rintro e w65 ⟨v221,rfl,ho0,hb⟩; refine ⟨_,rfl,?_⟩; have n0_:=Aside0.mk (Kd.S_elder' (by (with_reducible repeat (first|apply Kd.S_alloc|apply Kd.S_drewN|apply Kd.S_drew)); exact HO207.out) (Kd.R_base ho0) hb); have n1_:=Aside0.mk (Kd.R_elder' (by (with_reducible repeat (first|apply Kd.R_alloc|apply Kd.R_drewN|apply Kd.R_drew)); exact HO211.out) (Kd.R_base ho0) hb); have n2_:=Aside0.mk (Kd.R_below (by (with_reducible repeat (first|apply Kd.R_alloc|apply Kd.R_drewN|apply Kd.R_drew)); exact HO214.out) hb); have n3_:=Aside0.mk (Kd.R_lower (Kd.R_new' ho0 (Kd.R_lt (by (with_reducible repeat (first|apply Kd.R_alloc|apply Kd.R_drewN|apply Kd.R_drew)); exact HO211.out))) (AP (by repeat (first|(with_reducible first|exact HB.out|apply AE|apply AC|apply AD|refine AH ?_ GE208.out)|exact HB.out)))); have n4_:=Aside0.mk (AO (g:=gb208) (o:= .cells #[.int .i64 2,.slice Ao52 y205.length co52] 34 (0,0)) (by (with_reducible repeat (first|refine AF ?_ _|refine AI ?_|refine AG ?_ _)); exact BK208.out) hb); have n5_:=Aside0.mk (AN (by repeat (first|(with_reducible first|exact HB.out|apply AE|apply AC|apply AD|refine AH ?_ GE208.out)|exact HB.out)) hb); clear HO207; clear HO211; clear HO214; clear BK208; clear HB; have HO207:=n0_; have HO211:=n1_; have HO214:=n2_; have HO222:=n3_; have BK208:=n4_; have HB:=n5_; clear n0_ n1_ n2_ n3_ n4_ n5_; (try clear hb); (try clear hb2); (try clear hk); (try clear hi); (try clear ho0); have p225:0≤(2:Int):=(by omega); have q225:2<(t212.length:Int):=of_decide_eq_true (by first|(with_reducible assumption)|assumption); obtain ⟨ad225,e225,hx225_0,hx225_1⟩:=BF (Kd.R_reads' HO214.out).2.2 2 p225 q225; cases e225; (try simp only [show (2:Int).toNat=2 from rfl,Nat.reduceMul,Nat.reduceEqDiff,Go.Addr.add,↓reduceIte] at hx225_0); (try simp only [show (2:Int).toNat=2 from rfl,Nat.reduceMul,Nat.reduceEqDiff,Go.Addr.add,↓reduceIte] at hx225_1); have qi225:(2<t212.length)=True:=eq_true (by omega); (try rw [show ((2:Int)).toNat=2 from rfl] at hx225_0); (try rw [show 2*2=4 from rfl] at hx225_0); (try rw [show ((2:Int)).toNat=2 from rfl] at hx225_1); (try rw [show 2*2=4 from rfl] at hx225_1); replace p225:=eq_true p225; replace q225:=eq_true q225))
          go_ret
          exact ⟨by first|rfl|(simp [AU,AT]<;>rfl)|(simp [*,AU,AT]<;>rfl),by repeat (first|(with_reducible first|exact HB.out|apply AE|apply AC|apply AD|refine AH ?_ GE208.out)|exact HB.out)⟩
        ·rw [if_neg c12] at H
         have c12b0:(t216==5)=false:=beq_eq_false_iff_ne.mpr c12
         have c12b1:(t216 !=5)=true:=bne_iff_ne.mpr c12
         obtain rfl:=Option.some.inj H
         go_enter Try.func9,Try.ntmps9
         go_wp2_with (first|((with_reducible refine Ah (N:=14) rfl ?_); (try (refine Aq (by rfl) ?_; dsimp only)); refine Kd.S_lit k64 _ 64 ?hg (N:=14) ?hd (xs:=([(⟨(⟨#[97]⟩:ByteArray),2,5,([]:List Int)⟩:S64),(⟨(⟨#[98]⟩:ByteArray),2,5,([]:List Int)⟩:S64),(⟨(⟨#[99]⟩:ByteArray),3,4,([]:List Int)⟩:S64)]:List (S64))) (inner:=[.string (⟨#[97]⟩:ByteArray),.int .i64 2,.int .i64 5,.slice none 0 0,.string (⟨#[98]⟩:ByteArray),.int .i64 2,.int .i64 5,.slice none 0 0,.string (⟨#[99]⟩:ByteArray),.int .i64 3,.int .i64 4,.slice none 0 0]) (ok:=fun _=>True) (okp:=fun _=>True) ?hr ?hp (fun _ hk=>hk) trivial (Below.refl _ _) (Nat.le_refl _) (by simp) ?_; (case hd=>rfl); (case hg=>rfl); (case hr=>first|(go_simp; done)|(go_simp; rfl)); (case hp=>exact (Reps.c4 (show Kd.M k64 _ _ _ (⟨(⟨#[97]⟩:ByteArray),2,5,([]:List Int)⟩:S64) [.string (⟨#[97]⟩:ByteArray),.int .i64 2,.int .i64 5,.slice none 0 0] from (B6 _ _ _ (⟨(⟨#[97]⟩:ByteArray),2,5,([]:List Int)⟩:S64) (Kd.R_nil _ _ _ _ _))) (Reps.c4 (show Kd.M k64 _ _ _ (⟨(⟨#[98]⟩:ByteArray),2,5,([]:List Int)⟩:S64) [.string (⟨#[98]⟩:ByteArray),.int .i64 2,.int .i64 5,.slice none 0 0] from (B6 _ _ _ (⟨(⟨#[98]⟩:ByteArray),2,5,([]:List Int)⟩:S64) (Kd.R_nil _ _ _ _ _))) (Reps.c4 (show Kd.M k64 _ _ _ (⟨(⟨#[99]⟩:ByteArray),3,4,([]:List Int)⟩:S64) [.string (⟨#[99]⟩:ByteArray),.int .i64 3,.int .i64 4,.slice none 0 0] from (B6 _ _ _ (⟨(⟨#[99]⟩:ByteArray),3,4,([]:List Int)⟩:S64) (Kd.R_nil _ _ _ _ _))) (Reps.none _ _))))); intro v206 w66 ho67 hb hg_ hnew_; clear hg_ hnew_; (first|rw [←Ny205.out] at ho67|(simp only [Int.reduceToNat] at ho67; rw [←Ny205.out] at ho67)); have n0_:=Aside0.mk (Kd.S_lower ho67 (AP (by repeat (first|(with_reducible first|exact HB.out|apply AE|apply AC|apply AD)|exact HB.out)))); have n1_:=Aside0.mk (AN (by repeat (first|(with_reducible first|exact HB.out|apply AE|apply AC|apply AD)|exact HB.out)) hb); clear HB; have HO207:=n0_; have HB:=n1_; clear n0_ n1_; clear hb ho67; obtain ⟨Ao68,co68,eo68⟩:=Kd.S_slice HO207.out; subst eo68)|((with_reducible refine Ah (N:=1) rfl ?_); (try (refine Aq (by rfl) ?_; dsimp only)); refine Al ?hg (N:=1) ?hd (cs:= #[.int .i64 0,.slice none 0 0]) (t:=34) ?hr ?_; (case hd=>rfl); (case hg=>rfl); (case hr=>first|(go_simp; done)|(go_simp; rfl)); intro gb208 hg w69 hbox hb; have n0_:=Aside0.mk (Kd.S_below (by (with_reducible repeat (first|apply Kd.S_alloc|apply Kd.S_drewN|apply Kd.S_drew)); exact HO207.out) hb); have n1_:=Aside0.mk (AN (by repeat (first|(with_reducible first|exact HB.out|apply AE|apply AC|apply AD)|exact HB.out)) hb); have n2_:=Aside0.mk (hbox); have n3_:=Aside0.mk ((by rw [hg]; exact (AP (by repeat (first|(with_reducible first|exact HB.out|apply AE|apply AC|apply AD)|exact HB.out))):w.heap.size≤gb208)); have n4_:=Aside0.mk ((by rw [hg]; exact (AP (by repeat (first|(with_reducible first|exact HB.out|apply AE|apply AC|apply AD)|exact HB.out))):w.heap.size≤gb208)); clear HO207; clear HB; have HO207:=n0_; have HB:=n1_; have BK208:=n2_; have GW208:=n3_; have GE208:=n4_; clear n0_ n1_ n2_ n3_ n4_; clear hb hbox hg; have hcz70_0:w69.cell? ⟨gb208,0,none⟩=some (.int .i64 0):=(AK BK208.out 0).trans rfl; have hcz70_1:w69.cell? ⟨gb208,1,none⟩=some (.slice none 0 0):=(AK BK208.out 1).trans rfl; have hfz70_0:=AJ BK208.out 0; have hfz70_1:=AJ BK208.out 1)|((with_reducible refine Ah (N:=18) rfl ?_); (try (refine Aq (by rfl) ?_; dsimp only)); refine Kd.R_lit (Kd.int .i64) _ 3 ?hg (N:=18) ?hd (xs:=([0,1,2]:List Int)) (inner:=[.int .i64 0,.int .i64 1,.int .i64 2]) (ok:=fun _=>True) (okp:=fun _=>True) ?hr ?hp (fun _ hk=>hk) trivial (Below.refl _ _) (Nat.le_refl _) (by simp) ?_; (case hd=>rfl); (case hg=>rfl); (case hr=>first|(go_simp; done)|(go_simp; rfl)); (case hp=>exact (Reps.one (show Kd.M (Kd.int .i64) _ _ _ 0 [.int .i64 0] from rfl) (Reps.one (show Kd.M (Kd.int .i64) _ _ _ 1 [.int .i64 1] from rfl) (Reps.one (show Kd.M (Kd.int .i64) _ _ _ 2 [.int .i64 2] from rfl) (Reps.none _ _))))); intro v210 w71 ho72 hb hg_ hnew_; clear hg_ hnew_; (first|rw [←Ny209.out] at ho72|(simp only [Int.reduceToNat] at ho72; rw [←Ny209.out] at ho72)); have n0_:=Aside0.mk (Kd.S_elder' (by (with_reducible repeat (first|apply Kd.S_alloc|apply Kd.S_drewN|apply Kd.S_drew)); exact (Kd.S_mono (Kd.S_far (p:=⟨gb208,1,none⟩) (Kd.S_far (p:=⟨gb208,0,none⟩) (Kd.S_types HO207.out BK208.out (by decide)) (fun _ hk=>hk.2) (.int .i64 2)) (fun _ hk=>hk.2) (.slice Ao68 y205.length co68)) (fun _ h_=>h_.1))) (Kd.R_base ho72) hb); have n1_:=Aside0.mk (Kd.R_lower ho72 (AP (by repeat (first|(with_reducible first|exact HB.out|apply AE|apply AC|apply AD|refine AH ?_ GE208.out)|exact HB.out)))); have n2_:=Aside0.mk (AO (g:=gb208) (o:= .cells #[.int .i64 2,.slice Ao68 y205.length co68] 34 (0,0)) (by (with_reducible repeat (first|refine AF ?_ _|refine AI ?_|refine AG ?_ _)); refine An (cs:= #[.int .i64 2,.slice none 0 0]) ?_ 1 _ rfl; (with_reducible repeat (first|refine AF ?_ _|refine AI ?_|refine AG ?_ _)); refine An (cs:= #[.int .i64 0,.slice none 0 0]) ?_ 0 _ rfl; (with_reducible repeat (first|refine AF ?_ _|refine AI ?_|refine AG ?_ _)); exact BK208.out) hb); have n3_:=Aside0.mk (AN (by repeat (first|(with_reducible first|exact HB.out|apply AE|apply AC|apply AD|refine AH ?_ GE208.out)|exact HB.out)) hb); clear HO207; clear BK208; clear HB; have HO207:=n0_; have HO211:=n1_; have BK208:=n2_; have HB:=n3_; clear n0_ n1_ n2_ n3_; clear hb ho72; obtain ⟨Ao73,co73,eo73⟩:=Kd.R_slice HO211.out; subst eo73)|((with_reducible refine AR (f:=15) rfl ?_); refine Ap (some 19) rfl rfl Try.func15 (by kernel_rfl) rfl #[.agg #[.int .i64 2,.slice Ao68 y205.length co68],.slice Ao73 y209.length co73] rfl (by (try simp only [List.map_toArray,List.map_cons,List.map_nil]); first|done|rfl|(simp only [List.length_drop,List.length_take]; rfl)) ?_; (with_reducible refine (AS.calls k 2 _ _ y205 _ _ y209 t212 t215 _ ?side1 ?side2 ?side3 ?side4 A1.out).mono ?_); (case side1=>repeat (first|exact (Kd.S_reads' HO207.out).2.2|(with_reducible refine Kd.C_alloc ?_ _)|(with_reducible refine Kd.C_drewN ?_ _)|(with_reducible refine Kd.C_drew ?_))); (case side2=>exact (Kd.S_reads' HO207.out).2.1); (case side3=>repeat (first|exact (Kd.R_reads' HO211.out).2.2|(with_reducible refine Kd.C_alloc ?_ _)|(with_reducible refine Kd.C_drewN ?_ _)|(with_reducible refine Kd.C_drew ?_))); (case side4=>exact (Kd.R_reads' HO211.out).2.1); rintro e w74 ⟨v213,rfl,ho0,hb⟩; refine ⟨_,rfl,?_⟩; have n0_:=Aside0.mk (Kd.S_below (by (with_reducible repeat (first|apply Kd.S_alloc|apply Kd.S_drewN|apply Kd.S_drew)); exact HO207.out) hb); have n1_:=Aside0.mk (Kd.R_below (by (with_reducible repeat (first|apply Kd.R_alloc|apply Kd.R_drewN|apply Kd.R_drew)); exact HO211.out) hb); have n2_:=Aside0.mk (Kd.R_lower ho0 (AP (by repeat (first|(with_reducible first|exact HB.out|apply AE|apply AC|apply AD|refine AH ?_ GE208.out)|exact HB.out)))); have n3_:=Aside0.mk (AO (g:=gb208) (o:= .cells #[.int .i64 2,.slice Ao68 y205.length co68] 34 (0,0)) (by (with_reducible repeat (first|refine AF ?_ _|refine AI ?_|refine AG ?_ _)); exact BK208.out) hb); have n4_:=Aside0.mk (AN (by repeat (first|(with_reducible first|exact HB.out|apply AE|apply AC|apply AD|refine AH ?_ GE208.out)|exact HB.out)) hb); clear HO207; clear HO211; clear BK208; clear HB; have HO207:=n0_; have HO211:=n1_; have HO214:=n2_; have BK208:=n3_; have HB:=n4_; clear n0_ n1_ n2_ n3_ n4_; (try clear hb); (try clear hb2); (try clear hk); (try clear hi); (try clear ho0); have hcz75_0:w74.cell? ⟨gb208,0,none⟩=some (.int .i64 2):=(AK BK208.out 0).trans rfl; have hcz75_1:w74.cell? ⟨gb208,1,none⟩=some (.slice Ao68 y205.length co68):=(AK BK208.out 1).trans rfl; have hfz75_0:=AJ BK208.out 0; have hfz75_1:=AJ BK208.out 1; obtain ⟨Ao76,co76,eo76⟩:=Kd.R_slice HO214.out; subst eo76)|((with_reducible refine AR (f:=13) rfl ?_); refine Ap (some 25) rfl rfl Try.func13 (by kernel_rfl) rfl #[.agg #[.int .i64 2,.slice Ao68 y205.length co68],.slice Ao76 t212.length co76] rfl (by (try simp only [List.map_toArray,List.map_cons,List.map_nil]); first|done|rfl|(simp only [List.length_drop,List.length_take]; rfl)) ?_; (with_reducible refine (AV.calls k 2 _ _ y205 _ _ t212 t216 t217 _ ?side1 ?side2 ?side3 ?side4 A2.out).mono ?_); (case side1=>repeat (first|exact (Kd.S_reads' HO207.out).2.2|(with_reducible refine Kd.C_alloc ?_ _)|(with_reducible refine Kd.C_drewN ?_ _)|(with_reducible refine Kd.C_drew ?_))); (case side2=>exact (Kd.S_reads' HO207.out).2.1); (case side3=>repeat (first|exact (Kd.R_reads' HO214.out).2.2|(with_reducible refine Kd.C_alloc ?_ _)|(with_reducible refine Kd.C_drewN ?_ _)|(with_reducible refine Kd.C_drew ?_))); (case side4=>exact (Kd.R_reads' HO214.out).2.1); rintro e w77 ⟨rfl,hb⟩; refine ⟨_,rfl,?_⟩; have n0_:=Aside0.mk (Kd.S_below (by (with_reducible repeat (first|apply Kd.S_alloc|apply Kd.S_drewN|apply Kd.S_drew)); exact HO207.out) hb); have n1_:=Aside0.mk (Kd.R_below (by (with_reducible repeat (first|apply Kd.R_alloc|apply Kd.R_drewN|apply Kd.R_drew)); exact HO211.out) hb); have n2_:=Aside0.mk (Kd.R_below (by (with_reducible repeat (first|apply Kd.R_alloc|apply Kd.R_drewN|apply Kd.R_drew)); exact HO214.out) hb); have n3_:=Aside0.mk (AO (g:=gb208) (o:= .cells #[.int .i64 2,.slice Ao68 y205.length co68] 34 (0,0)) (by (with_reducible repeat (first|refine AF ?_ _|refine AI ?_|refine AG ?_ _)); exact BK208.out) hb); have n4_:=Aside0.mk (AN (by repeat (first|(with_reducible first|exact HB.out|apply AE|apply AC|apply AD|refine AH ?_ GE208.out)|exact HB.out)) hb); clear HO207; clear HO211; clear HO214; clear BK208; clear HB; have HO207:=n0_; have HO211:=n1_; have HO214:=n2_; have BK208:=n3_; have HB:=n4_; clear n0_ n1_ n2_ n3_ n4_; (try clear hb); (try clear hb2); (try clear hk); (try clear hi); have hcz78_0:w77.cell? ⟨gb208,0,none⟩=some (.int .i64 2):=(AK BK208.out 0).trans rfl; have hcz78_1:w77.cell? ⟨gb208,1,none⟩=some (.slice Ao68 y205.length co68):=(AK BK208.out 1).trans rfl; have hfz78_0:=AJ BK208.out 0; have hfz78_1:=AJ BK208.out 1)|((with_reducible refine AR (f:=11) rfl ?_); refine Ap (some 30) rfl rfl Try.func11 (by kernel_rfl) rfl #[.agg #[.int .i64 2,.slice Ao68 y205.length co68]] rfl (by (try simp only [List.map_toArray,List.map_cons,List.map_nil]); first|done|rfl|(simp only [List.length_drop,List.length_take]; rfl)) ?_; (with_reducible refine (Ae.calls k 2 _ _ y205 t218 t219 _ ?side1 ?side2 A3.out).mono ?_); (case side1=>repeat (first|exact (Kd.S_reads' HO207.out).2.2|(with_reducible refine Kd.C_alloc ?_ _)|(with_reducible refine Kd.C_drewN ?_ _)|(with_reducible refine Kd.C_drew ?_))); (case side2=>exact (Kd.S_reads' HO207.out).2.1); rintro e w79 ⟨rfl,hb⟩; refine ⟨_,rfl,?_⟩; have n0_:=Aside0.mk (Kd.S_below (by (with_reducible repeat (first|apply Kd.S_alloc|apply Kd.S_drewN|apply Kd.S_drew)); exact HO207.out) hb); have n1_:=Aside0.mk (Kd.R_below (by (with_reducible repeat (first|apply Kd.R_alloc|apply Kd.R_drewN|apply Kd.R_drew)); exact HO211.out) hb); have n2_:=Aside0.mk (Kd.R_below (by (with_reducible repeat (first|apply Kd.R_alloc|apply Kd.R_drewN|apply Kd.R_drew)); exact HO214.out) hb); have n3_:=Aside0.mk (AO (g:=gb208) (o:= .cells #[.int .i64 2,.slice Ao68 y205.length co68] 34 (0,0)) (by (with_reducible repeat (first|refine AF ?_ _|refine AI ?_|refine AG ?_ _)); exact BK208.out) hb); have n4_:=Aside0.mk (AN (by repeat (first|(with_reducible first|exact HB.out|apply AE|apply AC|apply AD|refine AH ?_ GE208.out)|exact HB.out)) hb); clear HO207; clear HO211; clear HO214; clear BK208; clear HB; have HO207:=n0_; have HO211:=n1_; have HO214:=n2_; have BK208:=n3_; have HB:=n4_; clear n0_ n1_ n2_ n3_ n4_; (try clear hb); (try clear hb2); (try clear hk); (try clear hi); have hcz80_0:w79.cell? ⟨gb208,0,none⟩=some (.int .i64 2):=(AK BK208.out 0).trans rfl; have hcz80_1:w79.cell? ⟨gb208,1,none⟩=some (.slice Ao68 y205.length co68):=(AK BK208.out 1).trans rfl; have hfz80_0:=AJ BK208.out 0; have hfz80_1:=AJ BK208.out 1)|((with_reducible refine AR (f:=17) rfl ?_); refine Ap (some 35) rfl rfl Try.func17 (by kernel_rfl) rfl #[.agg #[.int .i64 2,.slice Ao68 y205.length co68]] rfl (by (try simp only [List.map_toArray,List.map_cons,List.map_nil]); first|done|rfl|(simp only [List.length_drop,List.length_take]; rfl)) ?_; (with_reducible refine (Au.calls k 2 _ _ y205 t220 t223 t224 _ ?side1 ?side2 A4.out).mono ?_); (case side1=>repeat (first|exact (Kd.S_reads' HO207.out).2.2|(with_reducible refine Kd.C_alloc ?_ _)|(with_reducible refine Kd.C_drewN ?_ _)|(with_reducible refine Kd.C_drew ?_))); (case side2=>exact (Kd.S_reads' HO207.out).2.1); rintro e w81 ⟨v221,rfl,ho0,hb⟩; refine ⟨_,rfl,?_⟩; have n0_:=Aside0.mk (Kd.S_elder' (by (with_reducible repeat (first|apply Kd.S_alloc|apply Kd.S_drewN|apply Kd.S_drew)); exact HO207.out) (Kd.R_base ho0) hb); have n1_:=Aside0.mk (Kd.R_elder' (by (with_reducible repeat (first|apply Kd.R_alloc|apply Kd.R_drewN|apply Kd.R_drew)); exact HO211.out) (Kd.R_base ho0) hb); have n2_:=Aside0.mk (Kd.R_below (by (with_reducible repeat (first|apply Kd.R_alloc|apply Kd.R_drewN|apply Kd.R_drew)); exact HO214.out) hb); have n3_:=Aside0.mk (Kd.R_lower (Kd.R_new' ho0 (Kd.R_lt (by (with_reducible repeat (first|apply Kd.R_alloc|apply Kd.R_drewN|apply Kd.R_drew)); exact HO211.out))) (AP (by repeat (first|(with_reducible first|exact HB.out|apply AE|apply AC|apply AD|refine AH ?_ GE208.out)|exact HB.out)))); have n4_:=Aside0.mk (AO (g:=gb208) (o:= .cells #[.int .i64 2,.slice Ao68 y205.length co68] 34 (0,0)) (by (with_reducible repeat (first|refine AF ?_ _|refine AI ?_|refine AG ?_ _)); exact BK208.out) hb); have n5_:=Aside0.mk (AN (by repeat (first|(with_reducible first|exact HB.out|apply AE|apply AC|apply AD|refine AH ?_ GE208.out)|exact HB.out)) hb); clear HO207; clear HO211; clear HO214; clear BK208; clear HB; have HO207:=n0_; have HO211:=n1_; have HO214:=n2_; have HO222:=n3_; have BK208:=n4_; have HB:=n5_; clear n0_ n1_ n2_ n3_ n4_ n5_; (try clear hb); (try clear hb2); (try clear hk); (try clear hi); (try clear ho0); have p225:0≤(2:Int):=(by omega); have q225:2<(t212.length:Int):=of_decide_eq_true (by first|(with_reducible assumption)|assumption); obtain ⟨ad225,e225,hx225_0,hx225_1⟩:=BF (Kd.R_reads' HO214.out).2.2 2 p225 q225; cases e225; (try simp only [show (2:Int).toNat=2 from rfl,Nat.reduceMul,Nat.reduceEqDiff,Go.Addr.add,↓reduceIte] at hx225_0); (try simp only [show (2:Int).toNat=2 from rfl,Nat.reduceMul,Nat.reduceEqDiff,Go.Addr.add,↓reduceIte] at hx225_1); have qi225:(2<t212.length)=True:=eq_true (by omega); (try rw [show ((2:Int)).toNat=2 from rfl] at hx225_0); (try rw [show 2*2=4 from rfl] at hx225_0); (try rw [show ((2:Int)).toNat=2 from rfl] at hx225_1); (try rw [show 2*2=4 from rfl] at hx225_1); replace p225:=eq_true p225; replace q225:=eq_true q225))
         go_ret
         exact ⟨by first|rfl|(simp [AU,AT]<;>rfl)|(simp [*,AU,AT]<;>rfl),by repeat (first|(with_reducible first|exact HB.out|apply AE|apply AC|apply AD|refine AH ?_ GE208.out)|exact HB.out)⟩
       ·rw [if_neg c11] at H
        have c11b0:(((Ai t212 2).f1)==2)=false:=beq_eq_false_iff_ne.mpr c11
        have c11b1:(((Ai t212 2).f1) !=2)=true:=bne_iff_ne.mpr c11
        obtain rfl:=Option.some.inj H
        go_enter Try.func9,Try.ntmps9
        go_wp2_with (first|((with_reducible refine Ah (N:=14) rfl ?_); (try (refine Aq (by rfl) ?_; dsimp only)); refine Kd.S_lit k64 _ 64 ?hg (N:=14) ?hd (xs:=([(⟨(⟨#[97]⟩:ByteArray),2,5,([]:List Int)⟩:S64),(⟨(⟨#[98]⟩:ByteArray),2,5,([]:List Int)⟩:S64),(⟨(⟨#[99]⟩:ByteArray),3,4,([]:List Int)⟩:S64)]:List (S64))) (inner:=[.string (⟨#[97]⟩:ByteArray),.int .i64 2,.int .i64 5,.slice none 0 0,.string (⟨#[98]⟩:ByteArray),.int .i64 2,.int .i64 5,.slice none 0 0,.string (⟨#[99]⟩:ByteArray),.int .i64 3,.int .i64 4,.slice none 0 0]) (ok:=fun _=>True) (okp:=fun _=>True) ?hr ?hp (fun _ hk=>hk) trivial (Below.refl _ _) (Nat.le_refl _) (by simp) ?_; (case hd=>rfl); (case hg=>rfl); (case hr=>first|(go_simp; done)|(go_simp; rfl)); (case hp=>exact (Reps.c4 (show Kd.M k64 _ _ _ (⟨(⟨#[97]⟩:ByteArray),2,5,([]:List Int)⟩:S64) [.string (⟨#[97]⟩:ByteArray),.int .i64 2,.int .i64 5,.slice none 0 0] from (B6 _ _ _ (⟨(⟨#[97]⟩:ByteArray),2,5,([]:List Int)⟩:S64) (Kd.R_nil _ _ _ _ _))) (Reps.c4 (show Kd.M k64 _ _ _ (⟨(⟨#[98]⟩:ByteArray),2,5,([]:List Int)⟩:S64) [.string (⟨#[98]⟩:ByteArray),.int .i64 2,.int .i64 5,.slice none 0 0] from (B6 _ _ _ (⟨(⟨#[98]⟩:ByteArray),2,5,([]:List Int)⟩:S64) (Kd.R_nil _ _ _ _ _))) (Reps.c4 (show Kd.M k64 _ _ _ (⟨(⟨#[99]⟩:ByteArray),3,4,([]:List Int)⟩:S64) [.string (⟨#[99]⟩:ByteArray),.int .i64 3,.int .i64 4,.slice none 0 0] from (B6 _ _ _ (⟨(⟨#[99]⟩:ByteArray),3,4,([]:List Int)⟩:S64) (Kd.R_nil _ _ _ _ _))) (Reps.none _ _))))); intro v206 w82 ho83 hb hg_ hnew_; clear hg_ hnew_; (first|rw [←Ny205.out] at ho83|(simp only [Int.reduceToNat] at ho83; rw [←Ny205.out] at ho83)); have n0_:=Aside0.mk (Kd.S_lower ho83 (AP (by repeat (first|(with_reducible first|exact HB.out|apply AE|apply AC|apply AD)|exact HB.out)))); have n1_:=Aside0.mk (AN (by repeat (first|(with_reducible first|exact HB.out|apply AE|apply AC|apply AD)|exact HB.out)) hb); clear HB; have HO207:=n0_; have HB:=n1_; clear n0_ n1_; clear hb ho83; obtain ⟨Ao84,co84,eo84⟩:=Kd.S_slice HO207.out; subst eo84)|((with_reducible refine Ah (N:=1) rfl ?_); (try (refine Aq (by rfl) ?_; dsimp only)); refine Al ?hg (N:=1) ?hd (cs:= #[.int .i64 0,.slice none 0 0]) (t:=34) ?hr ?_; (case hd=>rfl); (case hg=>rfl); (case hr=>first|(go_simp; done)|(go_simp; rfl)); intro gb208 hg w85 hbox hb; have n0_:=Aside0.mk (Kd.S_below (by (with_reducible repeat (first|apply Kd.S_alloc|apply Kd.S_drewN|apply Kd.S_drew)); exact HO207.out) hb); have n1_:=Aside0.mk (AN (by repeat (first|(with_reducible first|exact HB.out|apply AE|apply AC|apply AD)|exact HB.out)) hb); have n2_:=Aside0.mk (hbox); have n3_:=Aside0.mk ((by rw [hg]; exact (AP (by repeat (first|(with_reducible first|exact HB.out|apply AE|apply AC|apply AD)|exact HB.out))):w.heap.size≤gb208)); have n4_:=Aside0.mk ((by rw [hg]; exact (AP (by repeat (first|(with_reducible first|exact HB.out|apply AE|apply AC|apply AD)|exact HB.out))):w.heap.size≤gb208)); clear HO207; clear HB; have HO207:=n0_; have HB:=n1_; have BK208:=n2_; have GW208:=n3_; have GE208:=n4_; clear n0_ n1_ n2_ n3_ n4_; clear hb hbox hg; have hcz86_0:w85.cell? ⟨gb208,0,none⟩=some (.int .i64 0):=(AK BK208.out 0).trans rfl; have hcz86_1:w85.cell? ⟨gb208,1,none⟩=some (.slice none 0 0):=(AK BK208.out 1).trans rfl; have hfz86_0:=AJ BK208.out 0; have hfz86_1:=AJ BK208.out 1)|((with_reducible refine Ah (N:=18) rfl ?_); (try (refine Aq (by rfl) ?_; dsimp only)); refine Kd.R_lit (Kd.int .i64) _ 3 ?hg (N:=18) ?hd (xs:=([0,1,2]:List Int)) (inner:=[.int .i64 0,.int .i64 1,.int .i64 2]) (ok:=fun _=>True) (okp:=fun _=>True) ?hr ?hp (fun _ hk=>hk) trivial (Below.refl _ _) (Nat.le_refl _) (by simp) ?_; (case hd=>rfl); (case hg=>rfl); (case hr=>first|(go_simp; done)|(go_simp; rfl)); (case hp=>exact (Reps.one (show Kd.M (Kd.int .i64) _ _ _ 0 [.int .i64 0] from rfl) (Reps.one (show Kd.M (Kd.int .i64) _ _ _ 1 [.int .i64 1] from rfl) (Reps.one (show Kd.M (Kd.int .i64) _ _ _ 2 [.int .i64 2] from rfl) (Reps.none _ _))))); intro v210 w87 ho88 hb hg_ hnew_; clear hg_ hnew_; (first|rw [←Ny209.out] at ho88|(simp only [Int.reduceToNat] at ho88; rw [←Ny209.out] at ho88)); have n0_:=Aside0.mk (Kd.S_elder' (by (with_reducible repeat (first|apply Kd.S_alloc|apply Kd.S_drewN|apply Kd.S_drew)); exact (Kd.S_mono (Kd.S_far (p:=⟨gb208,1,none⟩) (Kd.S_far (p:=⟨gb208,0,none⟩) (Kd.S_types HO207.out BK208.out (by decide)) (fun _ hk=>hk.2) (.int .i64 2)) (fun _ hk=>hk.2) (.slice Ao84 y205.length co84)) (fun _ h_=>h_.1))) (Kd.R_base ho88) hb); have n1_:=Aside0.mk (Kd.R_lower ho88 (AP (by repeat (first|(with_reducible first|exact HB.out|apply AE|apply AC|apply AD|refine AH ?_ GE208.out)|exact HB.out)))); have n2_:=Aside0.mk (AO (g:=gb208) (o:= .cells #[.int .i64 2,.slice Ao84 y205.length co84] 34 (0,0)) (by (with_reducible repeat (first|refine AF ?_ _|refine AI ?_|refine AG ?_ _)); refine An (cs:= #[.int .i64 2,.slice none 0 0]) ?_ 1 _ rfl; (with_reducible repeat (first|refine AF ?_ _|refine AI ?_|refine AG ?_ _)); refine An (cs:= #[.int .i64 0,.slice none 0 0]) ?_ 0 _ rfl; (with_reducible repeat (first|refine AF ?_ _|refine AI ?_|refine AG ?_ _)); exact BK208.out) hb); have n3_:=Aside0.mk (AN (by repeat (first|(with_reducible first|exact HB.out|apply AE|apply AC|apply AD|refine AH ?_ GE208.out)|exact HB.out)) hb); clear HO207; clear BK208; clear HB; have HO207:=n0_; have HO211:=n1_; have BK208:=n2_; have HB:=n3_; clear n0_ n1_ n2_ n3_; clear hb ho88; obtain ⟨Ao89,co89,eo89⟩:=Kd.R_slice HO211.out; subst eo89)|((with_reducible refine AR (f:=15) rfl ?_); refine Ap (some 19) rfl rfl Try.func15 (by kernel_rfl) rfl #[.agg #[.int .i64 2,.slice Ao84 y205.length co84],.slice Ao89 y209.length co89] rfl (by (try simp only [List.map_toArray,List.map_cons,List.map_nil]); first|done|rfl|(simp only [List.length_drop,List.length_take]; rfl)) ?_; (with_reducible refine (AS.calls k 2 _ _ y205 _ _ y209 t212 t215 _ ?side1 ?side2 ?side3 ?side4 A1.out).mono ?_); (case side1=>repeat (first|exact (Kd.S_reads' HO207.out).2.2|(with_reducible refine Kd.C_alloc ?_ _)|(with_reducible refine Kd.C_drewN ?_ _)|(with_reducible refine Kd.C_drew ?_))); (case side2=>exact (Kd.S_reads' HO207.out).2.1); (case side3=>repeat (first|exact (Kd.R_reads' HO211.out).2.2|(with_reducible refine Kd.C_alloc ?_ _)|(with_reducible refine Kd.C_drewN ?_ _)|(with_reducible refine Kd.C_drew ?_))); (case side4=>exact (Kd.R_reads' HO211.out).2.1); rintro e w90 ⟨v213,rfl,ho0,hb⟩; refine ⟨_,rfl,?_⟩; have n0_:=Aside0.mk (Kd.S_below (by (with_reducible repeat (first|apply Kd.S_alloc|apply Kd.S_drewN|apply Kd.S_drew)); exact HO207.out) hb); have n1_:=Aside0.mk (Kd.R_below (by (with_reducible repeat (first|apply Kd.R_alloc|apply Kd.R_drewN|apply Kd.R_drew)); exact HO211.out) hb); have n2_:=Aside0.mk (Kd.R_lower ho0 (AP (by repeat (first|(with_reducible first|exact HB.out|apply AE|apply AC|apply AD|refine AH ?_ GE208.out)|exact HB.out)))); have n3_:=Aside0.mk (AO (g:=gb208) (o:= .cells #[.int .i64 2,.slice Ao84 y205.length co84] 34 (0,0)) (by (with_reducible repeat (first|refine AF ?_ _|refine AI ?_|refine AG ?_ _)); exact BK208.out) hb); have n4_:=Aside0.mk (AN (by repeat (first|(with_reducible first|exact HB.out|apply AE|apply AC|apply AD|refine AH ?_ GE208.out)|exact HB.out)) hb); clear HO207; clear HO211; clear BK208; clear HB; have HO207:=n0_; have HO211:=n1_; have HO214:=n2_; have BK208:=n3_; have HB:=n4_; clear n0_ n1_ n2_ n3_ n4_; (try clear hb); (try clear hb2); (try clear hk); (try clear hi); (try clear ho0); have hcz91_0:w90.cell? ⟨gb208,0,none⟩=some (.int .i64 2):=(AK BK208.out 0).trans rfl; have hcz91_1:w90.cell? ⟨gb208,1,none⟩=some (.slice Ao84 y205.length co84):=(AK BK208.out 1).trans rfl; have hfz91_0:=AJ BK208.out 0; have hfz91_1:=AJ BK208.out 1; obtain ⟨Ao92,co92,eo92⟩:=Kd.R_slice HO214.out; subst eo92)|((with_reducible refine AR (f:=13) rfl ?_); refine Ap (some 25) rfl rfl Try.func13 (by kernel_rfl) rfl #[.agg #[.int .i64 2,.slice Ao84 y205.length co84],.slice Ao92 t212.length co92] rfl (by (try simp only [List.map_toArray,List.map_cons,List.map_nil]); first|done|rfl|(simp only [List.length_drop,List.length_take]; rfl)) ?_; (with_reducible refine (AV.calls k 2 _ _ y205 _ _ t212 t216 t217 _ ?side1 ?side2 ?side3 ?side4 A2.out).mono ?_); (case side1=>repeat (first|exact (Kd.S_reads' HO207.out).2.2|(with_reducible refine Kd.C_alloc ?_ _)|(with_reducible refine Kd.C_drewN ?_ _)|(with_reducible refine Kd.C_drew ?_))); (case side2=>exact (Kd.S_reads' HO207.out).2.1); (case side3=>repeat (first|exact (Kd.R_reads' HO214.out).2.2|(with_reducible refine Kd.C_alloc ?_ _)|(with_reducible refine Kd.C_drewN ?_ _)|(with_reducible refine Kd.C_drew ?_))); (case side4=>exact (Kd.R_reads' HO214.out).2.1); rintro e w93 ⟨rfl,hb⟩; refine ⟨_,rfl,?_⟩; have n0_:=Aside0.mk (Kd.S_below (by (with_reducible repeat (first|apply Kd.S_alloc|apply Kd.S_drewN|apply Kd.S_drew)); exact HO207.out) hb); have n1_:=Aside0.mk (Kd.R_below (by (with_reducible repeat (first|apply Kd.R_alloc|apply Kd.R_drewN|apply Kd.R_drew)); exact HO211.out) hb); have n2_:=Aside0.mk (Kd.R_below (by (with_reducible repeat (first|apply Kd.R_alloc|apply Kd.R_drewN|apply Kd.R_drew)); exact HO214.out) hb); have n3_:=Aside0.mk (AO (g:=gb208) (o:= .cells #[.int .i64 2,.slice Ao84 y205.length co84] 34 (0,0)) (by (with_reducible repeat (first|refine AF ?_ _|refine AI ?_|refine AG ?_ _)); exact BK208.out) hb); have n4_:=Aside0.mk (AN (by repeat (first|(with_reducible first|exact HB.out|apply AE|apply AC|apply AD|refine AH ?_ GE208.out)|exact HB.out)) hb); clear HO207; clear HO211; clear HO214; clear BK208; clear HB; have HO207:=n0_; have HO211:=n1_; have HO214:=n2_; have BK208:=n3_; have HB:=n4_; clear n0_ n1_ n2_ n3_ n4_; (try clear hb); (try clear hb2); (try clear hk); (try clear hi); have hcz94_0:w93.cell? ⟨gb208,0,none⟩=some (.int .i64 2):=(AK BK208.out 0).trans rfl; have hcz94_1:w93.cell? ⟨gb208,1,none⟩=some (.slice Ao84 y205.length co84):=(AK BK208.out 1).trans rfl; have hfz94_0:=AJ BK208.out 0; have hfz94_1:=AJ BK208.out 1)|((with_reducible refine AR (f:=11) rfl ?_); refine Ap (some 30) rfl rfl Try.func11 (by kernel_rfl) rfl #[.agg #[.int .i64 2,.slice Ao84 y205.length co84]] rfl (by (try simp only [List.map_toArray,List.map_cons,List.map_nil]); first|done|rfl|(simp only [List.length_drop,List.length_take]; rfl)) ?_; (with_reducible refine (Ae.calls k 2 _ _ y205 t218 t219 _ ?side1 ?side2 A3.out).mono ?_); (case side1=>repeat (first|exact (Kd.S_reads' HO207.out).2.2|(with_reducible refine Kd.C_alloc ?_ _)|(with_reducible refine Kd.C_drewN ?_ _)|(with_reducible refine Kd.C_drew ?_))); (case side2=>exact (Kd.S_reads' HO207.out).2.1); rintro e w95 ⟨rfl,hb⟩; refine ⟨_,rfl,?_⟩; have n0_:=Aside0.mk (Kd.S_below (by (with_reducible repeat (first|apply Kd.S_alloc|apply Kd.S_drewN|apply Kd.S_drew)); exact HO207.out) hb); have n1_:=Aside0.mk (Kd.R_below (by (with_reducible repeat (first|apply Kd.R_alloc|apply Kd.R_drewN|apply Kd.R_drew)); exact HO211.out) hb); have n2_:=Aside0.mk (Kd.R_below (by (with_reducible repeat (first|apply Kd.R_alloc|apply Kd.R_drewN|apply Kd.R_drew)); exact HO214.out) hb); have n3_:=Aside0.mk (AO (g:=gb208) (o:= .cells #[.int .i64 2,.slice Ao84 y205.length co84] 34 (0,0)) (by (with_reducible repeat (first|refine AF ?_ _|refine AI ?_|refine AG ?_ _)); exact BK208.out) hb); have n4_:=Aside0.mk (AN (by repeat (first|(with_reducible first|exact HB.out|apply AE|apply AC|apply AD|refine AH ?_ GE208.out)|exact HB.out)) hb); clear HO207; clear HO211; clear HO214; clear BK208; clear HB; have HO207:=n0_; have HO211:=n1_; have HO214:=n2_; have BK208:=n3_; have HB:=n4_; clear n0_ n1_ n2_ n3_ n4_; (try clear hb); (try clear hb2); (try clear hk); (try clear hi); have hcz96_0:w95.cell? ⟨gb208,0,none⟩=some (.int .i64 2):=(AK BK208.out 0).trans rfl; have hcz96_1:w95.cell? ⟨gb208,1,none⟩=some (.slice Ao84 y205.length co84):=(AK BK208.out 1).trans rfl; have hfz96_0:=AJ BK208.out 0; have hfz96_1:=AJ BK208.out 1)|((with_reducible refine AR (f:=17) rfl ?_); refine Ap (some 35) rfl rfl Try.func17 (by kernel_rfl) rfl #[.agg #[.int .i64 2,.slice Ao84 y205.length co84]] rfl (by (try simp only [List.map_toArray,List.map_cons,List.map_nil]); first|done|rfl|(simp only [List.length_drop,List.length_take]; rfl)) ?_; (with_reducible refine (Au.calls k 2 _ _ y205 t220 t223 t224 _ ?side1 ?side2 A4.out).mono ?_); (case side1=>repeat (first|exact (Kd.S_reads' HO207.out).2.2|(with_reducible refine Kd.C_alloc ?_ _)|(with_reducible refine Kd.C_drewN ?_ _)|(with_reducible refine Kd.C_drew ?_))); (case side2=>exact (Kd.S_reads' HO207.out).2.1); rintro e w97 ⟨v221,rfl,ho0,hb⟩; refine ⟨_,rfl,?_⟩; have n0_:=Aside0.mk (Kd.S_elder' (by (with_reducible repeat (first|apply Kd.S_alloc|apply Kd.S_drewN|apply Kd.S_drew)); exact HO207.out) (Kd.R_base ho0) hb); have n1_:=Aside0.mk (Kd.R_elder' (by (with_reducible repeat (first|apply Kd.R_alloc|apply Kd.R_drewN|apply Kd.R_drew)); exact HO211.out) (Kd.R_base ho0) hb); have n2_:=Aside0.mk (Kd.R_below (by (with_reducible repeat (first|apply Kd.R_alloc|apply Kd.R_drewN|apply Kd.R_drew)); exact HO214.out) hb); have n3_:=Aside0.mk (Kd.R_lower (Kd.R_new' ho0 (Kd.R_lt (by (with_reducible repeat (first|apply Kd.R_alloc|apply Kd.R_drewN|apply Kd.R_drew)); exact HO211.out))) (AP (by repeat (first|(with_reducible first|exact HB.out|apply AE|apply AC|apply AD|refine AH ?_ GE208.out)|exact HB.out)))); have n4_:=Aside0.mk (AO (g:=gb208) (o:= .cells #[.int .i64 2,.slice Ao84 y205.length co84] 34 (0,0)) (by (with_reducible repeat (first|refine AF ?_ _|refine AI ?_|refine AG ?_ _)); exact BK208.out) hb); have n5_:=Aside0.mk (AN (by repeat (first|(with_reducible first|exact HB.out|apply AE|apply AC|apply AD|refine AH ?_ GE208.out)|exact HB.out)) hb); clear HO207; clear HO211; clear HO214; clear BK208; clear HB; have HO207:=n0_; have HO211:=n1_; have HO214:=n2_; have HO222:=n3_; have BK208:=n4_; have HB:=n5_; clear n0_ n1_ n2_ n3_ n4_ n5_; (try clear hb); (try clear hb2); (try clear hk); (try clear hi); (try clear ho0); have p225:0≤(2:Int):=(by omega); have q225:2<(t212.length:Int):=of_decide_eq_true (by first|(with_reducible assumption)|assumption); obtain ⟨ad225,e225,hx225_0,hx225_1⟩:=BF (Kd.R_reads' HO214.out).2.2 2 p225 q225; cases e225; (try simp only [show (2:Int).toNat=2 from rfl,Nat.reduceMul,Nat.reduceEqDiff,Go.Addr.add,↓reduceIte] at hx225_0); (try simp only [show (2:Int).toNat=2 from rfl,Nat.reduceMul,Nat.reduceEqDiff,Go.Addr.add,↓reduceIte] at hx225_1); have qi225:(2<t212.length)=True:=eq_true (by omega); (try rw [show ((2:Int)).toNat=2 from rfl] at hx225_0); (try rw [show 2*2=4 from rfl] at hx225_0); (try rw [show ((2:Int)).toNat=2 from rfl] at hx225_1); (try rw [show 2*2=4 from rfl] at hx225_1); replace p225:=eq_true p225; replace q225:=eq_true q225))
        go_ret
        exact ⟨by first|rfl|(simp [AU,AT]<;>rfl)|(simp [*,AU,AT]<;>rfl),by repeat (first|(with_reducible first|exact HB.out|apply AE|apply AC|apply AD|refine AH ?_ GE208.out)|exact HB.out)⟩
      ·rw [if_neg c10] at H
       exact absurd H (by simp)
     ·rw [if_neg c9] at H
      have c9b0:((t212.length:Int)==3)=false:=beq_eq_false_iff_ne.mpr c9
      have c9b1:((t212.length:Int) !=3)=true:=bne_iff_ne.mpr c9
      obtain rfl:=Option.some.inj H
      go_enter Try.func9,Try.ntmps9
      go_wp2_with (first|((with_reducible refine Ah (N:=14) rfl ?_); (try (refine Aq (by rfl) ?_; dsimp only)); refine Kd.S_lit k64 _ 64 ?hg (N:=14) ?hd (xs:=([(⟨(⟨#[97]⟩:ByteArray),2,5,([]:List Int)⟩:S64),(⟨(⟨#[98]⟩:ByteArray),2,5,([]:List Int)⟩:S64),(⟨(⟨#[99]⟩:ByteArray),3,4,([]:List Int)⟩:S64)]:List (S64))) (inner:=[.string (⟨#[97]⟩:ByteArray),.int .i64 2,.int .i64 5,.slice none 0 0,.string (⟨#[98]⟩:ByteArray),.int .i64 2,.int .i64 5,.slice none 0 0,.string (⟨#[99]⟩:ByteArray),.int .i64 3,.int .i64 4,.slice none 0 0]) (ok:=fun _=>True) (okp:=fun _=>True) ?hr ?hp (fun _ hk=>hk) trivial (Below.refl _ _) (Nat.le_refl _) (by simp) ?_; (case hd=>rfl); (case hg=>rfl); (case hr=>first|(go_simp; done)|(go_simp; rfl)); (case hp=>exact (Reps.c4 (show Kd.M k64 _ _ _ (⟨(⟨#[97]⟩:ByteArray),2,5,([]:List Int)⟩:S64) [.string (⟨#[97]⟩:ByteArray),.int .i64 2,.int .i64 5,.slice none 0 0] from (B6 _ _ _ (⟨(⟨#[97]⟩:ByteArray),2,5,([]:List Int)⟩:S64) (Kd.R_nil _ _ _ _ _))) (Reps.c4 (show Kd.M k64 _ _ _ (⟨(⟨#[98]⟩:ByteArray),2,5,([]:List Int)⟩:S64) [.string (⟨#[98]⟩:ByteArray),.int .i64 2,.int .i64 5,.slice none 0 0] from (B6 _ _ _ (⟨(⟨#[98]⟩:ByteArray),2,5,([]:List Int)⟩:S64) (Kd.R_nil _ _ _ _ _))) (Reps.c4 (show Kd.M k64 _ _ _ (⟨(⟨#[99]⟩:ByteArray),3,4,([]:List Int)⟩:S64) [.string (⟨#[99]⟩:ByteArray),.int .i64 3,.int .i64 4,.slice none 0 0] from (B6 _ _ _ (⟨(⟨#[99]⟩:ByteArray),3,4,([]:List Int)⟩:S64) (Kd.R_nil _ _ _ _ _))) (Reps.none _ _))))); intro v206 w98 ho99 hb hg_ hnew_; clear hg_ hnew_; (first|rw [←Ny205.out] at ho99|(simp only [Int.reduceToNat] at ho99; rw [←Ny205.out] at ho99)); have n0_:=Aside0.mk (Kd.S_lower ho99 (AP (by repeat (first|(with_reducible first|exact HB.out|apply AE|apply AC|apply AD)|exact HB.out)))); have n1_:=Aside0.mk (AN (by repeat (first|(with_reducible first|exact HB.out|apply AE|apply AC|apply AD)|exact HB.out)) hb); clear HB; have HO207:=n0_; have HB:=n1_; clear n0_ n1_; clear hb ho99; obtain ⟨Ao100,co100,eo100⟩:=Kd.S_slice HO207.out; subst eo100)|((with_reducible refine Ah (N:=1) rfl ?_); (try (refine Aq (by rfl) ?_; dsimp only)); refine Al ?hg (N:=1) ?hd (cs:= #[.int .i64 0,.slice none 0 0]) (t:=34) ?hr ?_; (case hd=>rfl); (case hg=>rfl); (case hr=>first|(go_simp; done)|(go_simp; rfl)); intro gb208 hg w101 hbox hb; have n0_:=Aside0.mk (Kd.S_below (by (with_reducible repeat (first|apply Kd.S_alloc|apply Kd.S_drewN|apply Kd.S_drew)); exact HO207.out) hb); have n1_:=Aside0.mk (AN (by repeat (first|(with_reducible first|exact HB.out|apply AE|apply AC|apply AD)|exact HB.out)) hb); have n2_:=Aside0.mk (hbox); have n3_:=Aside0.mk ((by rw [hg]; exact (AP (by repeat (first|(with_reducible first|exact HB.out|apply AE|apply AC|apply AD)|exact HB.out))):w.heap.size≤gb208)); have n4_:=Aside0.mk ((by rw [hg]; exact (AP (by repeat (first|(with_reducible first|exact HB.out|apply AE|apply AC|apply AD)|exact HB.out))):w.heap.size≤gb208)); clear HO207; clear HB; have HO207:=n0_; have HB:=n1_; have BK208:=n2_; have GW208:=n3_; have GE208:=n4_; clear n0_ n1_ n2_ n3_ n4_; clear hb hbox hg; have hcz102_0:w101.cell? ⟨gb208,0,none⟩=some (.int .i64 0):=(AK BK208.out 0).trans rfl; have hcz102_1:w101.cell? ⟨gb208,1,none⟩=some (.slice none 0 0):=(AK BK208.out 1).trans rfl; have hfz102_0:=AJ BK208.out 0; have hfz102_1:=AJ BK208.out 1)|((with_reducible refine Ah (N:=18) rfl ?_); (try (refine Aq (by rfl) ?_; dsimp only)); refine Kd.R_lit (Kd.int .i64) _ 3 ?hg (N:=18) ?hd (xs:=([0,1,2]:List Int)) (inner:=[.int .i64 0,.int .i64 1,.int .i64 2]) (ok:=fun _=>True) (okp:=fun _=>True) ?hr ?hp (fun _ hk=>hk) trivial (Below.refl _ _) (Nat.le_refl _) (by simp) ?_; (case hd=>rfl); (case hg=>rfl); (case hr=>first|(go_simp; done)|(go_simp; rfl)); (case hp=>exact (Reps.one (show Kd.M (Kd.int .i64) _ _ _ 0 [.int .i64 0] from rfl) (Reps.one (show Kd.M (Kd.int .i64) _ _ _ 1 [.int .i64 1] from rfl) (Reps.one (show Kd.M (Kd.int .i64) _ _ _ 2 [.int .i64 2] from rfl) (Reps.none _ _))))); intro v210 w103 ho104 hb hg_ hnew_; clear hg_ hnew_; (first|rw [←Ny209.out] at ho104|(simp only [Int.reduceToNat] at ho104; rw [←Ny209.out] at ho104)); have n0_:=Aside0.mk (Kd.S_elder' (by (with_reducible repeat (first|apply Kd.S_alloc|apply Kd.S_drewN|apply Kd.S_drew)); exact (Kd.S_mono (Kd.S_far (p:=⟨gb208,1,none⟩) (Kd.S_far (p:=⟨gb208,0,none⟩) (Kd.S_types HO207.out BK208.out (by decide)) (fun _ hk=>hk.2) (.int .i64 2)) (fun _ hk=>hk.2) (.slice Ao100 y205.length co100)) (fun _ h_=>h_.1))) (Kd.R_base ho104) hb); have n1_:=Aside0.mk (Kd.R_lower ho104 (AP (by repeat (first|(with_reducible first|exact HB.out|apply AE|apply AC|apply AD|refine AH ?_ GE208.out)|exact HB.out)))); have n2_:=Aside0.mk (AO (g:=gb208) (o:= .cells #[.int .i64 2,.slice Ao100 y205.length co100] 34 (0,0)) (by (with_reducible repeat (first|refine AF ?_ _|refine AI ?_|refine AG ?_ _)); refine An (cs:= #[.int .i64 2,.slice none 0 0]) ?_ 1 _ rfl; (with_reducible repeat (first|refine AF ?_ _|refine AI ?_|refine AG ?_ _)); refine An (cs:= #[.int .i64 0,.slice none 0 0]) ?_ 0 _ rfl; (with_reducible repeat (first|refine AF ?_ _|refine AI ?_|refine AG ?_ _)); exact BK208.out) hb); have n3_:=Aside0.mk (AN (by repeat (first|(with_reducible first|exact HB.out|apply AE|apply AC|apply AD|refine AH ?_ GE208.out)|exact HB.out)) hb); clear HO207; clear BK208; clear HB; have HO207:=n0_; have HO211:=n1_; have BK208:=n2_; have HB:=n3_; clear n0_ n1_ n2_ n3_; clear hb ho104; obtain ⟨Ao105,co105,eo105⟩:=Kd.R_slice HO211.out; subst eo105)|((with_reducible refine AR (f:=15) rfl ?_); refine Ap (some 19) rfl rfl Try.func15 (by kernel_rfl) rfl #[.agg #[.int .i64 2,.slice Ao100 y205.length co100],.slice Ao105 y209.length co105] rfl (by (try simp only [List.map_toArray,List.map_cons,List.map_nil]); first|done|rfl|(simp only [List.length_drop,List.length_take]; rfl)) ?_; (with_reducible refine (AS.calls k 2 _ _ y205 _ _ y209 t212 t215 _ ?side1 ?side2 ?side3 ?side4 A1.out).mono ?_); (case side1=>repeat (first|exact (Kd.S_reads' HO207.out).2.2|(with_reducible refine Kd.C_alloc ?_ _)|(with_reducible refine Kd.C_drewN ?_ _)|(with_reducible refine Kd.C_drew ?_))); (case side2=>exact (Kd.S_reads' HO207.out).2.1); (case side3=>repeat (first|exact (Kd.R_reads' HO211.out).2.2|(with_reducible refine Kd.C_alloc ?_ _)|(with_reducible refine Kd.C_drewN ?_ _)|(with_reducible refine Kd.C_drew ?_))); (case side4=>exact (Kd.R_reads' HO211.out).2.1); rintro e w106 ⟨v213,rfl,ho0,hb⟩; refine ⟨_,rfl,?_⟩; have n0_:=Aside0.mk (Kd.S_below (by (with_reducible repeat (first|apply Kd.S_alloc|apply Kd.S_drewN|apply Kd.S_drew)); exact HO207.out) hb); have n1_:=Aside0.mk (Kd.R_below (by (with_reducible repeat (first|apply Kd.R_alloc|apply Kd.R_drewN|apply Kd.R_drew)); exact HO211.out) hb); have n2_:=Aside0.mk (Kd.R_lower ho0 (AP (by repeat (first|(with_reducible first|exact HB.out|apply AE|apply AC|apply AD|refine AH ?_ GE208.out)|exact HB.out)))); have n3_:=Aside0.mk (AO (g:=gb208) (o:= .cells #[.int .i64 2,.slice Ao100 y205.length co100] 34 (0,0)) (by (with_reducible repeat (first|refine AF ?_ _|refine AI ?_|refine AG ?_ _)); exact BK208.out) hb); have n4_:=Aside0.mk (AN (by repeat (first|(with_reducible first|exact HB.out|apply AE|apply AC|apply AD|refine AH ?_ GE208.out)|exact HB.out)) hb); clear HO207; clear HO211; clear BK208; clear HB; have HO207:=n0_; have HO211:=n1_; have HO214:=n2_; have BK208:=n3_; have HB:=n4_; clear n0_ n1_ n2_ n3_ n4_; (try clear hb); (try clear hb2); (try clear hk); (try clear hi); (try clear ho0); have hcz107_0:w106.cell? ⟨gb208,0,none⟩=some (.int .i64 2):=(AK BK208.out 0).trans rfl; have hcz107_1:w106.cell? ⟨gb208,1,none⟩=some (.slice Ao100 y205.length co100):=(AK BK208.out 1).trans rfl; have hfz107_0:=AJ BK208.out 0; have hfz107_1:=AJ BK208.out 1; obtain ⟨Ao108,co108,eo108⟩:=Kd.R_slice HO214.out; subst eo108)|((with_reducible refine AR (f:=13) rfl ?_); refine Ap (some 25) rfl rfl Try.func13 (by kernel_rfl) rfl #[.agg #[.int .i64 2,.slice Ao100 y205.length co100],.slice Ao108 t212.length co108] rfl (by (try simp only [List.map_toArray,List.map_cons,List.map_nil]); first|done|rfl|(simp only [List.length_drop,List.length_take]; rfl)) ?_; (with_reducible refine (AV.calls k 2 _ _ y205 _ _ t212 t216 t217 _ ?side1 ?side2 ?side3 ?side4 A2.out).mono ?_); (case side1=>repeat (first|exact (Kd.S_reads' HO207.out).2.2|(with_reducible refine Kd.C_alloc ?_ _)|(with_reducible refine Kd.C_drewN ?_ _)|(with_reducible refine Kd.C_drew ?_))); (case side2=>exact (Kd.S_reads' HO207.out).2.1); (case side3=>repeat (first|exact (Kd.R_reads' HO214.out).2.2|(with_reducible refine Kd.C_alloc ?_ _)|(with_reducible refine Kd.C_drewN ?_ _)|(with_reducible refine Kd.C_drew ?_))); (case side4=>exact (Kd.R_reads' HO214.out).2.1); rintro e w109 ⟨rfl,hb⟩; refine ⟨_,rfl,?_⟩; have n0_:=Aside0.mk (Kd.S_below (by (with_reducible repeat (first|apply Kd.S_alloc|apply Kd.S_drewN|apply Kd.S_drew)); exact HO207.out) hb); have n1_:=Aside0.mk (Kd.R_below (by (with_reducible repeat (first|apply Kd.R_alloc|apply Kd.R_drewN|apply Kd.R_drew)); exact HO211.out) hb); have n2_:=Aside0.mk (Kd.R_below (by (with_reducible repeat (first|apply Kd.R_alloc|apply Kd.R_drewN|apply Kd.R_drew)); exact HO214.out) hb); have n3_:=Aside0.mk (AO (g:=gb208) (o:= .cells #[.int .i64 2,.slice Ao100 y205.length co100] 34 (0,0)) (by (with_reducible repeat (first|refine AF ?_ _|refine AI ?_|refine AG ?_ _)); exact BK208.out) hb); have n4_:=Aside0.mk (AN (by repeat (first|(with_reducible first|exact HB.out|apply AE|apply AC|apply AD|refine AH ?_ GE208.out)|exact HB.out)) hb); clear HO207; clear HO211; clear HO214; clear BK208; clear HB; have HO207:=n0_; have HO211:=n1_; have HO214:=n2_; have BK208:=n3_; have HB:=n4_; clear n0_ n1_ n2_ n3_ n4_; (try clear hb); (try clear hb2); (try clear hk); (try clear hi); have hcz110_0:w109.cell? ⟨gb208,0,none⟩=some (.int .i64 2):=(AK BK208.out 0).trans rfl; have hcz110_1:w109.cell? ⟨gb208,1,none⟩=some (.slice Ao100 y205.length co100):=(AK BK208.out 1).trans rfl; have hfz110_0:=AJ BK208.out 0; have hfz110_1:=AJ BK208.out 1)|((with_reducible refine AR (f:=11) rfl ?_); refine Ap (some 30) rfl rfl Try.func11 (by kernel_rfl) rfl #[.agg #[.int .i64 2,.slice Ao100 y205.length co100]] rfl (by (try simp only [List.map_toArray,List.map_cons,List.map_nil]); first|done|rfl|(simp only [List.length_drop,List.length_take]; rfl)) ?_; (with_reducible refine (Ae.calls k 2 _ _ y205 t218 t219 _ ?side1 ?side2 A3.out).mono ?_); (case side1=>repeat (first|exact (Kd.S_reads' HO207.out).2.2|(with_reducible refine Kd.C_alloc ?_ _)|(with_reducible refine Kd.C_drewN ?_ _)|(with_reducible refine Kd.C_drew ?_))); (case side2=>exact (Kd.S_reads' HO207.out).2.1); rintro e w111 ⟨rfl,hb⟩; refine ⟨_,rfl,?_⟩; have n0_:=Aside0.mk (Kd.S_below (by (with_reducible repeat (first|apply Kd.S_alloc|apply Kd.S_drewN|apply Kd.S_drew)); exact HO207.out) hb); have n1_:=Aside0.mk (Kd.R_below (by (with_reducible repeat (first|apply Kd.R_alloc|apply Kd.R_drewN|apply Kd.R_drew)); exact HO211.out) hb); have n2_:=Aside0.mk (Kd.R_below (by (with_reducible repeat (first|apply Kd.R_alloc|apply Kd.R_drewN|apply Kd.R_drew)); exact HO214.out) hb); have n3_:=Aside0.mk (AO (g:=gb208) (o:= .cells #[.int .i64 2,.slice Ao100 y205.length co100] 34 (0,0)) (by (with_reducible repeat (first|refine AF ?_ _|refine AI ?_|refine AG ?_ _)); exact BK208.out) hb); have n4_:=Aside0.mk (AN (by repeat (first|(with_reducible first|exact HB.out|apply AE|apply AC|apply AD|refine AH ?_ GE208.out)|exact HB.out)) hb); clear HO207; clear HO211; clear HO214; clear BK208; clear HB; have HO207:=n0_; have HO211:=n1_; have HO214:=n2_; have BK208:=n3_; have HB:=n4_; clear n0_ n1_ n2_ n3_ n4_; (try clear hb); (try clear hb2); (try clear hk); (try clear hi); have hcz112_0:w111.cell? ⟨gb208,0,none⟩=some (.int .i64 2):=(AK BK208.out 0).trans rfl; have hcz112_1:w111.cell? ⟨gb208,1,none⟩=some (.slice Ao100 y205.length co100):=(AK BK208.out 1).trans rfl; have hfz112_0:=AJ BK208.out 0; have hfz112_1:=AJ BK208.out 1)|((with_reducible refine AR (f:=17) rfl ?_); refine Ap (some 35) rfl rfl Try.func17 (by kernel_rfl) rfl #[.agg #[.int .i64 2,.slice Ao100 y205.length co100]] rfl (by (try simp only [List.map_toArray,List.map_cons,List.map_nil]); first|done|rfl|(simp only [List.length_drop,List.length_take]; rfl)) ?_; (with_reducible refine (Au.calls k 2 _ _ y205 t220 t223 t224 _ ?side1 ?side2 A4.out).mono ?_); (case side1=>repeat (first|exact (Kd.S_reads' HO207.out).2.2|(with_reducible refine Kd.C_alloc ?_ _)|(with_reducible refine Kd.C_drewN ?_ _)|(with_reducible refine Kd.C_drew ?_))); (case side2=>exact (Kd.S_reads' HO207.out).2.1); rintro e w113 ⟨v221,rfl,ho0,hb⟩; refine ⟨_,rfl,?_⟩; have n0_:=Aside0.mk (Kd.S_elder' (by (with_reducible repeat (first|apply Kd.S_alloc|apply Kd.S_drewN|apply Kd.S_drew)); exact HO207.out) (Kd.R_base ho0) hb); have n1_:=Aside0.mk (Kd.R_elder' (by (with_reducible repeat (first|apply Kd.R_alloc|apply Kd.R_drewN|apply Kd.R_drew)); exact HO211.out) (Kd.R_base ho0) hb); have n2_:=Aside0.mk (Kd.R_below (by (with_reducible repeat (first|apply Kd.R_alloc|apply Kd.R_drewN|apply Kd.R_drew)); exact HO214.out) hb); have n3_:=Aside0.mk (Kd.R_lower (Kd.R_new' ho0 (Kd.R_lt (by (with_reducible repeat (first|apply Kd.R_alloc|apply Kd.R_drewN|apply Kd.R_drew)); exact HO211.out))) (AP (by repeat (first|(with_reducible first|exact HB.out|apply AE|apply AC|apply AD|refine AH ?_ GE208.out)|exact HB.out)))); have n4_:=Aside0.mk (AO (g:=gb208) (o:= .cells #[.int .i64 2,.slice Ao100 y205.length co100] 34 (0,0)) (by (with_reducible repeat (first|refine AF ?_ _|refine AI ?_|refine AG ?_ _)); exact BK208.out) hb); have n5_:=Aside0.mk (AN (by repeat (first|(with_reducible first|exact HB.out|apply AE|apply AC|apply AD|refine AH ?_ GE208.out)|exact HB.out)) hb); clear HO207; clear HO211; clear HO214; clear BK208; clear HB; have HO207:=n0_; have HO211:=n1_; have HO214:=n2_; have HO222:=n3_; have BK208:=n4_; have HB:=n5_; clear n0_ n1_ n2_ n3_ n4_ n5_; (try clear hb); (try clear hb2); (try clear hk); (try clear hi); (try clear ho0)))
      go_ret
      exact ⟨by first|rfl|(simp [AU,AT]<;>rfl)|(simp [*,AU,AT]<;>rfl),by repeat (first|(with_reducible first|exact HB.out|apply AE|apply AC|apply AD|refine AH ?_ GE208.out)|exact HB.out)⟩
    ·rw [if_neg c8] at H
     have c8b0:(t224==0)=false:=beq_eq_false_iff_ne.mpr c8
     have c8b1:(t224 !=0)=true:=bne_iff_ne.mpr c8
     obtain rfl:=Option.some.inj H
     go_enter Try.func9,Try.ntmps9
     go_wp2_with (first|((with_reducible refine Ah (N:=14) rfl ?_); (try (refine Aq (by rfl) ?_; dsimp only)); refine Kd.S_lit k64 _ 64 ?hg (N:=14) ?hd (xs:=([(⟨(⟨#[97]⟩:ByteArray),2,5,([]:List Int)⟩:S64),(⟨(⟨#[98]⟩:ByteArray),2,5,([]:List Int)⟩:S64),(⟨(⟨#[99]⟩:ByteArray),3,4,([]:List Int)⟩:S64)]:List (S64))) (inner:=[.string (⟨#[97]⟩:ByteArray),.int .i64 2,.int .i64 5,.slice none 0 0,.string (⟨#[98]⟩:ByteArray),.int .i64 2,.int .i64 5,.slice none 0 0,.string (⟨#[99]⟩:ByteArray),.int .i64 3,.int .i64 4,.slice none 0 0]) (ok:=fun _=>True) (okp:=fun _=>True) ?hr ?hp (fun _ hk=>hk) trivial (Below.refl _ _) (Nat.le_refl _) (by simp) ?_; (case hd=>rfl); (case hg=>rfl); (case hr=>first|(go_simp; done)|(go_simp; rfl)); (case hp=>exact (Reps.c4 (show Kd.M k64 _ _ _ (⟨(⟨#[97]⟩:ByteArray),2,5,([]:List Int)⟩:S64) [.string (⟨#[97]⟩:ByteArray),.int .i64 2,.int .i64 5,.slice none 0 0] from (B6 _ _ _ (⟨(⟨#[97]⟩:ByteArray),2,5,([]:List Int)⟩:S64) (Kd.R_nil _ _ _ _ _))) (Reps.c4 (show Kd.M k64 _ _ _ (⟨(⟨#[98]⟩:ByteArray),2,5,([]:List Int)⟩:S64) [.string (⟨#[98]⟩:ByteArray),.int .i64 2,.int .i64 5,.slice none 0 0] from (B6 _ _ _ (⟨(⟨#[98]⟩:ByteArray),2,5,([]:List Int)⟩:S64) (Kd.R_nil _ _ _ _ _))) (Reps.c4 (show Kd.M k64 _ _ _ (⟨(⟨#[99]⟩:ByteArray),3,4,([]:List Int)⟩:S64) [.string (⟨#[99]⟩:ByteArray),.int .i64 3,.int .i64 4,.slice none 0 0] from (B6 _ _ _ (⟨(⟨#[99]⟩:ByteArray),3,4,([]:List Int)⟩:S64) (Kd.R_nil _ _ _ _ _))) (Reps.none _ _))))); intro v206 w114 ho115 hb hg_ hnew_; clear hg_ hnew_; (first|rw [←Ny205.out] at ho115|(simp only [Int.reduceToNat] at ho115; rw [←Ny205.out] at ho115)); have n0_:=Aside0.mk (Kd.S_lower ho115 (AP (by repeat (first|(with_reducible first|exact HB.out|apply AE|apply AC|apply AD)|exact HB.out)))); have n1_:=Aside0.mk (AN (by repeat (first|(with_reducible first|exact HB.out|apply AE|apply AC|apply AD)|exact HB.out)) hb); clear HB; have HO207:=n0_; have HB:=n1_; clear n0_ n1_; clear hb ho115; obtain ⟨Ao116,co116,eo116⟩:=Kd.S_slice HO207.out; subst eo116)|((with_reducible refine Ah (N:=1) rfl ?_); (try (refine Aq (by rfl) ?_; dsimp only)); refine Al ?hg (N:=1) ?hd (cs:= #[.int .i64 0,.slice none 0 0]) (t:=34) ?hr ?_; (case hd=>rfl); (case hg=>rfl); (case hr=>first|(go_simp; done)|(go_simp; rfl)); intro gb208 hg w117 hbox hb; have n0_:=Aside0.mk (Kd.S_below (by (with_reducible repeat (first|apply Kd.S_alloc|apply Kd.S_drewN|apply Kd.S_drew)); exact HO207.out) hb); have n1_:=Aside0.mk (AN (by repeat (first|(with_reducible first|exact HB.out|apply AE|apply AC|apply AD)|exact HB.out)) hb); have n2_:=Aside0.mk (hbox); have n3_:=Aside0.mk ((by rw [hg]; exact (AP (by repeat (first|(with_reducible first|exact HB.out|apply AE|apply AC|apply AD)|exact HB.out))):w.heap.size≤gb208)); have n4_:=Aside0.mk ((by rw [hg]; exact (AP (by repeat (first|(with_reducible first|exact HB.out|apply AE|apply AC|apply AD)|exact HB.out))):w.heap.size≤gb208)); clear HO207; clear HB; have HO207:=n0_; have HB:=n1_; have BK208:=n2_; have GW208:=n3_; have GE208:=n4_; clear n0_ n1_ n2_ n3_ n4_; clear hb hbox hg; have hcz118_0:w117.cell? ⟨gb208,0,none⟩=some (.int .i64 0):=(AK BK208.out 0).trans rfl; have hcz118_1:w117.cell? ⟨gb208,1,none⟩=some (.slice none 0 0):=(AK BK208.out 1).trans rfl; have hfz118_0:=AJ BK208.out 0; have hfz118_1:=AJ BK208.out 1)|((with_reducible refine Ah (N:=18) rfl ?_); (try (refine Aq (by rfl) ?_; dsimp only)); refine Kd.R_lit (Kd.int .i64) _ 3 ?hg (N:=18) ?hd (xs:=([0,1,2]:List Int)) (inner:=[.int .i64 0,.int .i64 1,.int .i64 2]) (ok:=fun _=>True) (okp:=fun _=>True) ?hr ?hp (fun _ hk=>hk) trivial (Below.refl _ _) (Nat.le_refl _) (by simp) ?_; (case hd=>rfl); (case hg=>rfl); (case hr=>first|(go_simp; done)|(go_simp; rfl)); (case hp=>exact (Reps.one (show Kd.M (Kd.int .i64) _ _ _ 0 [.int .i64 0] from rfl) (Reps.one (show Kd.M (Kd.int .i64) _ _ _ 1 [.int .i64 1] from rfl) (Reps.one (show Kd.M (Kd.int .i64) _ _ _ 2 [.int .i64 2] from rfl) (Reps.none _ _))))); intro v210 w119 ho120 hb hg_ hnew_; clear hg_ hnew_; (first|rw [←Ny209.out] at ho120|(simp only [Int.reduceToNat] at ho120; rw [←Ny209.out] at ho120)); have n0_:=Aside0.mk (Kd.S_elder' (by (with_reducible repeat (first|apply Kd.S_alloc|apply Kd.S_drewN|apply Kd.S_drew)); exact (Kd.S_mono (Kd.S_far (p:=⟨gb208,1,none⟩) (Kd.S_far (p:=⟨gb208,0,none⟩) (Kd.S_types HO207.out BK208.out (by decide)) (fun _ hk=>hk.2) (.int .i64 2)) (fun _ hk=>hk.2) (.slice Ao116 y205.length co116)) (fun _ h_=>h_.1))) (Kd.R_base ho120) hb); have n1_:=Aside0.mk (Kd.R_lower ho120 (AP (by repeat (first|(with_reducible first|exact HB.out|apply AE|apply AC|apply AD|refine AH ?_ GE208.out)|exact HB.out)))); have n2_:=Aside0.mk (AO (g:=gb208) (o:= .cells #[.int .i64 2,.slice Ao116 y205.length co116] 34 (0,0)) (by (with_reducible repeat (first|refine AF ?_ _|refine AI ?_|refine AG ?_ _)); refine An (cs:= #[.int .i64 2,.slice none 0 0]) ?_ 1 _ rfl; (with_reducible repeat (first|refine AF ?_ _|refine AI ?_|refine AG ?_ _)); refine An (cs:= #[.int .i64 0,.slice none 0 0]) ?_ 0 _ rfl; (with_reducible repeat (first|refine AF ?_ _|refine AI ?_|refine AG ?_ _)); exact BK208.out) hb); have n3_:=Aside0.mk (AN (by repeat (first|(with_reducible first|exact HB.out|apply AE|apply AC|apply AD|refine AH ?_ GE208.out)|exact HB.out)) hb); clear HO207; clear BK208; clear HB; have HO207:=n0_; have HO211:=n1_; have BK208:=n2_; have HB:=n3_; clear n0_ n1_ n2_ n3_; clear hb ho120; obtain ⟨Ao121,co121,eo121⟩:=Kd.R_slice HO211.out; subst eo121)|((with_reducible refine AR (f:=15) rfl ?_); refine Ap (some 19) rfl rfl Try.func15 (by kernel_rfl) rfl #[.agg #[.int .i64 2,.slice Ao116 y205.length co116],.slice Ao121 y209.length co121] rfl (by (try simp only [List.map_toArray,List.map_cons,List.map_nil]); first|done|rfl|(simp only [List.length_drop,List.length_take]; rfl)) ?_; (with_reducible refine (AS.calls k 2 _ _ y205 _ _ y209 t212 t215 _ ?side1 ?side2 ?side3 ?side4 A1.out).mono ?_); (case side1=>repeat (first|exact (Kd.S_reads' HO207.out).2.2|(with_reducible refine Kd.C_alloc ?_ _)|(with_reducible refine Kd.C_drewN ?_ _)|(with_reducible refine Kd.C_drew ?_))); (case side2=>exact (Kd.S_reads' HO207.out).2.1); (case side3=>repeat (first|exact (Kd.R_reads' HO211.out).2.2|(with_reducible refine Kd.C_alloc ?_ _)|(with_reducible refine Kd.C_drewN ?_ _)|(with_reducible refine Kd.C_drew ?_))); (case side4=>exact (Kd.R_reads' HO211.out).2.1); rintro e w122 ⟨v213,rfl,ho0,hb⟩; refine ⟨_,rfl,?_⟩; have n0_:=Aside0.mk (Kd.S_below (by (with_reducible repeat (first|apply Kd.S_alloc|apply Kd.S_drewN|apply Kd.S_drew)); exact HO207.out) hb); have n1_:=Aside0.mk (Kd.R_below (by (with_reducible repeat (first|apply Kd.R_alloc|apply Kd.R_drewN|apply Kd.R_drew)); exact HO211.out) hb); have n2_:=Aside0.mk (Kd.R_lower ho0 (AP (by repeat (first|(with_reducible first|exact HB.out|apply AE|apply AC|apply AD|refine AH ?_ GE208.out)|exact HB.out)))); have n3_:=Aside0.mk (AO (g:=gb208) (o:= .cells #[.int .i64 2,.slice Ao116 y205.length co116] 34 (0,0)) (by (with_reducible repeat (first|refine AF ?_ _|refine AI ?_|refine AG ?_ _)); exact BK208.out) hb); have n4_:=Aside0.mk (AN (by repeat (first|(with_reducible first|exact HB.out|apply AE|apply AC|apply AD|refine AH ?_ GE208.out)|exact HB.out)) hb); clear HO207; clear HO211; clear BK208; clear HB; have HO207:=n0_; have HO211:=n1_; have HO214:=n2_; have BK208:=n3_; have HB:=n4_; clear n0_ n1_ n2_ n3_ n4_; (try clear hb); (try clear hb2); (try clear hk); (try clear hi); (try clear ho0); have hcz123_0:w122.cell? ⟨gb208,0,none⟩=some (.int .i64 2):=(AK BK208.out 0).trans rfl; have hcz123_1:w122.cell? ⟨gb208,1,none⟩=some (.slice Ao116 y205.length co116):=(AK BK208.out 1).trans rfl; have hfz123_0:=AJ BK208.out 0; have hfz123_1:=AJ BK208.out 1; obtain ⟨Ao124,co124,eo124⟩:=Kd.R_slice HO214.out; subst eo124)|((with_reducible refine AR (f:=13) rfl ?_); refine Ap (some 25) rfl rfl Try.func13 (by kernel_rfl) rfl #[.agg #[.int .i64 2,.slice Ao116 y205.length co116],.slice Ao124 t212.length co124] rfl (by (try simp only [List.map_toArray,List.map_cons,List.map_nil]); first|done|rfl|(simp only [List.length_drop,List.length_take]; rfl)) ?_; (with_reducible refine (AV.calls k 2 _ _ y205 _ _ t212 t216 t217 _ ?side1 ?side2 ?side3 ?side4 A2.out).mono ?_); (case side1=>repeat (first|exact (Kd.S_reads' HO207.out).2.2|(with_reducible refine Kd.C_alloc ?_ _)|(with_reducible refine Kd.C_drewN ?_ _)|(with_reducible refine Kd.C_drew ?_))); (case side2=>exact (Kd.S_reads' HO207.out).2.1); (case side3=>repeat (first|exact (Kd.R_reads' HO214.out).2.2|(with_reducible refine Kd.C_alloc ?_ _)|(with_reducible refine Kd.C_drewN ?_ _)|(with_reducible refine Kd.C_drew ?_))); (case side4=>exact (Kd.R_reads' HO214.out).2.1); rintro e w125 ⟨rfl,hb⟩; refine ⟨_,rfl,?_⟩; have n0_:=Aside0.mk (Kd.S_below (by (with_reducible repeat (first|apply Kd.S_alloc|apply Kd.S_drewN|apply Kd.S_drew)); exact HO207.out) hb); have n1_:=Aside0.mk (Kd.R_below (by (with_reducible repeat (first|apply Kd.R_alloc|apply Kd.R_drewN|apply Kd.R_drew)); exact HO211.out) hb); have n2_:=Aside0.mk (Kd.R_below (by (with_reducible repeat (first|apply Kd.R_alloc|apply Kd.R_drewN|apply Kd.R_drew)); exact HO214.out) hb); have n3_:=Aside0.mk (AO (g:=gb208) (o:= .cells #[.int .i64 2,.slice Ao116 y205.length co116] 34 (0,0)) (by (with_reducible repeat (first|refine AF ?_ _|refine AI ?_|refine AG ?_ _)); exact BK208.out) hb); have n4_:=Aside0.mk (AN (by repeat (first|(with_reducible first|exact HB.out|apply AE|apply AC|apply AD|refine AH ?_ GE208.out)|exact HB.out)) hb); clear HO207; clear HO211; clear HO214; clear BK208; clear HB; have HO207:=n0_; have HO211:=n1_; have HO214:=n2_; have BK208:=n3_; have HB:=n4_; clear n0_ n1_ n2_ n3_ n4_; (try clear hb); (try clear hb2); (try clear hk); (try clear hi); have hcz126_0:w125.cell? ⟨gb208,0,none⟩=some (.int .i64 2):=(AK BK208.out 0).trans rfl; have hcz126_1:w125.cell? ⟨gb208,1,none⟩=some (.slice Ao116 y205.length co116):=(AK BK208.out 1).trans rfl; have hfz126_0:=AJ BK208.out 0; have hfz126_1:=AJ BK208.out 1)|((with_reducible refine AR (f:=11) rfl ?_); refine Ap (some 30) rfl rfl Try.func11 (by kernel_rfl) rfl #[.agg #[.int .i64 2,.slice Ao116 y205.length co116]] rfl (by (try simp only [List.map_toArray,List.map_cons,List.map_nil]); first|done|rfl|(simp only [List.length_drop,List.length_take]; rfl)) ?_; (with_reducible refine (Ae.calls k 2 _ _ y205 t218 t219 _ ?side1 ?side2 A3.out).mono ?_); (case side1=>repeat (first|exact (Kd.S_reads' HO207.out).2.2|(with_reducible refine Kd.C_alloc ?_ _)|(with_reducible refine Kd.C_drewN ?_ _)|(with_reducible refine Kd.C_drew ?_))); (case side2=>exact (Kd.S_reads' HO207.out).2.1); rintro e w127 ⟨rfl,hb⟩; refine ⟨_,rfl,?_⟩; have n0_:=Aside0.mk (Kd.S_below (by (with_reducible repeat (first|apply Kd.S_alloc|apply Kd.S_drewN|apply Kd.S_drew)); exact HO207.out) hb); have n1_:=Aside0.mk (Kd.R_below (by (with_reducible repeat (first|apply Kd.R_alloc|apply Kd.R_drewN|apply Kd.R_drew)); exact HO211.out) hb); have n2_:=Aside0.mk (Kd.R_below (by (with_reducible repeat (first|apply Kd.R_alloc|apply Kd.R_drewN|apply Kd.R_drew)); exact HO214.out) hb); have n3_:=Aside0.mk (AO (g:=gb208) (o:= .cells #[.int .i64 2,.slice Ao116 y205.length co116] 34 (0,0)) (by (with_reducible repeat (first|refine AF ?_ _|refine AI ?_|refine AG ?_ _)); exact BK208.out) hb); have n4_:=Aside0.mk (AN (by repeat (first|(with_reducible first|exact HB.out|apply AE|apply AC|apply AD|refine AH ?_ GE208.out)|exact HB.out)) hb); clear HO207; clear HO211; clear HO214; clear BK208; clear HB; have HO207:=n0_; have HO211:=n1_; have HO214:=n2_; have BK208:=n3_; have HB:=n4_; clear n0_ n1_ n2_ n3_ n4_; (try clear hb); (try clear hb2); (try clear hk); (try clear hi); have hcz128_0:w127.cell? ⟨gb208,0,none⟩=some (.int .i64 2):=(AK BK208.out 0).trans rfl; have hcz128_1:w127.cell? ⟨gb208,1,none⟩=some (.slice Ao116 y205.length co116):=(AK BK208.out 1).trans rfl; have hfz128_0:=AJ BK208.out 0; have hfz128_1:=AJ BK208.out 1)|((with_reducible refine AR (f:=17) rfl ?_); refine Ap (some 35) rfl rfl Try.func17 (by kernel_rfl) rfl #[.agg #[.int .i64 2,.slice Ao116 y205.length co116]] rfl (by (try simp only [List.map_toArray,List.map_cons,List.map_nil]); first|done|rfl|(simp only [List.length_drop,List.length_take]; rfl)) ?_; (with_reducible refine (Au.calls k 2 _ _ y205 t220 t223 t224 _ ?side1 ?side2 A4.out).mono ?_); (case side1=>repeat (first|exact (Kd.S_reads' HO207.out).2.2|(with_reducible refine Kd.C_alloc ?_ _)|(with_reducible refine Kd.C_drewN ?_ _)|(with_reducible refine Kd.C_drew ?_))); (case side2=>exact (Kd.S_reads' HO207.out).2.1); rintro e w129 ⟨v221,rfl,ho0,hb⟩; refine ⟨_,rfl,?_⟩; have n0_:=Aside0.mk (Kd.S_elder' (by (with_reducible repeat (first|apply Kd.S_alloc|apply Kd.S_drewN|apply Kd.S_drew)); exact HO207.out) (Kd.R_base ho0) hb); have n1_:=Aside0.mk (Kd.R_elder' (by (with_reducible repeat (first|apply Kd.R_alloc|apply Kd.R_drewN|apply Kd.R_drew)); exact HO211.out) (Kd.R_base ho0) hb); have n2_:=Aside0.mk (Kd.R_below (by (with_reducible repeat (first|apply Kd.R_alloc|apply Kd.R_drewN|apply Kd.R_drew)); exact HO214.out) hb); have n3_:=Aside0.mk (Kd.R_lower (Kd.R_new' ho0 (Kd.R_lt (by (with_reducible repeat (first|apply Kd.R_alloc|apply Kd.R_drewN|apply Kd.R_drew)); exact HO211.out))) (AP (by repeat (first|(with_reducible first|exact HB.out|apply AE|apply AC|apply AD|refine AH ?_ GE208.out)|exact HB.out)))); have n4_:=Aside0.mk (AO (g:=gb208) (o:= .cells #[.int .i64 2,.slice Ao116 y205.length co116] 34 (0,0)) (by (with_reducible repeat (first|refine AF ?_ _|refine AI ?_|refine AG ?_ _)); exact BK208.out) hb); have n5_:=Aside0.mk (AN (by repeat (first|(with_reducible first|exact HB.out|apply AE|apply AC|apply AD|refine AH ?_ GE208.out)|exact HB.out)) hb); clear HO207; clear HO211; clear HO214; clear BK208; clear HB; have HO207:=n0_; have HO211:=n1_; have HO214:=n2_; have HO222:=n3_; have BK208:=n4_; have HB:=n5_; clear n0_ n1_ n2_ n3_ n4_ n5_; (try clear hb); (try clear hb2); (try clear hk); (try clear hi); (try clear ho0)))
     go_ret
     exact ⟨by first|rfl|(simp [AU,AT]<;>rfl)|(simp [*,AU,AT]<;>rfl),by repeat (first|(with_reducible first|exact HB.out|apply AE|apply AC|apply AD|refine AH ?_ GE208.out)|exact HB.out)⟩
   ·rw [if_neg c7] at H
    have c7b0:(t219==0)=false:=beq_eq_false_iff_ne.mpr c7
    have c7b1:(t219 !=0)=true:=bne_iff_ne.mpr c7
    obtain rfl:=Option.some.inj H
    go_enter Try.func9,Try.ntmps9
    go_wp2_with (first|((with_reducible refine Ah (N:=14) rfl ?_); (try (refine Aq (by rfl) ?_; dsimp only)); refine Kd.S_lit k64 _ 64 ?hg (N:=14) ?hd (xs:=([(⟨(⟨#[97]⟩:ByteArray),2,5,([]:List Int)⟩:S64),(⟨(⟨#[98]⟩:ByteArray),2,5,([]:List Int)⟩:S64),(⟨(⟨#[99]⟩:ByteArray),3,4,([]:List Int)⟩:S64)]:List (S64))) (inner:=[.string (⟨#[97]⟩:ByteArray),.int .i64 2,.int .i64 5,.slice none 0 0,.string (⟨#[98]⟩:ByteArray),.int .i64 2,.int .i64 5,.slice none 0 0,.string (⟨#[99]⟩:ByteArray),.int .i64 3,.int .i64 4,.slice none 0 0]) (ok:=fun _=>True) (okp:=fun _=>True) ?hr ?hp (fun _ hk=>hk) trivial (Below.refl _ _) (Nat.le_refl _) (by simp) ?_; (case hd=>rfl); (case hg=>rfl); (case hr=>first|(go_simp; done)|(go_simp; rfl)); (case hp=>exact (Reps.c4 (show Kd.M k64 _ _ _ (⟨(⟨#[97]⟩:ByteArray),2,5,([]:List Int)⟩:S64) [.string (⟨#[97]⟩:ByteArray),.int .i64 2,.int .i64 5,.slice none 0 0] from (B6 _ _ _ (⟨(⟨#[97]⟩:ByteArray),2,5,([]:List Int)⟩:S64) (Kd.R_nil _ _ _ _ _))) (Reps.c4 (show Kd.M k64 _ _ _ (⟨(⟨#[98]⟩:ByteArray),2,5,([]:List Int)⟩:S64) [.string (⟨#[98]⟩:ByteArray),.int .i64 2,.int .i64 5,.slice none 0 0] from (B6 _ _ _ (⟨(⟨#[98]⟩:ByteArray),2,5,([]:List Int)⟩:S64) (Kd.R_nil _ _ _ _ _))) (Reps.c4 (show Kd.M k64 _ _ _ (⟨(⟨#[99]⟩:ByteArray),3,4,([]:List Int)⟩:S64) [.string (⟨#[99]⟩:ByteArray),.int .i64 3,.int .i64 4,.slice none 0 0] from (B6 _ _ _ (⟨(⟨#[99]⟩:ByteArray),3,4,([]:List Int)⟩:S64) (Kd.R_nil _ _ _ _ _))) (Reps.none _ _))))); intro v206 w130 ho131 hb hg_ hnew_; clear hg_ hnew_; (first|rw [←Ny205.out] at ho131|(simp only [Int.reduceToNat] at ho131; rw [←Ny205.out] at ho131)); have n0_:=Aside0.mk (Kd.S_lower ho131 (AP (by repeat (first|(with_reducible first|exact HB.out|apply AE|apply AC|apply AD)|exact HB.out)))); have n1_:=Aside0.mk (AN (by repeat (first|(with_reducible first|exact HB.out|apply AE|apply AC|apply AD)|exact HB.out)) hb); clear HB; have HO207:=n0_; have HB:=n1_; clear n0_ n1_; clear hb ho131; obtain ⟨Ao132,co132,eo132⟩:=Kd.S_slice HO207.out; subst eo132)|((with_reducible refine Ah (N:=1) rfl ?_); (try (refine Aq (by rfl) ?_; dsimp only)); refine Al ?hg (N:=1) ?hd (cs:= #[.int .i64 0,.slice none 0 0]) (t:=34) ?hr ?_; (case hd=>rfl); (case hg=>rfl); (case hr=>first|(go_simp; done)|(go_simp; rfl)); intro gb208 hg w133 hbox hb; have n0_:=Aside0.mk (Kd.S_below (by (with_reducible repeat (first|apply Kd.S_alloc|apply Kd.S_drewN|apply Kd.S_drew)); exact HO207.out) hb); have n1_:=Aside0.mk (AN (by repeat (first|(with_reducible first|exact HB.out|apply AE|apply AC|apply AD)|exact HB.out)) hb); have n2_:=Aside0.mk (hbox); have n3_:=Aside0.mk ((by rw [hg]; exact (AP (by repeat (first|(with_reducible first|exact HB.out|apply AE|apply AC|apply AD)|exact HB.out))):w.heap.size≤gb208)); have n4_:=Aside0.mk ((by rw [hg]; exact (AP (by repeat (first|(with_reducible first|exact HB.out|apply AE|apply AC|apply AD)|exact HB.out))):w.heap.size≤gb208)); clear HO207; clear HB; have HO207:=n0_; have HB:=n1_; have BK208:=n2_; have GW208:=n3_; have GE208:=n4_; clear n0_ n1_ n2_ n3_ n4_; clear hb hbox hg; have hcz134_0:w133.cell? ⟨gb208,0,none⟩=some (.int .i64 0):=(AK BK208.out 0).trans rfl; have hcz134_1:w133.cell? ⟨gb208,1,none⟩=some (.slice none 0 0):=(AK BK208.out 1).trans rfl; have hfz134_0:=AJ BK208.out 0; have hfz134_1:=AJ BK208.out 1)|((with_reducible refine Ah (N:=18) rfl ?_); (try (refine Aq (by rfl) ?_; dsimp only)); refine Kd.R_lit (Kd.int .i64) _ 3 ?hg (N:=18) ?hd (xs:=([0,1,2]:List Int)) (inner:=[.int .i64 0,.int .i64 1,.int .i64 2]) (ok:=fun _=>True) (okp:=fun _=>True) ?hr ?hp (fun _ hk=>hk) trivial (Below.refl _ _) (Nat.le_refl _) (by simp) ?_; (case hd=>rfl); (case hg=>rfl); (case hr=>first|(go_simp; done)|(go_simp; rfl)); (case hp=>exact (Reps.one (show Kd.M (Kd.int .i64) _ _ _ 0 [.int .i64 0] from rfl) (Reps.one (show Kd.M (Kd.int .i64) _ _ _ 1 [.int .i64 1] from rfl) (Reps.one (show Kd.M (Kd.int .i64) _ _ _ 2 [.int .i64 2] from rfl) (Reps.none _ _))))); intro v210 w135 ho136 hb hg_ hnew_; clear hg_ hnew_; (first|rw [←Ny209.out] at ho136|(simp only [Int.reduceToNat] at ho136; rw [←Ny209.out] at ho136)); have n0_:=Aside0.mk (Kd.S_elder' (by (with_reducible repeat (first|apply Kd.S_alloc|apply Kd.S_drewN|apply Kd.S_drew)); exact (Kd.S_mono (Kd.S_far (p:=⟨gb208,1,none⟩) (Kd.S_far (p:=⟨gb208,0,none⟩) (Kd.S_types HO207.out BK208.out (by decide)) (fun _ hk=>hk.2) (.int .i64 2)) (fun _ hk=>hk.2) (.slice Ao132 y205.length co132)) (fun _ h_=>h_.1))) (Kd.R_base ho136) hb); have n1_:=Aside0.mk (Kd.R_lower ho136 (AP (by repeat (first|(with_reducible first|exact HB.out|apply AE|apply AC|apply AD|refine AH ?_ GE208.out)|exact HB.out)))); have n2_:=Aside0.mk (AO (g:=gb208) (o:= .cells #[.int .i64 2,.slice Ao132 y205.length co132] 34 (0,0)) (by (with_reducible repeat (first|refine AF ?_ _|refine AI ?_|refine AG ?_ _)); refine An (cs:= #[.int .i64 2,.slice none 0 0]) ?_ 1 _ rfl; (with_reducible repeat (first|refine AF ?_ _|refine AI ?_|refine AG ?_ _)); refine An (cs:= #[.int .i64 0,.slice none 0 0]) ?_ 0 _ rfl; (with_reducible repeat (first|refine AF ?_ _|refine AI ?_|refine AG ?_ _)); exact BK208.out) hb); have n3_:=Aside0.mk (AN (by repeat (first|(with_reducible first|exact HB.out|apply AE|apply AC|apply AD|refine AH ?_ GE208.out)|exact HB.out)) hb); clear HO207; clear BK208; clear HB; have HO207:=n0_; have HO211:=n1_; have BK208:=n2_; have HB:=n3_; clear n0_ n1_ n2_ n3_; clear hb ho136; obtain ⟨Ao137,co137,eo137⟩:=Kd.R_slice HO211.out; subst eo137)|((with_reducible refine AR (f:=15) rfl ?_); refine Ap (some 19) rfl rfl Try.func15 (by kernel_rfl) rfl #[.agg #[.int .i64 2,.slice Ao132 y205.length co132],.slice Ao137 y209.length co137] rfl (by (try simp only [List.map_toArray,List.map_cons,List.map_nil]); first|done|rfl|(simp only [List.length_drop,List.length_take]; rfl)) ?_; (with_reducible refine (AS.calls k 2 _ _ y205 _ _ y209 t212 t215 _ ?side1 ?side2 ?side3 ?side4 A1.out).mono ?_); (case side1=>repeat (first|exact (Kd.S_reads' HO207.out).2.2|(with_reducible refine Kd.C_alloc ?_ _)|(with_reducible refine Kd.C_drewN ?_ _)|(with_reducible refine Kd.C_drew ?_))); (case side2=>exact (Kd.S_reads' HO207.out).2.1); (case side3=>repeat (first|exact (Kd.R_reads' HO211.out).2.2|(with_reducible refine Kd.C_alloc ?_ _)|(with_reducible refine Kd.C_drewN ?_ _)|(with_reducible refine Kd.C_drew ?_))); (case side4=>exact (Kd.R_reads' HO211.out).2.1); rintro e w138 ⟨v213,rfl,ho0,hb⟩; refine ⟨_,rfl,?_⟩; have n0_:=Aside0.mk (Kd.S_below (by (with_reducible repeat (first|apply Kd.S_alloc|apply Kd.S_drewN|apply Kd.S_drew)); exact HO207.out) hb); have n1_:=Aside0.mk (Kd.R_below (by (with_reducible repeat (first|apply Kd.R_alloc|apply Kd.R_drewN|apply Kd.R_drew)); exact HO211.out) hb); have n2_:=Aside0.mk (Kd.R_lower ho0 (AP (by repeat (first|(with_reducible first|exact HB.out|apply AE|apply AC|apply AD|refine AH ?_ GE208.out)|exact HB.out)))); have n3_:=Aside0.mk (AO (g:=gb208) (o:= .cells #[.int .i64 2,.slice Ao132 y205.length co132] 34 (0,0)) (by (with_reducible repeat (first|refine AF ?_ _|refine AI ?_|refine AG ?_ _)); exact BK208.out) hb); have n4_:=Aside0.mk (AN (by repeat (first|(with_reducible first|exact HB.out|apply AE|apply AC|apply AD|refine AH ?_ GE208.out)|exact HB.out)) hb); clear HO207; clear HO211; clear BK208; clear HB; have HO207:=n0_; have HO211:=n1_; have HO214:=n2_; have BK208:=n3_; have HB:=n4_; clear n0_ n1_ n2_ n3_ n4_; (try clear hb); (try clear hb2); (try clear hk); (try clear hi); (try clear ho0); have hcz139_0:w138.cell? ⟨gb208,0,none⟩=some (.int .i64 2):=(AK BK208.out 0).trans rfl; have hcz139_1:w138.cell? ⟨gb208,1,none⟩=some (.slice Ao132 y205.length co132):=(AK BK208.out 1).trans rfl; have hfz139_0:=AJ BK208.out 0; have hfz139_1:=AJ BK208.out 1; obtain ⟨Ao140,co140,eo140⟩:=Kd.R_slice HO214.out; subst eo140)|((with_reducible refine AR (f:=13) rfl ?_); refine Ap (some 25) rfl rfl Try.func13 (by kernel_rfl) rfl #[.agg #[.int .i64 2,.slice Ao132 y205.length co132],.slice Ao140 t212.length co140] rfl (by (try simp only [List.map_toArray,List.map_cons,List.map_nil]); first|done|rfl|(simp only [List.length_drop,List.length_take]; rfl)) ?_; (with_reducible refine (AV.calls k 2 _ _ y205 _ _ t212 t216 t217 _ ?side1 ?side2 ?side3 ?side4 A2.out).mono ?_); (case side1=>repeat (first|exact (Kd.S_reads' HO207.out).2.2|(with_reducible refine Kd.C_alloc ?_ _)|(with_reducible refine Kd.C_drewN ?_ _)|(with_reducible refine Kd.C_drew ?_))); (case side2=>exact (Kd.S_reads' HO207.out).2.1); (case side3=>repeat (first|exact (Kd.R_reads' HO214.out).2.2|(with_reducible refine Kd.C_alloc ?_ _)|(with_reducible refine Kd.C_drewN ?_ _)|(with_reducible refine Kd.C_drew ?_))); (case side4=>exact (Kd.R_reads' HO214.out).2.1); rintro e w141 ⟨rfl,hb⟩; refine ⟨_,rfl,?_⟩; have n0_:=Aside0.mk (Kd.S_below (by (with_reducible repeat (first|apply Kd.S_alloc|apply Kd.S_drewN|apply Kd.S_drew)); exact HO207.out) hb); have n1_:=Aside0.mk (Kd.R_below (by (with_reducible repeat (first|apply Kd.R_alloc|apply Kd.R_drewN|apply Kd.R_drew)); exact HO211.out) hb); have n2_:=Aside0.mk (Kd.R_below (by (with_reducible repeat (first|apply Kd.R_alloc|apply Kd.R_drewN|apply Kd.R_drew)); exact HO214.out) hb); have n3_:=Aside0.mk (AO (g:=gb208) (o:= .cells #[.int .i64 2,.slice Ao132 y205.length co132] 34 (0,0)) (by (with_reducible repeat (first|refine AF ?_ _|refine AI ?_|refine AG ?_ _)); exact BK208.out) hb); have n4_:=Aside0.mk (AN (by repeat (first|(with_reducible first|exact HB.out|apply AE|apply AC|apply AD|refine AH ?_ GE208.out)|exact HB.out)) hb); clear HO207; clear HO211; clear HO214; clear BK208; clear HB; have HO207:=n0_; have HO211:=n1_; have HO214:=n2_; have BK208:=n3_; have HB:=n4_; clear n0_ n1_ n2_ n3_ n4_; (try clear hb); (try clear hb2); (try clear hk); (try clear hi); have hcz142_0:w141.cell? ⟨gb208,0,none⟩=some (.int .i64 2):=(AK BK208.out 0).trans rfl; have hcz142_1:w141.cell? ⟨gb208,1,none⟩=some (.slice Ao132 y205.length co132):=(AK BK208.out 1).trans rfl; have hfz142_0:=AJ BK208.out 0; have hfz142_1:=AJ BK208.out 1)|((with_reducible refine AR (f:=11) rfl ?_); refine Ap (some 30) rfl rfl Try.func11 (by kernel_rfl) rfl #[.agg #[.int .i64 2,.slice Ao132 y205.length co132]] rfl (by (try simp only [List.map_toArray,List.map_cons,List.map_nil]); first|done|rfl|(simp only [List.length_drop,List.length_take]; rfl)) ?_; (with_reducible refine (Ae.calls k 2 _ _ y205 t218 t219 _ ?side1 ?side2 A3.out).mono ?_); (case side1=>repeat (first|exact (Kd.S_reads' HO207.out).2.2|(with_reducible refine Kd.C_alloc ?_ _)|(with_reducible refine Kd.C_drewN ?_ _)|(with_reducible refine Kd.C_drew ?_))); (case side2=>exact (Kd.S_reads' HO207.out).2.1); rintro e w143 ⟨rfl,hb⟩; refine ⟨_,rfl,?_⟩; have n0_:=Aside0.mk (Kd.S_below (by (with_reducible repeat (first|apply Kd.S_alloc|apply Kd.S_drewN|apply Kd.S_drew)); exact HO207.out) hb); have n1_:=Aside0.mk (Kd.R_below (by (with_reducible repeat (first|apply Kd.R_alloc|apply Kd.R_drewN|apply Kd.R_drew)); exact HO211.out) hb); have n2_:=Aside0.mk (Kd.R_below (by (with_reducible repeat (first|apply Kd.R_alloc|apply Kd.R_drewN|apply Kd.R_drew)); exact HO214.out) hb); have n3_:=Aside0.mk (AO (g:=gb208) (o:= .cells #[.int .i64 2,.slice Ao132 y205.length co132] 34 (0,0)) (by (with_reducible repeat (first|refine AF ?_ _|refine AI ?_|refine AG ?_ _)); exact BK208.out) hb); have n4_:=Aside0.mk (AN (by repeat (first|(with_reducible first|exact HB.out|apply AE|apply AC|apply AD|refine AH ?_ GE208.out)|exact HB.out)) hb); clear HO207; clear HO211; clear HO214; clear BK208; clear HB; have HO207:=n0_; have HO211:=n1_; have HO214:=n2_; have BK208:=n3_; have HB:=n4_; clear n0_ n1_ n2_ n3_ n4_; (try clear hb); (try clear hb2); (try clear hk); (try clear hi); have hcz144_0:w143.cell? ⟨gb208,0,none⟩=some (.int .i64 2):=(AK BK208.out 0).trans rfl; have hcz144_1:w143.cell? ⟨gb208,1,none⟩=some (.slice Ao132 y205.length co132):=(AK BK208.out 1).trans rfl; have hfz144_0:=AJ BK208.out 0; have hfz144_1:=AJ BK208.out 1)|((with_reducible refine AR (f:=17) rfl ?_); refine Ap (some 35) rfl rfl Try.func17 (by kernel_rfl) rfl #[.agg #[.int .i64 2,.slice Ao132 y205.length co132]] rfl (by (try simp only [List.map_toArray,List.map_cons,List.map_nil]); first|done|rfl|(simp only [List.length_drop,List.length_take]; rfl)) ?_; (with_reducible refine (Au.calls k 2 _ _ y205 t220 t223 t224 _ ?side1 ?side2 A4.out).mono ?_); (case side1=>repeat (first|exact (Kd.S_reads' HO207.out).2.2|(with_reducible refine Kd.C_alloc ?_ _)|(with_reducible refine Kd.C_drewN ?_ _)|(with_reducible refine Kd.C_drew ?_))); (case side2=>exact (Kd.S_reads' HO207.out).2.1); rintro e w145 ⟨v221,rfl,ho0,hb⟩; refine ⟨_,rfl,?_⟩; have n0_:=Aside0.mk (Kd.S_elder' (by (with_reducible repeat (first|apply Kd.S_alloc|apply Kd.S_drewN|apply Kd.S_drew)); exact HO207.out) (Kd.R_base ho0) hb); have n1_:=Aside0.mk (Kd.R_elder' (by (with_reducible repeat (first|apply Kd.R_alloc|apply Kd.R_drewN|apply Kd.R_drew)); exact HO211.out) (Kd.R_base ho0) hb); have n2_:=Aside0.mk (Kd.R_below (by (with_reducible repeat (first|apply Kd.R_alloc|apply Kd.R_drewN|apply Kd.R_drew)); exact HO214.out) hb); have n3_:=Aside0.mk (Kd.R_lower (Kd.R_new' ho0 (Kd.R_lt (by (with_reducible repeat (first|apply Kd.R_alloc|apply Kd.R_drewN|apply Kd.R_drew)); exact HO211.out))) (AP (by repeat (first|(with_reducible first|exact HB.out|apply AE|apply AC|apply AD|refine AH ?_ GE208.out)|exact HB.out)))); have n4_:=Aside0.mk (AO (g:=gb208) (o:= .cells #[.int .i64 2,.slice Ao132 y205.length co132] 34 (0,0)) (by (with_reducible repeat (first|refine AF ?_ _|refine AI ?_|refine AG ?_ _)); exact BK208.out) hb); have n5_:=Aside0.mk (AN (by repeat (first|(with_reducible first|exact HB.out|apply AE|apply AC|apply AD|refine AH ?_ GE208.out)|exact HB.out)) hb); clear HO207; clear HO211; clear HO214; clear BK208; clear HB; have HO207:=n0_; have HO211:=n1_; have HO214:=n2_; have HO222:=n3_; have BK208:=n4_; have HB:=n5_; clear n0_ n1_ n2_ n3_ n4_ n5_; (try clear hb); (try clear hb2); (try clear hk); (try clear hi); (try clear ho0)))
    go_ret
    exact ⟨by first|rfl|(simp [AU,AT]<;>rfl)|(simp [*,AU,AT]<;>rfl),by repeat (first|(with_reducible first|exact HB.out|apply AE|apply AC|apply AD|refine AH ?_ GE208.out)|exact HB.out)⟩
  ·rw [if_neg c6] at H
   have c6b0:(t217==0)=false:=beq_eq_false_iff_ne.mpr c6
   have c6b1:(t217 !=0)=true:=bne_iff_ne.mpr c6
   obtain rfl:=Option.some.inj H
   go_enter Try.func9,Try.ntmps9
   go_wp2_with (first|((with_reducible refine Ah (N:=14) rfl ?_); (try (refine Aq (by rfl) ?_; dsimp only)); refine Kd.S_lit k64 _ 64 ?hg (N:=14) ?hd (xs:=([(⟨(⟨#[97]⟩:ByteArray),2,5,([]:List Int)⟩:S64),(⟨(⟨#[98]⟩:ByteArray),2,5,([]:List Int)⟩:S64),(⟨(⟨#[99]⟩:ByteArray),3,4,([]:List Int)⟩:S64)]:List (S64))) (inner:=[.string (⟨#[97]⟩:ByteArray),.int .i64 2,.int .i64 5,.slice none 0 0,.string (⟨#[98]⟩:ByteArray),.int .i64 2,.int .i64 5,.slice none 0 0,.string (⟨#[99]⟩:ByteArray),.int .i64 3,.int .i64 4,.slice none 0 0]) (ok:=fun _=>True) (okp:=fun _=>True) ?hr ?hp (fun _ hk=>hk) trivial (Below.refl _ _) (Nat.le_refl _) (by simp) ?_; (case hd=>rfl); (case hg=>rfl); (case hr=>first|(go_simp; done)|(go_simp; rfl)); (case hp=>exact (Reps.c4 (show Kd.M k64 _ _ _ (⟨(⟨#[97]⟩:ByteArray),2,5,([]:List Int)⟩:S64) [.string (⟨#[97]⟩:ByteArray),.int .i64 2,.int .i64 5,.slice none 0 0] from (B6 _ _ _ (⟨(⟨#[97]⟩:ByteArray),2,5,([]:List Int)⟩:S64) (Kd.R_nil _ _ _ _ _))) (Reps.c4 (show Kd.M k64 _ _ _ (⟨(⟨#[98]⟩:ByteArray),2,5,([]:List Int)⟩:S64) [.string (⟨#[98]⟩:ByteArray),.int .i64 2,.int .i64 5,.slice none 0 0] from (B6 _ _ _ (⟨(⟨#[98]⟩:ByteArray),2,5,([]:List Int)⟩:S64) (Kd.R_nil _ _ _ _ _))) (Reps.c4 (show Kd.M k64 _ _ _ (⟨(⟨#[99]⟩:ByteArray),3,4,([]:List Int)⟩:S64) [.string (⟨#[99]⟩:ByteArray),.int .i64 3,.int .i64 4,.slice none 0 0] from (B6 _ _ _ (⟨(⟨#[99]⟩:ByteArray),3,4,([]:List Int)⟩:S64) (Kd.R_nil _ _ _ _ _))) (Reps.none _ _))))); intro v206 w146 ho147 hb hg_ hnew_; clear hg_ hnew_; (first|rw [←Ny205.out] at ho147|(simp only [Int.reduceToNat] at ho147; rw [←Ny205.out] at ho147)); have n0_:=Aside0.mk (Kd.S_lower ho147 (AP (by repeat (first|(with_reducible first|exact HB.out|apply AE|apply AC|apply AD)|exact HB.out)))); have n1_:=Aside0.mk (AN (by repeat (first|(with_reducible first|exact HB.out|apply AE|apply AC|apply AD)|exact HB.out)) hb); clear HB; have HO207:=n0_; have HB:=n1_; clear n0_ n1_; clear hb ho147; obtain ⟨Ao148,co148,eo148⟩:=Kd.S_slice HO207.out; subst eo148)|((with_reducible refine Ah (N:=1) rfl ?_); (try (refine Aq (by rfl) ?_; dsimp only)); refine Al ?hg (N:=1) ?hd (cs:= #[.int .i64 0,.slice none 0 0]) (t:=34) ?hr ?_; (case hd=>rfl); (case hg=>rfl); (case hr=>first|(go_simp; done)|(go_simp; rfl)); intro gb208 hg w149 hbox hb; have n0_:=Aside0.mk (Kd.S_below (by (with_reducible repeat (first|apply Kd.S_alloc|apply Kd.S_drewN|apply Kd.S_drew)); exact HO207.out) hb); have n1_:=Aside0.mk (AN (by repeat (first|(with_reducible first|exact HB.out|apply AE|apply AC|apply AD)|exact HB.out)) hb); have n2_:=Aside0.mk (hbox); have n3_:=Aside0.mk ((by rw [hg]; exact (AP (by repeat (first|(with_reducible first|exact HB.out|apply AE|apply AC|apply AD)|exact HB.out))):w.heap.size≤gb208)); have n4_:=Aside0.mk ((by rw [hg]; exact (AP (by repeat (first|(with_reducible first|exact HB.out|apply AE|apply AC|apply AD)|exact HB.out))):w.heap.size≤gb208)); clear HO207; clear HB; have HO207:=n0_; have HB:=n1_; have BK208:=n2_; have GW208:=n3_; have GE208:=n4_; clear n0_ n1_ n2_ n3_ n4_; clear hb hbox hg; have hcz150_0:w149.cell? ⟨gb208,0,none⟩=some (.int .i64 0):=(AK BK208.out 0).trans rfl; have hcz150_1:w149.cell? ⟨gb208,1,none⟩=some (.slice none 0 0):=(AK BK208.out 1).trans rfl; have hfz150_0:=AJ BK208.out 0; have hfz150_1:=AJ BK208.out 1)|((with_reducible refine Ah (N:=18) rfl ?_); (try (refine Aq (by rfl) ?_; dsimp only)); refine Kd.R_lit (Kd.int .i64) _ 3 ?hg (N:=18) ?hd (xs:=([0,1,2]:List Int)) (inner:=[.int .i64 0,.int .i64 1,.int .i64 2]) (ok:=fun _=>True) (okp:=fun _=>True) ?hr ?hp (fun _ hk=>hk) trivial (Below.refl _ _) (Nat.le_refl _) (by simp) ?_; (case hd=>rfl); (case hg=>rfl); (case hr=>first|(go_simp; done)|(go_simp; rfl)); (case hp=>exact (Reps.one (show Kd.M (Kd.int .i64) _ _ _ 0 [.int .i64 0] from rfl) (Reps.one (show Kd.M (Kd.int .i64) _ _ _ 1 [.int .i64 1] from rfl) (Reps.one (show Kd.M (Kd.int .i64) _ _ _ 2 [.int .i64 2] from rfl) (Reps.none _ _))))); intro v210 w151 ho152 hb hg_ hnew_; clear hg_ hnew_; (first|rw [←Ny209.out] at ho152|(simp only [Int.reduceToNat] at ho152; rw [←Ny209.out] at ho152)); have n0_:=Aside0.mk (Kd.S_elder' (by (with_reducible repeat (first|apply Kd.S_alloc|apply Kd.S_drewN|apply Kd.S_drew)); exact (Kd.S_mono (Kd.S_far (p:=⟨gb208,1,none⟩) (Kd.S_far (p:=⟨gb208,0,none⟩) (Kd.S_types HO207.out BK208.out (by decide)) (fun _ hk=>hk.2) (.int .i64 2)) (fun _ hk=>hk.2) (.slice Ao148 y205.length co148)) (fun _ h_=>h_.1))) (Kd.R_base ho152) hb); have n1_:=Aside0.mk (Kd.R_lower ho152 (AP (by repeat (first|(with_reducible first|exact HB.out|apply AE|apply AC|apply AD|refine AH ?_ GE208.out)|exact HB.out)))); have n2_:=Aside0.mk (AO (g:=gb208) (o:= .cells #[.int .i64 2,.slice Ao148 y205.length co148] 34 (0,0)) (by (with_reducible repeat (first|refine AF ?_ _|refine AI ?_|refine AG ?_ _)); refine An (cs:= #[.int .i64 2,.slice none 0 0]) ?_ 1 _ rfl; (with_reducible repeat (first|refine AF ?_ _|refine AI ?_|refine AG ?_ _)); refine An (cs:= #[.int .i64 0,.slice none 0 0]) ?_ 0 _ rfl; (with_reducible repeat (first|refine AF ?_ _|refine AI ?_|refine AG ?_ _)); exact BK208.out) hb); have n3_:=Aside0.mk (AN (by repeat (first|(with_reducible first|exact HB.out|apply AE|apply AC|apply AD|refine AH ?_ GE208.out)|exact HB.out)) hb); clear HO207; clear BK208; clear HB; have HO207:=n0_; have HO211:=n1_; have BK208:=n2_; have HB:=n3_; clear n0_ n1_ n2_ n3_; clear hb ho152; obtain ⟨Ao153,co153,eo153⟩:=Kd.R_slice HO211.out; subst eo153)|((with_reducible refine AR (f:=15) rfl ?_); refine Ap (some 19) rfl rfl Try.func15 (by kernel_rfl) rfl #[.agg #[.int .i64 2,.slice Ao148 y205.length co148],.slice Ao153 y209.length co153] rfl (by (try simp only [List.map_toArray,List.map_cons,List.map_nil]); first|done|rfl|(simp only [List.length_drop,List.length_take]; rfl)) ?_; (with_reducible refine (AS.calls k 2 _ _ y205 _ _ y209 t212 t215 _ ?side1 ?side2 ?side3 ?side4 A1.out).mono ?_); (case side1=>repeat (first|exact (Kd.S_reads' HO207.out).2.2|(with_reducible refine Kd.C_alloc ?_ _)|(with_reducible refine Kd.C_drewN ?_ _)|(with_reducible refine Kd.C_drew ?_))); (case side2=>exact (Kd.S_reads' HO207.out).2.1); (case side3=>repeat (first|exact (Kd.R_reads' HO211.out).2.2|(with_reducible refine Kd.C_alloc ?_ _)|(with_reducible refine Kd.C_drewN ?_ _)|(with_reducible refine Kd.C_drew ?_))); (case side4=>exact (Kd.R_reads' HO211.out).2.1); rintro e w154 ⟨v213,rfl,ho0,hb⟩; refine ⟨_,rfl,?_⟩; have n0_:=Aside0.mk (Kd.S_below (by (with_reducible repeat (first|apply Kd.S_alloc|apply Kd.S_drewN|apply Kd.S_drew)); exact HO207.out) hb); have n1_:=Aside0.mk (Kd.R_below (by (with_reducible repeat (first|apply Kd.R_alloc|apply Kd.R_drewN|apply Kd.R_drew)); exact HO211.out) hb); have n2_:=Aside0.mk (Kd.R_lower ho0 (AP (by repeat (first|(with_reducible first|exact HB.out|apply AE|apply AC|apply AD|refine AH ?_ GE208.out)|exact HB.out)))); have n3_:=Aside0.mk (AO (g:=gb208) (o:= .cells #[.int .i64 2,.slice Ao148 y205.length co148] 34 (0,0)) (by (with_reducible repeat (first|refine AF ?_ _|refine AI ?_|refine AG ?_ _)); exact BK208.out) hb); have n4_:=Aside0.mk (AN (by repeat (first|(with_reducible first|exact HB.out|apply AE|apply AC|apply AD|refine AH ?_ GE208.out)|exact HB.out)) hb); clear HO207; clear HO211; clear BK208; clear HB; have HO207:=n0_; have HO211:=n1_; have HO214:=n2_; have BK208:=n3_; have HB:=n4_; clear n0_ n1_ n2_ n3_ n4_; (try clear hb); (try clear hb2); (try clear hk); (try clear hi); (try clear ho0); have hcz155_0:w154.cell? ⟨gb208,0,none⟩=some (.int .i64 2):=(AK BK208.out 0).trans rfl; have hcz155_1:w154.cell? ⟨gb208,1,none⟩=some (.slice Ao148 y205.length co148):=(AK BK208.out 1).trans rfl; have hfz155_0:=AJ BK208.out 0; have hfz155_1:=AJ BK208.out 1; obtain ⟨Ao156,co156,eo156⟩:=Kd.R_slice HO214.out; subst eo156)|((with_reducible refine AR (f:=13) rfl ?_); refine Ap (some 25) rfl rfl Try.func13 (by kernel_rfl) rfl #[.agg #[.int .i64 2,.slice Ao148 y205.length co148],.slice Ao156 t212.length co156] rfl (by (try simp only [List.map_toArray,List.map_cons,List.map_nil]); first|done|rfl|(simp only [List.length_drop,List.length_take]; rfl)) ?_; (with_reducible refine (AV.calls k 2 _ _ y205 _ _ t212 t216 t217 _ ?side1 ?side2 ?side3 ?side4 A2.out).mono ?_); (case side1=>repeat (first|exact (Kd.S_reads' HO207.out).2.2|(with_reducible refine Kd.C_alloc ?_ _)|(with_reducible refine Kd.C_drewN ?_ _)|(with_reducible refine Kd.C_drew ?_))); (case side2=>exact (Kd.S_reads' HO207.out).2.1); (case side3=>repeat (first|exact (Kd.R_reads' HO214.out).2.2|(with_reducible refine Kd.C_alloc ?_ _)|(with_reducible refine Kd.C_drewN ?_ _)|(with_reducible refine Kd.C_drew ?_))); (case side4=>exact (Kd.R_reads' HO214.out).2.1); rintro e w157 ⟨rfl,hb⟩; refine ⟨_,rfl,?_⟩; have n0_:=Aside0.mk (Kd.S_below (by (with_reducible repeat (first|apply Kd.S_alloc|apply Kd.S_drewN|apply Kd.S_drew)); exact HO207.out) hb); have n1_:=Aside0.mk (Kd.R_below (by (with_reducible repeat (first|apply Kd.R_alloc|apply Kd.R_drewN|apply Kd.R_drew)); exact HO211.out) hb); have n2_:=Aside0.mk (Kd.R_below (by (with_reducible repeat (first|apply Kd.R_alloc|apply Kd.R_drewN|apply Kd.R_drew)); exact HO214.out) hb); have n3_:=Aside0.mk (AO (g:=gb208) (o:= .cells #[.int .i64 2,.slice Ao148 y205.length co148] 34 (0,0)) (by (with_reducible repeat (first|refine AF ?_ _|refine AI ?_|refine AG ?_ _)); exact BK208.out) hb); have n4_:=Aside0.mk (AN (by repeat (first|(with_reducible first|exact HB.out|apply AE|apply AC|apply AD|refine AH ?_ GE208.out)|exact HB.out)) hb); clear HO207; clear HO211; clear HO214; clear BK208; clear HB; have HO207:=n0_; have HO211:=n1_; have HO214:=n2_; have BK208:=n3_; have HB:=n4_; clear n0_ n1_ n2_ n3_ n4_; (try clear hb); (try clear hb2); (try clear hk); (try clear hi); have hcz158_0:w157.cell? ⟨gb208,0,none⟩=some (.int .i64 2):=(AK BK208.out 0).trans rfl; have hcz158_1:w157.cell? ⟨gb208,1,none⟩=some (.slice Ao148 y205.length co148):=(AK BK208.out 1).trans rfl; have hfz158_0:=AJ BK208.out 0; have hfz158_1:=AJ BK208.out 1)|((with_reducible refine AR (f:=11) rfl ?_); refine Ap (some 30) rfl rfl Try.func11 (by kernel_rfl) rfl #[.agg #[.int .i64 2,.slice Ao148 y205.length co148]] rfl (by (try simp only [List.map_toArray,List.map_cons,List.map_nil]); first|done|rfl|(simp only [List.length_drop,List.length_take]; rfl)) ?_; (with_reducible refine (Ae.calls k 2 _ _ y205 t218 t219 _ ?side1 ?side2 A3.out).mono ?_); (case side1=>repeat (first|exact (Kd.S_reads' HO207.out).2.2|(with_reducible refine Kd.C_alloc ?_ _)|(with_reducible refine Kd.C_drewN ?_ _)|(with_reducible refine Kd.C_drew ?_))); (case side2=>exact (Kd.S_reads' HO207.out).2.1); rintro e w159 ⟨rfl,hb⟩; refine ⟨_,rfl,?_⟩; have n0_:=Aside0.mk (Kd.S_below (by (with_reducible repeat (first|apply Kd.S_alloc|apply Kd.S_drewN|apply Kd.S_drew)); exact HO207.out) hb); have n1_:=Aside0.mk (Kd.R_below (by (with_reducible repeat (first|apply Kd.R_alloc|apply Kd.R_drewN|apply Kd.R_drew)); exact HO211.out) hb); have n2_:=Aside0.mk (Kd.R_below (by (with_reducible repeat (first|apply Kd.R_alloc|apply Kd.R_drewN|apply Kd.R_drew)); exact HO214.out) hb); have n3_:=Aside0.mk (AO (g:=gb208) (o:= .cells #[.int .i64 2,.slice Ao148 y205.length co148] 34 (0,0)) (by (with_reducible repeat (first|refine AF ?_ _|refine AI ?_|refine AG ?_ _)); exact BK208.out) hb); have n4_:=Aside0.mk (AN (by repeat (first|(with_reducible first|exact HB.out|apply AE|apply AC|apply AD|refine AH ?_ GE208.out)|exact HB.out)) hb); clear HO207; clear HO211; clear HO214; clear BK208; clear HB; have HO207:=n0_; have HO211:=n1_; have HO214:=n2_; have BK208:=n3_; have HB:=n4_; clear n0_ n1_ n2_ n3_ n4_; (try clear hb); (try clear hb2); (try clear hk); (try clear hi); have hcz160_0:w159.cell? ⟨gb208,0,none⟩=some (.int .i64 2):=(AK BK208.out 0).trans rfl; have hcz160_1:w159.cell? ⟨gb208,1,none⟩=some (.slice Ao148 y205.length co148):=(AK BK208.out 1).trans rfl; have hfz160_0:=AJ BK208.out 0; have hfz160_1:=AJ BK208.out 1)|((with_reducible refine AR (f:=17) rfl ?_); refine Ap (some 35) rfl rfl Try.func17 (by kernel_rfl) rfl #[.agg #[.int .i64 2,.slice Ao148 y205.length co148]] rfl (by (try simp only [List.map_toArray,List.map_cons,List.map_nil]); first|done|rfl|(simp only [List.length_drop,List.length_take]; rfl)) ?_; (with_reducible refine (Au.calls k 2 _ _ y205 t220 t223 t224 _ ?side1 ?side2 A4.out).mono ?_); (case side1=>repeat (first|exact (Kd.S_reads' HO207.out).2.2|(with_reducible refine Kd.C_alloc ?_ _)|(with_reducible refine Kd.C_drewN ?_ _)|(with_reducible refine Kd.C_drew ?_))); (case side2=>exact (Kd.S_reads' HO207.out).2.1); rintro e w161 ⟨v221,rfl,ho0,hb⟩; refine ⟨_,rfl,?_⟩; have n0_:=Aside0.mk (Kd.S_elder' (by (with_reducible repeat (first|apply Kd.S_alloc|apply Kd.S_drewN|apply Kd.S_drew)); exact HO207.out) (Kd.R_base ho0) hb); have n1_:=Aside0.mk (Kd.R_elder' (by (with_reducible repeat (first|apply Kd.R_alloc|apply Kd.R_drewN|apply Kd.R_drew)); exact HO211.out) (Kd.R_base ho0) hb); have n2_:=Aside0.mk (Kd.R_below (by (with_reducible repeat (first|apply Kd.R_alloc|apply Kd.R_drewN|apply Kd.R_drew)); exact HO214.out) hb); have n3_:=Aside0.mk (Kd.R_lower (Kd.R_new' ho0 (Kd.R_lt (by (with_reducible repeat (first|apply Kd.R_alloc|apply Kd.R_drewN|apply Kd.R_drew)); exact HO211.out))) (AP (by repeat (first|(with_reducible first|exact HB.out|apply AE|apply AC|apply AD|refine AH ?_ GE208.out)|exact HB.out)))); have n4_:=Aside0.mk (AO (g:=gb208) (o:= .cells #[.int .i64 2,.slice Ao148 y205.length co148] 34 (0,0)) (by (with_reducible repeat (first|refine AF ?_ _|refine AI ?_|refine AG ?_ _)); exact BK208.out) hb); have n5_:=Aside0.mk (AN (by repeat (first|(with_reducible first|exact HB.out|apply AE|apply AC|apply AD|refine AH ?_ GE208.out)|exact HB.out)) hb); clear HO207; clear HO211; clear HO214; clear BK208; clear HB; have HO207:=n0_; have HO211:=n1_; have HO214:=n2_; have HO222:=n3_; have BK208:=n4_; have HB:=n5_; clear n0_ n1_ n2_ n3_ n4_ n5_; (try clear hb); (try clear hb2); (try clear hk); (try clear hi); (try clear ho0)))
   go_ret
   exact ⟨by first|rfl|(simp [AU,AT]<;>rfl)|(simp [*,AU,AT]<;>rfl),by repeat (first|(with_reducible first|exact HB.out|apply AE|apply AC|apply AD|refine AH ?_ GE208.out)|exact HB.out)⟩
 ·rw [if_neg c5] at H
  have c5b0:(t215==0)=false:=beq_eq_false_iff_ne.mpr c5
  have c5b1:(t215 !=0)=true:=bne_iff_ne.mpr c5
  obtain rfl:=Option.some.inj H
  go_enter Try.func9,Try.ntmps9
  go_wp2_with (first|((with_reducible refine Ah (N:=14) rfl ?_); (try (refine Aq (by rfl) ?_; dsimp only)); refine Kd.S_lit k64 _ 64 ?hg (N:=14) ?hd (xs:=([(⟨(⟨#[97]⟩:ByteArray),2,5,([]:List Int)⟩:S64),(⟨(⟨#[98]⟩:ByteArray),2,5,([]:List Int)⟩:S64),(⟨(⟨#[99]⟩:ByteArray),3,4,([]:List Int)⟩:S64)]:List (S64))) (inner:=[.string (⟨#[97]⟩:ByteArray),.int .i64 2,.int .i64 5,.slice none 0 0,.string (⟨#[98]⟩:ByteArray),.int .i64 2,.int .i64 5,.slice none 0 0,.string (⟨#[99]⟩:ByteArray),.int .i64 3,.int .i64 4,.slice none 0 0]) (ok:=fun _=>True) (okp:=fun _=>True) ?hr ?hp (fun _ hk=>hk) trivial (Below.refl _ _) (Nat.le_refl _) (by simp) ?_; (case hd=>rfl); (case hg=>rfl); (case hr=>first|(go_simp; done)|(go_simp; rfl)); (case hp=>exact (Reps.c4 (show Kd.M k64 _ _ _ (⟨(⟨#[97]⟩:ByteArray),2,5,([]:List Int)⟩:S64) [.string (⟨#[97]⟩:ByteArray),.int .i64 2,.int .i64 5,.slice none 0 0] from (B6 _ _ _ (⟨(⟨#[97]⟩:ByteArray),2,5,([]:List Int)⟩:S64) (Kd.R_nil _ _ _ _ _))) (Reps.c4 (show Kd.M k64 _ _ _ (⟨(⟨#[98]⟩:ByteArray),2,5,([]:List Int)⟩:S64) [.string (⟨#[98]⟩:ByteArray),.int .i64 2,.int .i64 5,.slice none 0 0] from (B6 _ _ _ (⟨(⟨#[98]⟩:ByteArray),2,5,([]:List Int)⟩:S64) (Kd.R_nil _ _ _ _ _))) (Reps.c4 (show Kd.M k64 _ _ _ (⟨(⟨#[99]⟩:ByteArray),3,4,([]:List Int)⟩:S64) [.string (⟨#[99]⟩:ByteArray),.int .i64 3,.int .i64 4,.slice none 0 0] from (B6 _ _ _ (⟨(⟨#[99]⟩:ByteArray),3,4,([]:List Int)⟩:S64) (Kd.R_nil _ _ _ _ _))) (Reps.none _ _))))); intro v206 w162 ho163 hb hg_ hnew_; clear hg_ hnew_; (first|rw [←Ny205.out] at ho163|(simp only [Int.reduceToNat] at ho163; rw [←Ny205.out] at ho163)); have n0_:=Aside0.mk (Kd.S_lower ho163 (AP (by repeat (first|(with_reducible first|exact HB.out|apply AE|apply AC|apply AD)|exact HB.out)))); have n1_:=Aside0.mk (AN (by repeat (first|(with_reducible first|exact HB.out|apply AE|apply AC|apply AD)|exact HB.out)) hb); clear HB; have HO207:=n0_; have HB:=n1_; clear n0_ n1_; clear hb ho163; obtain ⟨Ao164,co164,eo164⟩:=Kd.S_slice HO207.out; subst eo164)|((with_reducible refine Ah (N:=1) rfl ?_); (try (refine Aq (by rfl) ?_; dsimp only)); refine Al ?hg (N:=1) ?hd (cs:= #[.int .i64 0,.slice none 0 0]) (t:=34) ?hr ?_; (case hd=>rfl); (case hg=>rfl); (case hr=>first|(go_simp; done)|(go_simp; rfl)); intro gb208 hg w165 hbox hb; have n0_:=Aside0.mk (Kd.S_below (by (with_reducible repeat (first|apply Kd.S_alloc|apply Kd.S_drewN|apply Kd.S_drew)); exact HO207.out) hb); have n1_:=Aside0.mk (AN (by repeat (first|(with_reducible first|exact HB.out|apply AE|apply AC|apply AD)|exact HB.out)) hb); have n2_:=Aside0.mk (hbox); have n3_:=Aside0.mk ((by rw [hg]; exact (AP (by repeat (first|(with_reducible first|exact HB.out|apply AE|apply AC|apply AD)|exact HB.out))):w.heap.size≤gb208)); have n4_:=Aside0.mk ((by rw [hg]; exact (AP (by repeat (first|(with_reducible first|exact HB.out|apply AE|apply AC|apply AD)|exact HB.out))):w.heap.size≤gb208)); clear HO207; clear HB; have HO207:=n0_; have HB:=n1_; have BK208:=n2_; have GW208:=n3_; have GE208:=n4_; clear n0_ n1_ n2_ n3_ n4_; clear hb hbox hg; have hcz166_0:w165.cell? ⟨gb208,0,none⟩=some (.int .i64 0):=(AK BK208.out 0).trans rfl; have hcz166_1:w165.cell? ⟨gb208,1,none⟩=some (.slice none 0 0):=(AK BK208.out 1).trans rfl; have hfz166_0:=AJ BK208.out 0; have hfz166_1:=AJ BK208.out 1)|((with_reducible refine Ah (N:=18) rfl ?_); (try (refine Aq (by rfl) ?_; dsimp only)); refine Kd.R_lit (Kd.int .i64) _ 3 ?hg (N:=18) ?hd (xs:=([0,1,2]:List Int)) (inner:=[.int .i64 0,.int .i64 1,.int .i64 2]) (ok:=fun _=>True) (okp:=fun _=>True) ?hr ?hp (fun _ hk=>hk) trivial (Below.refl _ _) (Nat.le_refl _) (by simp) ?_; (case hd=>rfl); (case hg=>rfl); (case hr=>first|(go_simp; done)|(go_simp; rfl)); (case hp=>exact (Reps.one (show Kd.M (Kd.int .i64) _ _ _ 0 [.int .i64 0] from rfl) (Reps.one (show Kd.M (Kd.int .i64) _ _ _ 1 [.int .i64 1] from rfl) (Reps.one (show Kd.M (Kd.int .i64) _ _ _ 2 [.int .i64 2] from rfl) (Reps.none _ _))))); intro v210 w167 ho168 hb hg_ hnew_; clear hg_ hnew_; (first|rw [←Ny209.out] at ho168|(simp only [Int.reduceToNat] at ho168; rw [←Ny209.out] at ho168)); have n0_:=Aside0.mk (Kd.S_elder' (by (with_reducible repeat (first|apply Kd.S_alloc|apply Kd.S_drewN|apply Kd.S_drew)); exact (Kd.S_mono (Kd.S_far (p:=⟨gb208,1,none⟩) (Kd.S_far (p:=⟨gb208,0,none⟩) (Kd.S_types HO207.out BK208.out (by decide)) (fun _ hk=>hk.2) (.int .i64 2)) (fun _ hk=>hk.2) (.slice Ao164 y205.length co164)) (fun _ h_=>h_.1))) (Kd.R_base ho168) hb); have n1_:=Aside0.mk (Kd.R_lower ho168 (AP (by repeat (first|(with_reducible first|exact HB.out|apply AE|apply AC|apply AD|refine AH ?_ GE208.out)|exact HB.out)))); have n2_:=Aside0.mk (AO (g:=gb208) (o:= .cells #[.int .i64 2,.slice Ao164 y205.length co164] 34 (0,0)) (by (with_reducible repeat (first|refine AF ?_ _|refine AI ?_|refine AG ?_ _)); refine An (cs:= #[.int .i64 2,.slice none 0 0]) ?_ 1 _ rfl; (with_reducible repeat (first|refine AF ?_ _|refine AI ?_|refine AG ?_ _)); refine An (cs:= #[.int .i64 0,.slice none 0 0]) ?_ 0 _ rfl; (with_reducible repeat (first|refine AF ?_ _|refine AI ?_|refine AG ?_ _)); exact BK208.out) hb); have n3_:=Aside0.mk (AN (by repeat (first|(with_reducible first|exact HB.out|apply AE|apply AC|apply AD|refine AH ?_ GE208.out)|exact HB.out)) hb); clear HO207; clear BK208; clear HB; have HO207:=n0_; have HO211:=n1_; have BK208:=n2_; have HB:=n3_; clear n0_ n1_ n2_ n3_; clear hb ho168; obtain ⟨Ao169,co169,eo169⟩:=Kd.R_slice HO211.out; subst eo169)|((with_reducible refine AR (f:=15) rfl ?_); refine Ap (some 19) rfl rfl Try.func15 (by kernel_rfl) rfl #[.agg #[.int .i64 2,.slice Ao164 y205.length co164],.slice Ao169 y209.length co169] rfl (by (try simp only [List.map_toArray,List.map_cons,List.map_nil]); first|done|rfl|(simp only [List.length_drop,List.length_take]; rfl)) ?_; (with_reducible refine (AS.calls k 2 _ _ y205 _ _ y209 t212 t215 _ ?side1 ?side2 ?side3 ?side4 A1.out).mono ?_); (case side1=>repeat (first|exact (Kd.S_reads' HO207.out).2.2|(with_reducible refine Kd.C_alloc ?_ _)|(with_reducible refine Kd.C_drewN ?_ _)|(with_reducible refine Kd.C_drew ?_))); (case side2=>exact (Kd.S_reads' HO207.out).2.1); (case side3=>repeat (first|exact (Kd.R_reads' HO211.out).2.2|(with_reducible refine Kd.C_alloc ?_ _)|(with_reducible refine Kd.C_drewN ?_ _)|(with_reducible refine Kd.C_drew ?_))); (case side4=>exact (Kd.R_reads' HO211.out).2.1); rintro e w170 ⟨v213,rfl,ho0,hb⟩; refine ⟨_,rfl,?_⟩; have n0_:=Aside0.mk (Kd.S_below (by (with_reducible repeat (first|apply Kd.S_alloc|apply Kd.S_drewN|apply Kd.S_drew)); exact HO207.out) hb); have n1_:=Aside0.mk (Kd.R_below (by (with_reducible repeat (first|apply Kd.R_alloc|apply Kd.R_drewN|apply Kd.R_drew)); exact HO211.out) hb); have n2_:=Aside0.mk (Kd.R_lower ho0 (AP (by repeat (first|(with_reducible first|exact HB.out|apply AE|apply AC|apply AD|refine AH ?_ GE208.out)|exact HB.out)))); have n3_:=Aside0.mk (AO (g:=gb208) (o:= .cells #[.int .i64 2,.slice Ao164 y205.length co164] 34 (0,0)) (by (with_reducible repeat (first|refine AF ?_ _|refine AI ?_|refine AG ?_ _)); exact BK208.out) hb); have n4_:=Aside0.mk (AN (by repeat (first|(with_reducible first|exact HB.out|apply AE|apply AC|apply AD|refine AH ?_ GE208.out)|exact HB.out)) hb); clear HO207; clear HO211; clear BK208; clear HB; have HO207:=n0_; have HO211:=n1_; have HO214:=n2_; have BK208:=n3_; have HB:=n4_; clear n0_ n1_ n2_ n3_ n4_; (try clear hb); (try clear hb2); (try clear hk); (try clear hi); (try clear ho0); have hcz171_0:w170.cell? ⟨gb208,0,none⟩=some (.int .i64 2):=(AK BK208.out 0).trans rfl; have hcz171_1:w170.cell? ⟨gb208,1,none⟩=some (.slice Ao164 y205.length co164):=(AK BK208.out 1).trans rfl; have hfz171_0:=AJ BK208.out 0; have hfz171_1:=AJ BK208.out 1; obtain ⟨Ao172,co172,eo172⟩:=Kd.R_slice HO214.out; subst eo172)|((with_reducible refine AR (f:=13) rfl ?_); refine Ap (some 25) rfl rfl Try.func13 (by kernel_rfl) rfl #[.agg #[.int .i64 2,.slice Ao164 y205.length co164],.slice Ao172 t212.length co172] rfl (by (try simp only [List.map_toArray,List.map_cons,List.map_nil]); first|done|rfl|(simp only [List.length_drop,List.length_take]; rfl)) ?_; (with_reducible refine (AV.calls k 2 _ _ y205 _ _ t212 t216 t217 _ ?side1 ?side2 ?side3 ?side4 A2.out).mono ?_); (case side1=>repeat (first|exact (Kd.S_reads' HO207.out).2.2|(with_reducible refine Kd.C_alloc ?_ _)|(with_reducible refine Kd.C_drewN ?_ _)|(with_reducible refine Kd.C_drew ?_))); (case side2=>exact (Kd.S_reads' HO207.out).2.1); (case side3=>repeat (first|exact (Kd.R_reads' HO214.out).2.2|(with_reducible refine Kd.C_alloc ?_ _)|(with_reducible refine Kd.C_drewN ?_ _)|(with_reducible refine Kd.C_drew ?_))); (case side4=>exact (Kd.R_reads' HO214.out).2.1); rintro e w173 ⟨rfl,hb⟩; refine ⟨_,rfl,?_⟩; have n0_:=Aside0.mk (Kd.S_below (by (with_reducible repeat (first|apply Kd.S_alloc|apply Kd.S_drewN|apply Kd.S_drew)); exact HO207.out) hb); have n1_:=Aside0.mk (Kd.R_below (by (with_reducible repeat (first|apply Kd.R_alloc|apply Kd.R_drewN|apply Kd.R_drew)); exact HO211.out) hb); have n2_:=Aside0.mk (Kd.R_below (by (with_reducible repeat (first|apply Kd.R_alloc|apply Kd.R_drewN|apply Kd.R_drew)); exact HO214.out) hb); have n3_:=Aside0.mk (AO (g:=gb208) (o:= .cells #[.int .i64 2,.slice Ao164 y205.length co164] 34 (0,0)) (by (with_reducible repeat (first|refine AF ?_ _|refine AI ?_|refine AG ?_ _)); exact BK208.out) hb); have n4_:=Aside0.mk (AN (by repeat (first|(with_reducible first|exact HB.out|apply AE|apply AC|apply AD|refine AH ?_ GE208.out)|exact HB.out)) hb); clear HO207; clear HO211; clear HO214; clear BK208; clear HB; have HO207:=n0_; have HO211:=n1_; have HO214:=n2_; have BK208:=n3_; have HB:=n4_; clear n0_ n1_ n2_ n3_ n4_; (try clear hb); (try clear hb2); (try clear hk); (try clear hi); have hcz174_0:w173.cell? ⟨gb208,0,none⟩=some (.int .i64 2):=(AK BK208.out 0).trans rfl; have hcz174_1:w173.cell? ⟨gb208,1,none⟩=some (.slice Ao164 y205.length co164):=(AK BK208.out 1).trans rfl; have hfz174_0:=AJ BK208.out 0; have hfz174_1:=AJ BK208.out 1)|((with_reducible refine AR (f:=11) rfl ?_); refine Ap (some 30) rfl rfl Try.func11 (by kernel_rfl) rfl #[.agg #[.int .i64 2,.slice Ao164 y205.length co164]] rfl (by (try simp only [List.map_toArray,List.map_cons,List.map_nil]); first|done|rfl|(simp only [List.length_drop,List.length_take]; rfl)) ?_; (with_reducible refine (Ae.calls k 2 _ _ y205 t218 t219 _ ?side1 ?side2 A3.out).mono ?_); (case side1=>repeat (first|exact (Kd.S_reads' HO207.out).2.2|(with_reducible refine Kd.C_alloc ?_ _)|(with_reducible refine Kd.C_drewN ?_ _)|(with_reducible refine Kd.C_drew ?_))); (case side2=>exact (Kd.S_reads' HO207.out).2.1); rintro e w175 ⟨rfl,hb⟩; refine ⟨_,rfl,?_⟩; have n0_:=Aside0.mk (Kd.S_below (by (with_reducible repeat (first|apply Kd.S_alloc|apply Kd.S_drewN|apply Kd.S_drew)); exact HO207.out) hb); have n1_:=Aside0.mk (Kd.R_below (by (with_reducible repeat (first|apply Kd.R_alloc|apply Kd.R_drewN|apply Kd.R_drew)); exact HO211.out) hb); have n2_:=Aside0.mk (Kd.R_below (by (with_reducible repeat (first|apply Kd.R_alloc|apply Kd.R_drewN|apply Kd.R_drew)); exact HO214.out) hb); have n3_:=Aside0.mk (AO (g:=gb208) (o:= .cells #[.int .i64 2,.slice Ao164 y205.length co164] 34 (0,0)) (by (with_reducible repeat (first|refine AF ?_ _|refine AI ?_|refine AG ?_ _)); exact BK208.out) hb); have n4_:=Aside0.mk (AN (by repeat (first|(with_reducible first|exact HB.out|apply AE|apply AC|apply AD|refine AH ?_ GE208.out)|exact HB.out)) hb); clear HO207; clear HO211; clear HO214; clear BK208; clear HB; have HO207:=n0_; have HO211:=n1_; have HO214:=n2_; have BK208:=n3_; have HB:=n4_; clear n0_ n1_ n2_ n3_ n4_; (try clear hb); (try clear hb2); (try clear hk); (try clear hi); have hcz176_0:w175.cell? ⟨gb208,0,none⟩=some (.int .i64 2):=(AK BK208.out 0).trans rfl; have hcz176_1:w175.cell? ⟨gb208,1,none⟩=some (.slice Ao164 y205.length co164):=(AK BK208.out 1).trans rfl; have hfz176_0:=AJ BK208.out 0; have hfz176_1:=AJ BK208.out 1)|((with_reducible refine AR (f:=17) rfl ?_); refine Ap (some 35) rfl rfl Try.func17 (by kernel_rfl) rfl #[.agg #[.int .i64 2,.slice Ao164 y205.length co164]] rfl (by (try simp only [List.map_toArray,List.map_cons,List.map_nil]); first|done|rfl|(simp only [List.length_drop,List.length_take]; rfl)) ?_; (with_reducible refine (Au.calls k 2 _ _ y205 t220 t223 t224 _ ?side1 ?side2 A4.out).mono ?_); (case side1=>repeat (first|exact (Kd.S_reads' HO207.out).2.2|(with_reducible refine Kd.C_alloc ?_ _)|(with_reducible refine Kd.C_drewN ?_ _)|(with_reducible refine Kd.C_drew ?_))); (case side2=>exact (Kd.S_reads' HO207.out).2.1); rintro e w177 ⟨v221,rfl,ho0,hb⟩; refine ⟨_,rfl,?_⟩; have n0_:=Aside0.mk (Kd.S_elder' (by (with_reducible repeat (first|apply Kd.S_alloc|apply Kd.S_drewN|apply Kd.S_drew)); exact HO207.out) (Kd.R_base ho0) hb); have n1_:=Aside0.mk (Kd.R_elder' (by (with_reducible repeat (first|apply Kd.R_alloc|apply Kd.R_drewN|apply Kd.R_drew)); exact HO211.out) (Kd.R_base ho0) hb); have n2_:=Aside0.mk (Kd.R_below (by (with_reducible repeat (first|apply Kd.R_alloc|apply Kd.R_drewN|apply Kd.R_drew)); exact HO214.out) hb); have n3_:=Aside0.mk (Kd.R_lower (Kd.R_new' ho0 (Kd.R_lt (by (with_reducible repeat (first|apply Kd.R_alloc|apply Kd.R_drewN|apply Kd.R_drew)); exact HO211.out))) (AP (by repeat (first|(with_reducible first|exact HB.out|apply AE|apply AC|apply AD|refine AH ?_ GE208.out)|exact HB.out)))); have n4_:=Aside0.mk (AO (g:=gb208) (o:= .cells #[.int .i64 2,.slice Ao164 y205.length co164] 34 (0,0)) (by (with_reducible repeat (first|refine AF ?_ _|refine AI ?_|refine AG ?_ _)); exact BK208.out) hb); have n5_:=Aside0.mk (AN (by repeat (first|(with_reducible first|exact HB.out|apply AE|apply AC|apply AD|refine AH ?_ GE208.out)|exact HB.out)) hb); clear HO207; clear HO211; clear HO214; clear BK208; clear HB; have HO207:=n0_; have HO211:=n1_; have HO214:=n2_; have HO222:=n3_; have BK208:=n4_; have HB:=n5_; clear n0_ n1_ n2_ n3_ n4_ n5_; (try clear hb); (try clear hb2); (try clear hk); (try clear hi); (try clear ho0)))
  go_ret
  exact ⟨by first|rfl|(simp [AU,AT]<;>rfl)|(simp [*,AU,AT]<;>rfl),by repeat (first|(with_reducible first|exact HB.out|apply AE|apply AC|apply AD|refine AH ?_ GE208.out)|exact HB.out)⟩
end Go.Proofs.Ytdadecjefafflaa.PAll
end
