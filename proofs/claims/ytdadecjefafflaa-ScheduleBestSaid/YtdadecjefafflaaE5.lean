/- A part of what the law's proof leans on. PACKED BY pack.py of this repo. -/
import Derived.Test.YtdadecjefafflaaE4
set_option linter.unusedVariables false
set_option linter.unusedSimpArgs false
set_option linter.defProp false
set_option linter.unusedSectionVars false
section
namespace Go.Proofs.Ytdadecjefafflaa.PAll
set_option maxRecDepth 100000
open Go.RowKit Go.Proofs.YtdadecjefafflaaW.PrintWords Go.Proofs.YtdadecjefafflaaW.PrintLast Go.Proofs.YtdadecjefafflaaW.PrintMore
attribute [local go_sem] Bb BZ Bg Bf BU BT Ba BX
mutual
def AS.j0:Nat→List Int→Bool→Int→List (S42)→Option ((List (S54))×Int)
 |0,_,_,_,_=>none
 |k+1,x1,x29,x373000,x373001=>if x29=true then (some (([]:List (S54)),1)) else (if 0≤(x1.length:Int) then (if ((x1.length:Int):Int).toNat≤17592186044416 then (if ((x1.length:Int):Int).toNat≤281474976710656 then (if 0≤x373000 then (if (x373000:Int).toNat≤35184372088832 then (AS.l0 k x1 (List.replicate ((x1.length:Int):Int).toNat z54) (List.replicate ((x1.length:Int):Int).toNat false) (List.replicate (x373000:Int).toNat 0) 0 x373000 x373001) else (none)) else (none)) else (none)) else (none)) else (none))
def AS.l0:Nat→List Int→List (S54)→List Bool→List Int→Int→Int→List (S42)→Option ((List (S54))×Int)
 |0,_,_,_,_,_,_,_=>none
 |k+1,x1,x6,x7,x8,x9,x373000,x373001=>if x9<(x1.length:Int) then (AS.l1 k x1 x6 x7 x8 x9 (-1) 0 x373000 x373001) else (some (x6,0))
def AS.l1:Nat→List Int→List (S54)→List Bool→List Int→Int→Int→Int→Int→List (S42)→Option ((List (S54))×Int)
 |0,_,_,_,_,_,_,_,_,_=>none
 |k+1,x1,x6,x7,x8,x9,x10,x11,x373000,x373001=>if x11<(x1.length:Int) then (AS.j3 k x1 x6 x7 x8 x9 x10 x11 (decide (x10<0)) x373000 x373001) else (AS.j3 k x1 x6 x7 x8 x9 x10 x11 false x373000 x373001)
def AS.j3:Nat→List Int→List (S54)→List Bool→List Int→Int→Int→Int→Bool→Int→List (S42)→Option ((List (S54))×Int)
 |0,_,_,_,_,_,_,_,_,_,_=>none
 |k+1,x1,x6,x7,x8,x9,x10,x11,x52,x373000,x373001=>if x52=true then (if 0≤x11 then (if x11<(x1.length:Int) then (if 0≤(rd x1 x11) then (if (rd x1 x11)<(x7.length:Int) then (AS.l2 k x1 x6 x7 x8 x9 x10 x11 (!(rdOf false x7 (rd x1 x11))) 0 x373000 x373001) else (none)) else (none)) else (none)) else (none)) else (AS.l3 k x1 x6 x7 x8 x9 x10 0 1 x373000 x373001)
def AS.l2:Nat→List Int→List (S54)→List Bool→List Int→Int→Int→Int→Bool→Int→Int→List (S42)→Option ((List (S54))×Int)
 |0,_,_,_,_,_,_,_,_,_,_,_=>none
 |k+1,x1,x6,x7,x8,x9,x10,x11,x12,x13,x373000,x373001=>if 0≤x11 then (if x11<(x1.length:Int) then (if 0≤(rd x1 x11) then (if (rd x1 x11)<(x373001.length:Int) then (if x13<(((AL x373001 (rd x1 x11)).f3).length:Int) then (if x12=true then (if 0≤x13 then (if 0≤(rd ((AL x373001 (rd x1 x11)).f3) x13) then (if (rd ((AL x373001 (rd x1 x11)).f3) x13)<(x7.length:Int) then (AS.l2 k x1 x6 x7 x8 x9 x10 x11 (rdOf false x7 (rd ((AL x373001 (rd x1 x11)).f3) x13)) (wrap64 (x13+1)) x373000 x373001) else (none)) else (none)) else (none)) else (AS.l2 k x1 x6 x7 x8 x9 x10 x11 false (wrap64 (x13+1)) x373000 x373001)) else (if x12=true then (AS.l1 k x1 x6 x7 x8 x9 (rd x1 x11) (wrap64 (x11+1)) x373000 x373001) else (AS.l1 k x1 x6 x7 x8 x9 x10 (wrap64 (x11+1)) x373000 x373001))) else (none)) else (none)) else (none)) else (none)
def AS.l3:Nat→List Int→List (S54)→List Bool→List Int→Int→Int→Int→Int→Int→List (S42)→Option ((List (S54))×Int)
 |0,_,_,_,_,_,_,_,_,_,_=>none
 |k+1,x1,x6,x7,x8,x9,x10,x14,x15,x373000,x373001=>if x15<x373000 then (if 0≤x15 then (if x15<(x8.length:Int) then (if 0≤x14 then (if x14<(x8.length:Int) then (if (rd x8 x15)<(rd x8 x14) then (AS.l3 k x1 x6 x7 x8 x9 x10 x15 (wrap64 (x15+1)) x373000 x373001) else (AS.l3 k x1 x6 x7 x8 x9 x10 x14 (wrap64 (x15+1)) x373000 x373001)) else (none)) else (none)) else (none)) else (none)) else (if 0≤x14 then (if x14<(x8.length:Int) then (AS.l4 k x1 x6 x7 x8 x9 x10 x14 (rd x8 x14) 0 x373000 x373001) else (none)) else (none))
def AS.l4:Nat→List Int→List (S54)→List Bool→List Int→Int→Int→Int→Int→Int→Int→List (S42)→Option ((List (S54))×Int)
 |0,_,_,_,_,_,_,_,_,_,_,_=>none
 |k+1,x1,x6,x7,x8,x9,x10,x14,x16,x17,x373000,x373001=>if 0≤x10 then (if x10<(x373001.length:Int) then (if x17<(((AL x373001 x10).f3).length:Int) then (if 0≤x17 then (if 0≤(rd ((AL x373001 x10).f3) x17) then (if (rd ((AL x373001 x10).f3) x17)<(x6.length:Int) then (if (rd ((AL x373001 x10).f3) x17)<(x373001.length:Int) then (AS.l4 k x1 x6 x7 x8 x9 x10 x14 (mx x16 (wrap64 (((BB x6 (rd ((AL x373001 x10).f3) x17)).f1)+((AL x373001 (rd ((AL x373001 x10).f3) x17)).f1)))) (wrap64 (x17+1)) x373000 x373001) else (none)) else (none)) else (none)) else (none)) else (if x10<(x6.length:Int) then (if x10<(x7.length:Int) then (if 0≤x14 then (if x14<(x8.length:Int) then (AS.l0 k x1 (x6.set (x10:Int).toNat (⟨x14,x16⟩:S54)) (x7.set (x10:Int).toNat true) (x8.set (x14:Int).toNat (wrap64 (x16+((AL x373001 x10).f1)))) (wrap64 (x9+1)) x373000 x373001) else (none)) else (none)) else (none)) else (none))) else (none)) else (none)
end
def AS.f (k:Nat) (A8:Int) (l0_1:List (S42)) (l1:List Int):Option ((List (S54))×Int):=(AR.f k A8 l0_1).bind fun t373=>(if t373=true then ((Ah.f k l1 (l0_1.length:Int)).bind fun t374=>(AS.j0 k l1 (!t374) A8 l0_1)) else (AS.j0 k l1 true A8 l0_1))
set_option maxHeartbeats 8000000 in
theorem AS.calls (k : Nat) (A8 : Int) (A0_1:Option Addr) (c0_1:Nat) (l0_1:List (S42)) (A1:Option Addr) (c1:Nat) (l1:List Int) (r1:List (S54)) (r2:Int) (w:World) (hr0_1:Kd.C k42 w A0_1 l0_1.length l0_1) (hc0_1:l0_1.length≤c0_1) (hr1:Kd.C (Kd.int .i64) w A1 l1.length l1) (hc1:l1.length≤c1) (h:AS.f k A8 l0_1 l1=some (r1,r2)):
  Calls Try.prog 21 #[.agg #[.int .i64 A8,.slice A0_1 l0_1.length c0_1],.slice A1 l1.length c1] w fun e w'=>∃v0_:Value,e= .returned (.tuple #[v0_,.int .i64 r2])∧Kd.R k54 54 w' w.heap.size (fun _=>True) v0_ r1∧Below w.heap.size w w':=by
 have hu24:=Try.underlying24
 have hu54:=Try.underlying54
 have HR0_1:=Aside0.mk hr0_1
 have HC0_1:=Aside0.mk hc0_1
 clear hr0_1 hc0_1
 have HR1:=Aside0.mk hr1
 have HC1:=Aside0.mk hc1
 clear hr1 hc1
 have HB:=Aside0.mk (Below.refl w.heap.size w)
 have H:((AR.f k A8 l0_1).bind fun t373=>(if t373=true then ((Ah.f k l1 (l0_1.length:Int)).bind fun t374=>(AS.j0 k l1 (!t374) A8 l0_1)) else (AS.j0 k l1 true A8 l0_1)))=some (r1,r2):=h
 clear h
 have HC3:=Aside0.mk H
 clear H
 go_enter Try.func21,Try.ntmps21
 go_upto_region 1 with (first|((with_reducible refine Ap (N:=2) rfl ?_); (try (refine BC (by rfl) ?_; dsimp only)); refine Ar ?hg (N:=2) ?hd (cs:= #[.int .i64 A8,.slice A0_1 l0_1.length c0_1]) (t:=24) ?hr ?_; (case hd=>rfl); (case hg=>rfl); (case hr=>first|(go_simp; done)|(go_simp; rfl)); intro gb372 hg w4 hbox hb; have n0_:=Aside0.mk (AN zB hb); have n1_:=Aside0.mk (hbox); have n2_:=Aside0.mk ((by rw [hg]; exact (AQ zB):w.heap.size≤gb372)); have n3_:=Aside0.mk ((by rw [hg]; exact (AQ zB):w.heap.size≤gb372)); clear HB; have HB:=n0_; have BK372:=n1_; have GW372:=n2_; have GE372:=n3_; clear n0_ n1_ n2_ n3_; clear hb hbox hg))
 repeat (go_quiet (first|((with_reducible refine Ap (N:=2) rfl ?_); (try (refine BC (by rfl) ?_; dsimp only)); refine Ar ?hg (N:=2) ?hd (cs:= #[.int .i64 A8,.slice A0_1 l0_1.length c0_1]) (t:=24) ?hr ?_; (case hd=>rfl); (case hg=>rfl); (case hr=>first|(go_simp; done)|(go_simp; rfl)); intro gb372 hg w4 hbox hb; have n0_:=Aside0.mk (AN zB hb); have n1_:=Aside0.mk (hbox); have n2_:=Aside0.mk ((by rw [hg]; exact (AQ zB):w.heap.size≤gb372)); have n3_:=Aside0.mk ((by rw [hg]; exact (AQ zB):w.heap.size≤gb372)); clear HB; have HB:=n0_; have BK372:=n1_; have GW372:=n2_; have GE372:=n3_; clear n0_ n1_ n2_ n3_; clear hb hbox hg)); go_upto_region 1 with (first|((with_reducible refine Ap (N:=2) rfl ?_); (try (refine BC (by rfl) ?_; dsimp only)); refine Ar ?hg (N:=2) ?hd (cs:= #[.int .i64 A8,.slice A0_1 l0_1.length c0_1]) (t:=24) ?hr ?_; (case hd=>rfl); (case hg=>rfl); (case hr=>first|(go_simp; done)|(go_simp; rfl)); intro gb372 hg w4 hbox hb; have n0_:=Aside0.mk (AN zB hb); have n1_:=Aside0.mk (hbox); have n2_:=Aside0.mk ((by rw [hg]; exact (AQ zB):w.heap.size≤gb372)); have n3_:=Aside0.mk ((by rw [hg]; exact (AQ zB):w.heap.size≤gb372)); clear HB; have HB:=n0_; have BK372:=n1_; have GW372:=n2_; have GE372:=n3_; clear n0_ n1_ n2_ n3_; clear hb hbox hg)))
 (try simp only [Act.put,List.setIfInBounds_toArray,List.set_cons_zero,List.set_cons_succ])
 go_cut [29] (fun v29 wc=>∃(kq:Nat) (x29_2:Bool),v29= .bool x29_2∧Aside0 (AS.j0 kq l1 x29_2 A8 l0_1=some (r1,r2))∧Aside0 (kq≤k)∧Aside0 (wc.heap[gb372]? =some (.cells #[.int .i64 A8,(.slice A0_1 l0_1.length c0_1)] 24 (0,0)))∧Aside0 (Below w.heap.size w wc))
 case first=>
  have H:=HC3.out
  clear HC3
  replace H:=Option.bind_eq_some_iff.mp H
  obtain ⟨t373,A50,H⟩:=H
  replace H:(if t373=true then ((Ah.f k l1 (l0_1.length:Int)).bind fun t374=>(AS.j0 k l1 (!t374) A8 l0_1)) else (AS.j0 k l1 true A8 l0_1))=some (r1,r2):=H
  have A5:=Aside0.mk A50
  clear A50
  by_cases c6:t373=true
  ·subst c6
   have H1:((Ah.f k l1 (l0_1.length:Int)).bind fun t374=>(AS.j0 k l1 (!t374) A8 l0_1))=some (r1,r2):=by rw [if_pos rfl] at H; exact H
   clear H
   have H:=H1
   clear H1
   replace H:=Option.bind_eq_some_iff.mp H
   obtain ⟨t374,A70,H⟩:=H
   replace H:(AS.j0 k l1 (!t374) A8 l0_1)=some (r1,r2):=H
   have A7:=Aside0.mk A70
   clear A70
   have H':=Aside0.mk H
   clear H
   have hcz8_0:w4.cell? ⟨gb372,0,none⟩=some (.int .i64 A8):=(AK BK372.out 0).trans rfl
   have hcz8_1:w4.cell? ⟨gb372,1,none⟩=some (.slice A0_1 l0_1.length c0_1):=(AK BK372.out 1).trans rfl
   have hfz8_0:=AJ BK372.out 0
   have hfz8_1:=AJ BK372.out 1
   go_wp2_with (first|(go_at_call 36; (with_reducible refine (AR.calls k A8 _ _ l0_1 true _ ?side1 ?side2 A5.out).mono ?_); (case side1=>repeat (first|exact (Kd.C_below HR0_1.out HB.out)|(with_reducible refine Kd.C_alloc ?_ _)|(with_reducible refine Kd.C_drewN ?_ _)|(with_reducible refine Kd.C_drew ?_))); (case side2=>exact HC0_1.out); rintro e w9 ⟨rfl,hb⟩; have n0_:=Aside0.mk (AP (g:=gb372) (o:= .cells #[.int .i64 A8,.slice A0_1 l0_1.length c0_1] 24 (0,0)) zN hb); have n1_:=Aside0.mk (AN zK hb); clear BK372; clear HB; have BK372:=n0_; have HB:=n1_; clear n0_ n1_; (try clear hb); (try clear hb2); (try clear hk); (try clear hi); have hcz10_0:w9.cell? ⟨gb372,0,none⟩=some (.int .i64 A8):=(AK BK372.out 0).trans rfl; have hcz10_1:w9.cell? ⟨gb372,1,none⟩=some (.slice A0_1 l0_1.length c0_1):=(AK BK372.out 1).trans rfl; have hfz10_0:=AJ BK372.out 0; have hfz10_1:=AJ BK372.out 1)|(go_at_call 39; (with_reducible refine (Ah.calls k _ _ l1 (l0_1.length:Int) t374 _ ?side1 ?side2 A7.out).mono ?_); (case side1=>repeat (first|exact (Kd.C_below HR1.out HB.out)|(with_reducible refine Kd.C_alloc ?_ _)|(with_reducible refine Kd.C_drewN ?_ _)|(with_reducible refine Kd.C_drew ?_))); (case side2=>exact HC1.out); rintro e w' ⟨rfl,⟨nd,rfl⟩⟩; (try first|exact ⟨rfl,_,World.drewN_drewN _ _ _⟩|exact ⟨rfl,_,Eq.trans (World.drewN_drewN _ _ _) (congrArg (World.drewN _) (Nat.add_assoc _ _ _))⟩)))
   repeat (go_quiet (first|(go_at_call 36; (with_reducible refine (AR.calls k A8 _ _ l0_1 true _ ?side1 ?side2 A5.out).mono ?_); (case side1=>repeat (first|exact (Kd.C_below HR0_1.out HB.out)|(with_reducible refine Kd.C_alloc ?_ _)|(with_reducible refine Kd.C_drewN ?_ _)|(with_reducible refine Kd.C_drew ?_))); (case side2=>exact HC0_1.out); rintro e w9 ⟨rfl,hb⟩; have n0_:=Aside0.mk (AP (g:=gb372) (o:= .cells #[.int .i64 A8,.slice A0_1 l0_1.length c0_1] 24 (0,0)) zN hb); have n1_:=Aside0.mk (AN zK hb); clear BK372; clear HB; have BK372:=n0_; have HB:=n1_; clear n0_ n1_; (try clear hb); (try clear hb2); (try clear hk); (try clear hi); have hcz10_0:w9.cell? ⟨gb372,0,none⟩=some (.int .i64 A8):=(AK BK372.out 0).trans rfl; have hcz10_1:w9.cell? ⟨gb372,1,none⟩=some (.slice A0_1 l0_1.length c0_1):=(AK BK372.out 1).trans rfl; have hfz10_0:=AJ BK372.out 0; have hfz10_1:=AJ BK372.out 1; clear A5)|(go_at_call 39; (with_reducible refine (Ah.calls k _ _ l1 (l0_1.length:Int) t374 _ ?side1 ?side2 A7.out).mono ?_); (case side1=>repeat (first|exact (Kd.C_below HR1.out HB.out)|(with_reducible refine Kd.C_alloc ?_ _)|(with_reducible refine Kd.C_drewN ?_ _)|(with_reducible refine Kd.C_drew ?_))); (case side2=>exact HC1.out); rintro e w' ⟨rfl,⟨nd,rfl⟩⟩; (try first|exact ⟨rfl,_,World.drewN_drewN _ _ _⟩|exact ⟨rfl,_,Eq.trans (World.drewN_drewN _ _ _) (congrArg (World.drewN _) (Nat.add_assoc _ _ _))⟩); clear A7)); try go_wp2_with (first|(go_at_call 36; (with_reducible refine (AR.calls k A8 _ _ l0_1 true _ ?side1 ?side2 A5.out).mono ?_); (case side1=>repeat (first|exact (Kd.C_below HR0_1.out HB.out)|(with_reducible refine Kd.C_alloc ?_ _)|(with_reducible refine Kd.C_drewN ?_ _)|(with_reducible refine Kd.C_drew ?_))); (case side2=>exact HC0_1.out); rintro e w9 ⟨rfl,hb⟩; have n0_:=Aside0.mk (AP (g:=gb372) (o:= .cells #[.int .i64 A8,.slice A0_1 l0_1.length c0_1] 24 (0,0)) zN hb); have n1_:=Aside0.mk (AN zK hb); clear BK372; clear HB; have BK372:=n0_; have HB:=n1_; clear n0_ n1_; (try clear hb); (try clear hb2); (try clear hk); (try clear hi); have hcz10_0:w9.cell? ⟨gb372,0,none⟩=some (.int .i64 A8):=(AK BK372.out 0).trans rfl; have hcz10_1:w9.cell? ⟨gb372,1,none⟩=some (.slice A0_1 l0_1.length c0_1):=(AK BK372.out 1).trans rfl; have hfz10_0:=AJ BK372.out 0; have hfz10_1:=AJ BK372.out 1; clear A5)|(go_at_call 39; (with_reducible refine (Ah.calls k _ _ l1 (l0_1.length:Int) t374 _ ?side1 ?side2 A7.out).mono ?_); (case side1=>repeat (first|exact (Kd.C_below HR1.out HB.out)|(with_reducible refine Kd.C_alloc ?_ _)|(with_reducible refine Kd.C_drewN ?_ _)|(with_reducible refine Kd.C_drew ?_))); (case side2=>exact HC1.out); rintro e w' ⟨rfl,⟨nd,rfl⟩⟩; (try first|exact ⟨rfl,_,World.drewN_drewN _ _ _⟩|exact ⟨rfl,_,Eq.trans (World.drewN_drewN _ _ _) (congrArg (World.drewN _) (Nat.add_assoc _ _ _))⟩); clear A7)))
   go_meet
   case rel=>exact ⟨_,(!t374),zF,H',⟨by first|omega|exact Nat.le_refl _⟩,⟨by (with_reducible repeat (first|refine AF ?_ _|refine AH ?_|refine AG ?_ _)); exact BK372.out⟩,⟨by repeat (first|(with_reducible first|exact HB.out|apply AE|apply AC|apply AD|refine AI ?_ GE372.out)|exact HB.out)⟩⟩
  ·replace c6:=Bool.eq_false_iff.mpr c6
   subst c6
   have H1:(AS.j0 k l1 true A8 l0_1)=some (r1,r2):=by rw [if_neg (show ¬(false=true) by decide)] at H; exact H
   clear H
   have H:=H1
   clear H1
   have H':=Aside0.mk H
   clear H
   have hcz11_0:w4.cell? ⟨gb372,0,none⟩=some (.int .i64 A8):=(AK BK372.out 0).trans rfl
   have hcz11_1:w4.cell? ⟨gb372,1,none⟩=some (.slice A0_1 l0_1.length c0_1):=(AK BK372.out 1).trans rfl
   have hfz11_0:=AJ BK372.out 0
   have hfz11_1:=AJ BK372.out 1
   go_wp2_with (first|(go_at_call 36; (with_reducible refine (AR.calls k A8 _ _ l0_1 false _ ?side1 ?side2 A5.out).mono ?_); (case side1=>repeat (first|exact (Kd.C_below HR0_1.out HB.out)|(with_reducible refine Kd.C_alloc ?_ _)|(with_reducible refine Kd.C_drewN ?_ _)|(with_reducible refine Kd.C_drew ?_))); (case side2=>exact HC0_1.out); rintro e w12 ⟨rfl,hb⟩; have n0_:=Aside0.mk (AP (g:=gb372) (o:= .cells #[.int .i64 A8,.slice A0_1 l0_1.length c0_1] 24 (0,0)) zN hb); have n1_:=Aside0.mk (AN zK hb); clear BK372; clear HB; have BK372:=n0_; have HB:=n1_; clear n0_ n1_; (try clear hb); (try clear hb2); (try clear hk); (try clear hi)))
   repeat (go_quiet (first|(go_at_call 36; (with_reducible refine (AR.calls k A8 _ _ l0_1 false _ ?side1 ?side2 A5.out).mono ?_); (case side1=>repeat (first|exact (Kd.C_below HR0_1.out HB.out)|(with_reducible refine Kd.C_alloc ?_ _)|(with_reducible refine Kd.C_drewN ?_ _)|(with_reducible refine Kd.C_drew ?_))); (case side2=>exact HC0_1.out); rintro e w12 ⟨rfl,hb⟩; have n0_:=Aside0.mk (AP (g:=gb372) (o:= .cells #[.int .i64 A8,.slice A0_1 l0_1.length c0_1] 24 (0,0)) zN hb); have n1_:=Aside0.mk (AN zK hb); clear BK372; clear HB; have BK372:=n0_; have HB:=n1_; clear n0_ n1_; (try clear hb); (try clear hb2); (try clear hk); (try clear hi); clear A5)); try go_wp2_with (first|(go_at_call 36; (with_reducible refine (AR.calls k A8 _ _ l0_1 false _ ?side1 ?side2 A5.out).mono ?_); (case side1=>repeat (first|exact (Kd.C_below HR0_1.out HB.out)|(with_reducible refine Kd.C_alloc ?_ _)|(with_reducible refine Kd.C_drewN ?_ _)|(with_reducible refine Kd.C_drew ?_))); (case side2=>exact HC0_1.out); rintro e w12 ⟨rfl,hb⟩; have n0_:=Aside0.mk (AP (g:=gb372) (o:= .cells #[.int .i64 A8,.slice A0_1 l0_1.length c0_1] 24 (0,0)) zN hb); have n1_:=Aside0.mk (AN zK hb); clear BK372; clear HB; have BK372:=n0_; have HB:=n1_; clear n0_ n1_; (try clear hb); (try clear hb2); (try clear hk); (try clear hi); clear A5)))
   go_meet
   case rel=>exact ⟨_,(true),zF,H',⟨by first|omega|exact Nat.le_refl _⟩,⟨by (with_reducible repeat (first|refine AF ?_ _|refine AH ?_|refine AG ?_ _)); exact BK372.out⟩,⟨by repeat (first|(with_reducible first|exact HB.out|apply AE|apply AC|apply AD|refine AI ?_ GE372.out)|exact HB.out)⟩⟩
 case rest =>
  clear HC3
  try clear c1
  try clear c2
  try clear p2
  try clear c6
  try clear hcz10_0
  try clear hcz10_1
  try clear hcz11_0
  try clear hcz11_1
  try clear hcz8_0
  try clear hcz8_1
  try clear hfz10_0
  try clear hfz10_1
  try clear hfz11_0
  try clear hfz11_1
  try clear hfz8_0
  try clear hfz8_1
  obtain ⟨kq,x29_2,rfl,HA,HJ2,BK372,HB⟩:=hcut
  cases kq with
  |zero=>exact absurd HA.out (by simp [AS.j0])
  | succ kj2=>
   have H:=HA.out
   clear HA
   simp only [AS.j0] at H
   by_cases c13:x29_2=true
   ·subst c13
    have H1:(some (([]:List (S54)),1))=some (r1,r2):=by rw [if_pos rfl] at H; exact H
    clear H
    have H:=H1
    clear H1
    simp only [Option.some.injEq,Prod.mk.injEq] at H
    obtain ⟨rfl,rfl⟩:=H
    go_wp2
    repeat (go_quiet (fail); try go_wp2)
    go_ret2
    exact ⟨_,by first|rfl|(simp [AU,AT]<;>rfl)|(simp [*,AU,AT]<;>rfl),by first|exact Kd.R_nil _ _ _ _ _|exact Kd.N_nil _ _ _ _ _|exact Kd.V_nil _ _ _ _ _|exact Kd.Q_nil _ _ _ _ _|exact Kd.S_nil _ _ _ _ _,by repeat (first|(with_reducible first|exact HB.out|apply AE|apply AC|apply AD|refine AI ?_ GE372.out)|exact HB.out)⟩
   ·replace c13 :=Bool.eq_false_iff.mpr c13
    subst c13
    have H1:(if 0≤(l1.length:Int) then (if ((l1.length:Int):Int).toNat≤17592186044416 then (if ((l1.length:Int):Int).toNat≤281474976710656 then (if 0≤A8 then (if (A8:Int).toNat≤35184372088832 then (AS.l0 kj2 l1 (List.replicate ((l1.length:Int):Int).toNat z54) (List.replicate ((l1.length:Int):Int).toNat false) (List.replicate (A8:Int).toNat 0) 0 A8 l0_1) else (none)) else (none)) else (none)) else (none)) else (none))=some (r1,r2):=by rw [if_neg (show ¬(false=true) by decide)] at H; exact H
    clear H
    have H:=H1
    clear H1
    by_cases c14:0≤(l1.length:Int)
    ·rw [if_pos c14] at H
     have c14b0:=eq_true c14
     have c14b1:decide (0≤(l1.length:Int))=true:=decide_eq_true c14
     clear c14
     by_cases c15:((l1.length:Int):Int).toNat≤17592186044416
     ·rw [if_pos c15] at H
      have c15b0:=eq_true c15
      have c15b1:decide (((l1.length:Int):Int).toNat≤17592186044416)=true:=decide_eq_true c15
      clear c15
      obtain ⟨y375,hy375⟩:∃y_:List (S54),y_=(List.replicate ((l1.length:Int):Int).toNat z54):=⟨_,rfl⟩
      replace H:(if ((l1.length:Int):Int).toNat≤281474976710656 then (if 0≤A8 then (if (A8:Int).toNat≤35184372088832 then (AS.l0 kj2 l1 y375 (List.replicate ((l1.length:Int):Int).toNat false) (List.replicate (A8:Int).toNat 0) 0 A8 l0_1) else (none)) else (none)) else (none))=some (r1,r2):=by first|(rw [hy375]; with_reducible exact H)|(have H2_:=(Option.bind_some _ _).symm.trans H; rw [hy375]; with_reducible exact H2_)|(have H2_:=(Option.bind_some _ _).symm.trans H; with_reducible exact H2_)|with_reducible exact H|(rw [hy375]; exact H)|exact H
      have Ny375:=Aside0.mk hy375
      clear hy375
      by_cases c16:((l1.length:Int):Int).toNat≤281474976710656
      ·rw [if_pos c16] at H
       have c16b0:=eq_true c16
       have c16b1:decide (((l1.length:Int):Int).toNat≤281474976710656)=true:=decide_eq_true c16
       clear c16
       obtain ⟨y378,hy378⟩:∃y_:List Bool,y_=(List.replicate ((l1.length:Int):Int).toNat false):=⟨_,rfl⟩
       replace H:(if 0≤A8 then (if (A8:Int).toNat≤35184372088832 then (AS.l0 kj2 l1 y375 y378 (List.replicate (A8:Int).toNat 0) 0 A8 l0_1) else (none)) else (none))=some (r1,r2):=by first|(rw [hy378]; with_reducible exact H)|(have H2_:=(Option.bind_some _ _).symm.trans H; rw [hy378]; with_reducible exact H2_)|(have H2_:=(Option.bind_some _ _).symm.trans H; with_reducible exact H2_)|with_reducible exact H|(rw [hy378]; exact H)|exact H
       have Ny378:=Aside0.mk hy378
       clear hy378
       by_cases c17:0≤A8
       ·rw [if_pos c17] at H
        have c17b0:=eq_true c17
        have c17b1:decide (0≤A8)=true:=decide_eq_true c17
        clear c17
        by_cases c18:(A8:Int).toNat≤35184372088832
        ·rw [if_pos c18] at H
         have c18b0:=eq_true c18
         have c18b1:decide ((A8:Int).toNat≤35184372088832)=true:=decide_eq_true c18
         clear c18
         obtain ⟨y381,hy381⟩:∃y_:List Int,y_=(List.replicate (A8:Int).toNat 0):=⟨_,rfl⟩
         replace H:(AS.l0 kj2 l1 y375 y378 y381 0 A8 l0_1)=some (r1,r2):=by first|(rw [hy381]; with_reducible exact H)|(have H2_:=(Option.bind_some _ _).symm.trans H; rw [hy381]; with_reducible exact H2_)|(have H2_:=(Option.bind_some _ _).symm.trans H; with_reducible exact H2_)|with_reducible exact H|(rw [hy381]; exact H)|exact H
         have Ny381:=Aside0.mk hy381
         clear hy381
         have H':=Aside0.mk H
         clear H
         go_wp2_with (first|((with_reducible refine Ap (N:=32) rfl ?_); (try (refine BC (by rfl) ?_; dsimp only)); refine Kd.R_make k54 _ 54 rfl (N:=32) rfl 25 _ _ rfl (l1.length:Int) rfl rfl Try.underlying25 (.agg #[(.int .i64 0),(.int .i64 0)]) 16 info54 rfl zZ zG z54 (ok:=fun _=>True) (okp:=fun _=>True) (Cb _ _ _ z54) (fun _ hk=>hk) trivial (of_decide_eq_true zA) (Nat.le_trans (Nat.mul_le_mul_right _ (of_decide_eq_true zA:(l1.length:Int).toNat≤17592186044416)) zG) (Below.refl _ _) (Nat.le_refl _) ?_; intro v376 w19 ho20 hb hg_ hnew_; clear hg_ hnew_; (first|rw [←Ny375.out] at ho20|(simp only [Int.reduceToNat] at ho20; rw [←Ny375.out] at ho20)); have n0_:=Aside0.mk (Kd.R_lower ho20 (AQ zK)); have n1_:=Aside0.mk (AP (g:=gb372) (o:= .cells #[.int .i64 A8,.slice A0_1 l0_1.length c0_1] 24 (0,0)) zN hb); have n2_:=Aside0.mk (AN zK hb); clear BK372; clear HB; have HO377:=n0_; have BK372:=n1_; have HB:=n2_; clear n0_ n1_ n2_; clear hb ho20)|((with_reducible refine Ap (N:=35) rfl ?_); (try (refine BC (by rfl) ?_; dsimp only)); refine Kd.R_make Kd.bool _ 4 rfl (N:=35) rfl 67 _ _ rfl (l1.length:Int) rfl rfl Try.underlying67 (.bool false) 1 info4 rfl zZ zG false (ok:=fun _=>True) (okp:=fun _=>True) rfl (fun _ hk=>hk) trivial (of_decide_eq_true zA) (Nat.le_trans (Nat.mul_le_mul_right _ (of_decide_eq_true zA:(l1.length:Int).toNat≤281474976710656)) zG) (Below.refl _ _) (Nat.le_refl _) ?_; intro v379 w21 ho22 hb hg_ hnew_; clear hg_ hnew_; (first|rw [←Ny378.out] at ho22|(simp only [Int.reduceToNat] at ho22; rw [←Ny378.out] at ho22)); have n0_:=Aside0.mk (Kd.R_below zC4 hb); have n1_:=Aside0.mk (Kd.R_lower ho22 (AQ zK)); have n2_:=Aside0.mk (AP (g:=gb372) (o:= .cells #[.int .i64 A8,.slice A0_1 l0_1.length c0_1] 24 (0,0)) zN hb); have n3_:=Aside0.mk (AN zK hb); clear HO377; clear BK372; clear HB; have HO377:=n0_; have HO380:=n1_; have BK372:=n2_; have HB:=n3_; clear n0_ n1_ n2_ n3_; clear hb ho22; have hcz23_0:w21.cell? ⟨gb372,0,none⟩=some (.int .i64 A8):=(AK BK372.out 0).trans rfl; have hcz23_1:w21.cell? ⟨gb372,1,none⟩=some (.slice A0_1 l0_1.length c0_1):=(AK BK372.out 1).trans rfl; have hfz23_0:=AJ BK372.out 0; have hfz23_1:=AJ BK372.out 1)|((with_reducible refine Ap (N:=38) rfl ?_); (try (refine BC (by rfl) ?_; dsimp only)); refine Kd.R_make (Kd.int .i64) _ 3 rfl (N:=38) rfl 26 _ _ rfl A8 rfl rfl Try.underlying26 (.int .i64 0) 8 info3 rfl zZ zG 0 (ok:=fun _=>True) (okp:=fun _=>True) rfl (fun _ hk=>hk) trivial (of_decide_eq_true zA) (Nat.le_trans (Nat.mul_le_mul_right _ (of_decide_eq_true zA:A8.toNat≤35184372088832)) zG) (Below.refl _ _) (Nat.le_refl _) ?_; intro v382 w24 ho25 hb hg_ hnew_; clear hg_ hnew_; (first|rw [←Ny381.out] at ho25|(simp only [Int.reduceToNat] at ho25; rw [←Ny381.out] at ho25)); have n0_:=Aside0.mk (Kd.R_below zC4 hb); have n1_:=Aside0.mk (Kd.R_below (by (with_reducible repeat (first|apply Kd.R_alloc|apply Kd.R_drewN|apply Kd.R_drew)); exact HO380.out) hb); have n2_:=Aside0.mk (Kd.R_lower ho25 (AQ zK)); have n3_:=Aside0.mk (AP (g:=gb372) (o:= .cells #[.int .i64 A8,.slice A0_1 l0_1.length c0_1] 24 (0,0)) zN hb); have n4_:=Aside0.mk (AN zK hb); clear HO377; clear HO380; clear BK372; clear HB; have HO377:=n0_; have HO380:=n1_; have HO383:=n2_; have BK372:=n3_; have HB:=n4_; clear n0_ n1_ n2_ n3_ n4_; clear hb ho25))
         repeat (go_quiet (first|((with_reducible refine Ap (N:=32) rfl ?_); (try (refine BC (by rfl) ?_; dsimp only)); refine Kd.R_make k54 _ 54 rfl (N:=32) rfl 25 _ _ rfl (l1.length:Int) rfl rfl Try.underlying25 (.agg #[(.int .i64 0),(.int .i64 0)]) 16 info54 rfl zZ zG z54 (ok:=fun _=>True) (okp:=fun _=>True) (Cb _ _ _ z54) (fun _ hk=>hk) trivial (of_decide_eq_true zA) (Nat.le_trans (Nat.mul_le_mul_right _ (of_decide_eq_true zA:(l1.length:Int).toNat≤17592186044416)) zG) (Below.refl _ _) (Nat.le_refl _) ?_; intro v376 w19 ho20 hb hg_ hnew_; clear hg_ hnew_; (first|rw [←Ny375.out] at ho20|(simp only [Int.reduceToNat] at ho20; rw [←Ny375.out] at ho20)); have n0_:=Aside0.mk (Kd.R_lower ho20 (AQ zK)); have n1_:=Aside0.mk (AP (g:=gb372) (o:= .cells #[.int .i64 A8,.slice A0_1 l0_1.length c0_1] 24 (0,0)) zN hb); have n2_:=Aside0.mk (AN zK hb); clear BK372; clear HB; have HO377:=n0_; have BK372:=n1_; have HB:=n2_; clear n0_ n1_ n2_; clear hb ho20)|((with_reducible refine Ap (N:=35) rfl ?_); (try (refine BC (by rfl) ?_; dsimp only)); refine Kd.R_make Kd.bool _ 4 rfl (N:=35) rfl 67 _ _ rfl (l1.length:Int) rfl rfl Try.underlying67 (.bool false) 1 info4 rfl zZ zG false (ok:=fun _=>True) (okp:=fun _=>True) rfl (fun _ hk=>hk) trivial (of_decide_eq_true zA) (Nat.le_trans (Nat.mul_le_mul_right _ (of_decide_eq_true zA:(l1.length:Int).toNat≤281474976710656)) zG) (Below.refl _ _) (Nat.le_refl _) ?_; intro v379 w21 ho22 hb hg_ hnew_; clear hg_ hnew_; (first|rw [←Ny378.out] at ho22|(simp only [Int.reduceToNat] at ho22; rw [←Ny378.out] at ho22)); have n0_:=Aside0.mk (Kd.R_below zC4 hb); have n1_:=Aside0.mk (Kd.R_lower ho22 (AQ zK)); have n2_:=Aside0.mk (AP (g:=gb372) (o:= .cells #[.int .i64 A8,.slice A0_1 l0_1.length c0_1] 24 (0,0)) zN hb); have n3_:=Aside0.mk (AN zK hb); clear HO377; clear BK372; clear HB; have HO377:=n0_; have HO380:=n1_; have BK372:=n2_; have HB:=n3_; clear n0_ n1_ n2_ n3_; clear hb ho22; have hcz23_0:w21.cell? ⟨gb372,0,none⟩=some (.int .i64 A8):=(AK BK372.out 0).trans rfl; have hcz23_1:w21.cell? ⟨gb372,1,none⟩=some (.slice A0_1 l0_1.length c0_1):=(AK BK372.out 1).trans rfl; have hfz23_0:=AJ BK372.out 0; have hfz23_1:=AJ BK372.out 1)|((with_reducible refine Ap (N:=38) rfl ?_); (try (refine BC (by rfl) ?_; dsimp only)); refine Kd.R_make (Kd.int .i64) _ 3 rfl (N:=38) rfl 26 _ _ rfl A8 rfl rfl Try.underlying26 (.int .i64 0) 8 info3 rfl zZ zG 0 (ok:=fun _=>True) (okp:=fun _=>True) rfl (fun _ hk=>hk) trivial (of_decide_eq_true zA) (Nat.le_trans (Nat.mul_le_mul_right _ (of_decide_eq_true zA:A8.toNat≤35184372088832)) zG) (Below.refl _ _) (Nat.le_refl _) ?_; intro v382 w24 ho25 hb hg_ hnew_; clear hg_ hnew_; (first|rw [←Ny381.out] at ho25|(simp only [Int.reduceToNat] at ho25; rw [←Ny381.out] at ho25)); have n0_:=Aside0.mk (Kd.R_below zC4 hb); have n1_:=Aside0.mk (Kd.R_below (by (with_reducible repeat (first|apply Kd.R_alloc|apply Kd.R_drewN|apply Kd.R_drew)); exact HO380.out) hb); have n2_:=Aside0.mk (Kd.R_lower ho25 (AQ zK)); have n3_:=Aside0.mk (AP (g:=gb372) (o:= .cells #[.int .i64 A8,.slice A0_1 l0_1.length c0_1] 24 (0,0)) zN hb); have n4_:=Aside0.mk (AN zK hb); clear HO377; clear HO380; clear BK372; clear HB; have HO377:=n0_; have HO380:=n1_; have HO383:=n2_; have BK372:=n3_; have HB:=n4_; clear n0_ n1_ n2_ n3_ n4_; clear hb ho25)); try go_wp2_with (first|((with_reducible refine Ap (N:=32) rfl ?_); (try (refine BC (by rfl) ?_; dsimp only)); refine Kd.R_make k54 _ 54 rfl (N:=32) rfl 25 _ _ rfl (l1.length:Int) rfl rfl Try.underlying25 (.agg #[(.int .i64 0),(.int .i64 0)]) 16 info54 rfl zZ zG z54 (ok:=fun _=>True) (okp:=fun _=>True) (Cb _ _ _ z54) (fun _ hk=>hk) trivial (of_decide_eq_true zA) (Nat.le_trans (Nat.mul_le_mul_right _ (of_decide_eq_true zA:(l1.length:Int).toNat≤17592186044416)) zG) (Below.refl _ _) (Nat.le_refl _) ?_; intro v376 w19 ho20 hb hg_ hnew_; clear hg_ hnew_; (first|rw [←Ny375.out] at ho20|(simp only [Int.reduceToNat] at ho20; rw [←Ny375.out] at ho20)); have n0_:=Aside0.mk (Kd.R_lower ho20 (AQ zK)); have n1_:=Aside0.mk (AP (g:=gb372) (o:= .cells #[.int .i64 A8,.slice A0_1 l0_1.length c0_1] 24 (0,0)) zN hb); have n2_:=Aside0.mk (AN zK hb); clear BK372; clear HB; have HO377:=n0_; have BK372:=n1_; have HB:=n2_; clear n0_ n1_ n2_; clear hb ho20)|((with_reducible refine Ap (N:=35) rfl ?_); (try (refine BC (by rfl) ?_; dsimp only)); refine Kd.R_make Kd.bool _ 4 rfl (N:=35) rfl 67 _ _ rfl (l1.length:Int) rfl rfl Try.underlying67 (.bool false) 1 info4 rfl zZ zG false (ok:=fun _=>True) (okp:=fun _=>True) rfl (fun _ hk=>hk) trivial (of_decide_eq_true zA) (Nat.le_trans (Nat.mul_le_mul_right _ (of_decide_eq_true zA:(l1.length:Int).toNat≤281474976710656)) zG) (Below.refl _ _) (Nat.le_refl _) ?_; intro v379 w21 ho22 hb hg_ hnew_; clear hg_ hnew_; (first|rw [←Ny378.out] at ho22|(simp only [Int.reduceToNat] at ho22; rw [←Ny378.out] at ho22)); have n0_:=Aside0.mk (Kd.R_below zC4 hb); have n1_:=Aside0.mk (Kd.R_lower ho22 (AQ zK)); have n2_:=Aside0.mk (AP (g:=gb372) (o:= .cells #[.int .i64 A8,.slice A0_1 l0_1.length c0_1] 24 (0,0)) zN hb); have n3_:=Aside0.mk (AN zK hb); clear HO377; clear BK372; clear HB; have HO377:=n0_; have HO380:=n1_; have BK372:=n2_; have HB:=n3_; clear n0_ n1_ n2_ n3_; clear hb ho22; have hcz23_0:w21.cell? ⟨gb372,0,none⟩=some (.int .i64 A8):=(AK BK372.out 0).trans rfl; have hcz23_1:w21.cell? ⟨gb372,1,none⟩=some (.slice A0_1 l0_1.length c0_1):=(AK BK372.out 1).trans rfl; have hfz23_0:=AJ BK372.out 0; have hfz23_1:=AJ BK372.out 1)|((with_reducible refine Ap (N:=38) rfl ?_); (try (refine BC (by rfl) ?_; dsimp only)); refine Kd.R_make (Kd.int .i64) _ 3 rfl (N:=38) rfl 26 _ _ rfl A8 rfl rfl Try.underlying26 (.int .i64 0) 8 info3 rfl zZ zG 0 (ok:=fun _=>True) (okp:=fun _=>True) rfl (fun _ hk=>hk) trivial (of_decide_eq_true zA) (Nat.le_trans (Nat.mul_le_mul_right _ (of_decide_eq_true zA:A8.toNat≤35184372088832)) zG) (Below.refl _ _) (Nat.le_refl _) ?_; intro v382 w24 ho25 hb hg_ hnew_; clear hg_ hnew_; (first|rw [←Ny381.out] at ho25|(simp only [Int.reduceToNat] at ho25; rw [←Ny381.out] at ho25)); have n0_:=Aside0.mk (Kd.R_below zC4 hb); have n1_:=Aside0.mk (Kd.R_below (by (with_reducible repeat (first|apply Kd.R_alloc|apply Kd.R_drewN|apply Kd.R_drew)); exact HO380.out) hb); have n2_:=Aside0.mk (Kd.R_lower ho25 (AQ zK)); have n3_:=Aside0.mk (AP (g:=gb372) (o:= .cells #[.int .i64 A8,.slice A0_1 l0_1.length c0_1] 24 (0,0)) zN hb); have n4_:=Aside0.mk (AN zK hb); clear HO377; clear HO380; clear BK372; clear HB; have HO377:=n0_; have HO380:=n1_; have HO383:=n2_; have BK372:=n3_; have HB:=n4_; clear n0_ n1_ n2_ n3_ n4_; clear hb ho25)))
         go_loopg [9] kj2 (fun kq v9 w'=>∃(x6_2:List (S54)) (x7_2:List Bool) (x8_2:List Int) (x9_2:Int),v9= .int .i64 x9_2∧Aside0 (AS.l0 kq l1 x6_2 x7_2 x8_2 x9_2 A8 l0_1=some (r1,r2))∧Aside0 (kq≤kj2)∧Aside0 (Kd.R k54 54 w' w.heap.size (fun _=>True) v376 x6_2)∧Aside0 (Kd.R Kd.bool 4 w' w.heap.size (fun _=>True) v379 x7_2)∧Aside0 (Kd.R (Kd.int .i64) 3 w' w.heap.size (fun _=>True) v382 x8_2)∧Aside0 (w'.heap[gb372]? =some (.cells #[.int .i64 A8,(.slice A0_1 l0_1.length c0_1)] 24 (0,0)))∧Aside0 (Below w.heap.size w w'))
         case atStart=>exact ⟨(y375),(y378),(y381),(0),zF,H',⟨Nat.le_refl _⟩,⟨by (with_reducible repeat (first|apply Kd.R_alloc|apply Kd.R_drewN|apply Kd.R_drew)); exact HO377.out⟩,⟨by (with_reducible repeat (first|apply Kd.R_alloc|apply Kd.R_drewN|apply Kd.R_drew)); exact HO380.out⟩,⟨by (with_reducible repeat (first|apply Kd.R_alloc|apply Kd.R_drewN|apply Kd.R_drew)); exact HO383.out⟩,⟨by (with_reducible repeat (first|refine AF ?_ _|refine AH ?_|refine AG ?_ _)); exact BK372.out⟩,⟨by repeat (first|(with_reducible first|exact HB.out|apply AE|apply AC|apply AD|refine AI ?_ GE372.out)|exact HB.out)⟩⟩
         case round=>
          clear H'
          try clear c1
          try clear c2
          try clear p2
          try clear c6
          try clear c13
          try clear c14
          try clear c14b0
          try clear c14b1
          try clear c15
          try clear c15b0
          try clear c15b1
          try clear c16
          try clear c16b0
          try clear c16b1
          try clear c17
          try clear c17b0
          try clear c17b1
          try clear c18
          try clear c18b0
          try clear c18b1
          try clear c21
          try clear hcz10_0
          try clear hcz10_1
          try clear hcz11_0
          try clear hcz11_1
          try clear hcz23_0
          try clear hcz23_1
          try clear hcz8_0
          try clear hcz8_1
          try clear hfz10_0
          try clear hfz10_1
          try clear hfz11_0
          try clear hfz11_1
          try clear hfz23_0
          try clear hfz23_1
          try clear hfz8_0
          try clear hfz8_1
          try clear p2
          obtain ⟨x6_2,x7_2,x8_2,x9_2,rfl,HA,HK2,HO_6,HO_7,HO_8,BK372,HB⟩:=hrel
          cases gk with
          |zero=>exact absurd HA.out (by simp [AS.l0])
          | succ k2 =>
           have H:=HA.out
           clear HA
           simp only [AS.l0] at H
           by_cases c26:x9_2<(l1.length:Int)
           ·rw [if_pos c26] at H
            have c26b0:decide (x9_2<(l1.length:Int))=true:=decide_eq_true c26
            clear c26
            have H':=Aside0.mk H
            clear H
            go_wp2
            repeat (go_quiet (fail); try go_wp2)
            go_loopg [10,11] k2 (fun kq v10 v11 w'=>∃(x10_3:Int) (x11_3:Int),v10= .int .i64 x10_3∧v11= .int .i64 x11_3∧Aside0 (AS.l1 kq l1 x6_2 x7_2 x8_2 x9_2 x10_3 x11_3 A8 l0_1=some (r1,r2))∧Aside0 (kq≤k2)∧Aside0 (Kd.R k54 54 w' w.heap.size (fun _=>True) v376 x6_2)∧Aside0 (Kd.R Kd.bool 4 w' w.heap.size (fun _=>True) v379 x7_2)∧Aside0 (Kd.R (Kd.int .i64) 3 w' w.heap.size (fun _=>True) v382 x8_2)∧Aside0 (w'.heap[gb372]? =some (.cells #[.int .i64 A8,(.slice A0_1 l0_1.length c0_1)] 24 (0,0)))∧Aside0 (Below w.heap.size w w'))
            case atStart=>exact ⟨((-1)),(0),zF,zF,H',⟨Nat.le_refl _⟩,⟨by (with_reducible repeat (first|apply Kd.R_alloc|apply Kd.R_drewN|apply Kd.R_drew)); exact HO_6.out⟩,⟨by (with_reducible repeat (first|apply Kd.R_alloc|apply Kd.R_drewN|apply Kd.R_drew)); exact HO_7.out⟩,⟨by (with_reducible repeat (first|apply Kd.R_alloc|apply Kd.R_drewN|apply Kd.R_drew)); exact HO_8.out⟩,⟨by (with_reducible repeat (first|refine AF ?_ _|refine AH ?_|refine AG ?_ _)); exact BK372.out⟩,⟨by repeat (first|(with_reducible first|exact HB.out|apply AE|apply AC|apply AD|refine AI ?_ GE372.out)|exact HB.out)⟩⟩
            case round=>
             clear H'
             try clear c1
             try clear c2
             try clear p2
             try clear c6
             try clear c13
             try clear c14
             try clear c14b0
             try clear c14b1
             try clear c15
             try clear c15b0
             try clear c15b1
             try clear c16
             try clear c16b0
             try clear c16b1
             try clear c17
             try clear c17b0
             try clear c17b1
             try clear c18
             try clear c18b0
             try clear c18b1
             try clear c21
             try clear c26
             try clear c26b0
             try clear hcz10_0
             try clear hcz10_1
             try clear hcz11_0
             try clear hcz11_1
             try clear hcz23_0
             try clear hcz23_1
             try clear hcz8_0
             try clear hcz8_1
             try clear hfz10_0
             try clear hfz10_1
             try clear hfz11_0
             try clear hfz11_1
             try clear hfz23_0
             try clear hfz23_1
             try clear hfz8_0
             try clear hfz8_1
             try clear p2
             obtain ⟨x10_3,x11_3,rfl,rfl,HA,HK3,HO_6,HO_7,HO_8,BK372,HB⟩:=hrel
             cases gk with
             |zero=>exact absurd HA.out (by simp [AS.l1])
             | succ k3 =>
              have H:=HA.out
              clear HA
              simp only [AS.l1] at H
              have HC27:=Aside0.mk H
              clear H
              go_upto_region 11 with (fail)
              repeat (go_quiet (fail); go_upto_region 11 with (fail))
              go_cut [52] (fun v52 wc=>∃(kq:Nat) (x52_26:Bool),v52= .bool x52_26∧Aside0 (AS.j3 kq l1 x6_2 x7_2 x8_2 x9_2 x10_3 x11_3 x52_26 A8 l0_1=some (r1,r2))∧Aside0 (kq≤k3)∧Aside0 (Kd.R k54 54 wc w.heap.size (fun _=>True) v376 x6_2)∧Aside0 (Kd.R Kd.bool 4 wc w.heap.size (fun _=>True) v379 x7_2)∧Aside0 (Kd.R (Kd.int .i64) 3 wc w.heap.size (fun _=>True) v382 x8_2)∧Aside0 (wc.heap[gb372]? =some (.cells #[.int .i64 A8,(.slice A0_1 l0_1.length c0_1)] 24 (0,0)))∧Aside0 (Below w.heap.size w wc))
              case first=>
               have H:=HC27.out
               clear HC27
               by_cases c28:x11_3<(l1.length:Int)
               ·rw [if_pos c28] at H
                have c28b0:decide (x11_3<(l1.length:Int))=true:=decide_eq_true c28
                clear c28
                (first|rw [c28b0]|(simp only [AZ,Ab]; rw [c28b0])|skip)
                have H':=Aside0.mk H
                clear H
                go_wp2
                repeat (go_quiet (fail); try go_wp2)
                go_meet
                case rel=>exact ⟨_,(decide (x10_3<0)),zF,H',⟨by have:=HJ2.out; have:=HK2.out; have:=HK3.out; first|omega|exact Nat.le_refl _⟩,⟨by (with_reducible repeat (first|apply Kd.R_alloc|apply Kd.R_drewN|apply Kd.R_drew)); exact HO_6.out⟩,⟨by (with_reducible repeat (first|apply Kd.R_alloc|apply Kd.R_drewN|apply Kd.R_drew)); exact HO_7.out⟩,⟨by (with_reducible repeat (first|apply Kd.R_alloc|apply Kd.R_drewN|apply Kd.R_drew)); exact HO_8.out⟩,⟨by (with_reducible repeat (first|refine AF ?_ _|refine AH ?_|refine AG ?_ _)); exact BK372.out⟩,⟨by repeat (first|(with_reducible first|exact HB.out|apply AE|apply AC|apply AD|refine AI ?_ GE372.out)|exact HB.out)⟩⟩
               ·rw [if_neg c28] at H
                have c28b0:decide (x11_3<(l1.length:Int))=false:=decide_eq_false c28
                clear c28
                (first|rw [c28b0]|(simp only [AZ,Ab]; rw [c28b0])|skip)
                have H':=Aside0.mk H
                clear H
                go_wp2
                repeat (go_quiet (fail); try go_wp2)
                go_meet
                case rel=>exact ⟨_,(false),zF,H',⟨by have:=HJ2.out; have:=HK2.out; have:=HK3.out; first|omega|exact Nat.le_refl _⟩,⟨by (with_reducible repeat (first|apply Kd.R_alloc|apply Kd.R_drewN|apply Kd.R_drew)); exact HO_6.out⟩,⟨by (with_reducible repeat (first|apply Kd.R_alloc|apply Kd.R_drewN|apply Kd.R_drew)); exact HO_7.out⟩,⟨by (with_reducible repeat (first|apply Kd.R_alloc|apply Kd.R_drewN|apply Kd.R_drew)); exact HO_8.out⟩,⟨by (with_reducible repeat (first|refine AF ?_ _|refine AH ?_|refine AG ?_ _)); exact BK372.out⟩,⟨by repeat (first|(with_reducible first|exact HB.out|apply AE|apply AC|apply AD|refine AI ?_ GE372.out)|exact HB.out)⟩⟩
              case rest =>
               clear HC27
               try clear c1
               try clear c2
               try clear p2
               try clear c6
               try clear c13
               try clear c14
               try clear c14b0
               try clear c14b1
               try clear c15
               try clear c15b0
               try clear c15b1
               try clear c16
               try clear c16b0
               try clear c16b1
               try clear c17
               try clear c17b0
               try clear c17b1
               try clear c18
               try clear c18b0
               try clear c18b1
               try clear c21
               try clear c26
               try clear c26b0
               try clear c28
               try clear c28b0
               try clear hcz10_0
               try clear hcz10_1
               try clear hcz11_0
               try clear hcz11_1
               try clear hcz23_0
               try clear hcz23_1
               try clear hcz8_0
               try clear hcz8_1
               try clear hfz10_0
               try clear hfz10_1
               try clear hfz11_0
               try clear hfz11_1
               try clear hfz23_0
               try clear hfz23_1
               try clear hfz8_0
               try clear hfz8_1
               try clear p2
               obtain ⟨kq,x52_26,rfl,HA,HJ26,HO_6,HO_7,HO_8,BK372,HB⟩:=hcut
               cases kq with
               |zero=>exact absurd HA.out (by simp [AS.j3])
               | succ kj26 =>
                have H:=HA.out
                clear HA
                simp only [AS.j3] at H
                by_cases c29:x52_26=true
                ·subst c29
                 have H1:(if 0≤x11_3 then (if x11_3<(l1.length:Int) then (if 0≤(rd l1 x11_3) then (if (rd l1 x11_3)<(x7_2.length:Int) then (AS.l2 kj26 l1 x6_2 x7_2 x8_2 x9_2 x10_3 x11_3 (!(rdOf false x7_2 (rd l1 x11_3))) 0 A8 l0_1) else (none)) else (none)) else (none)) else (none))=some (r1,r2):=by rw [if_pos rfl] at H; exact H
                 clear H
                 have H:=H1
                 clear H1
                 by_cases c30:0≤x11_3
                 ·rw [if_pos c30] at H
                  have c30b0:decide (0≤x11_3)=true:=decide_eq_true c30
                  clear c30
                  by_cases c31:x11_3<(l1.length:Int)
                  ·rw [if_pos c31] at H
                   have c31b0:decide (x11_3<(l1.length:Int))=true:=decide_eq_true c31
                   clear c31
                   by_cases c32:0≤(rd l1 x11_3)
                   ·rw [if_pos c32] at H
                    have c32b0:decide (0≤(rd l1 x11_3))=true:=decide_eq_true c32
                    clear c32
                    by_cases c33:(rd l1 x11_3)<(x7_2.length:Int)
                    ·rw [if_pos c33] at H
                     have c33b0:decide ((rd l1 x11_3)<(x7_2.length:Int))=true:=decide_eq_true c33
                     clear c33
                     have H':=Aside0.mk H
                     clear H
                     have p384:0≤(x11_3:Int):=of_decide_eq_true zA
                     have q384:x11_3<(l1.length:Int):=of_decide_eq_true zA
                     obtain ⟨ad384,e384,hx384_0⟩:=Kd.at_int HR1.out x11_3 p384 q384
                     cases e384
                     replace hx384_0:=(HB.out.cell (World.block_lt_of_cell? w _ hx384_0)).trans hx384_0
                     replace p384:=eq_true p384
                     replace q384:=eq_true q384
                     obtain ⟨Ao34,co34,eo34⟩:=Kd.R_slice HO_7.out
                     subst eo34
                     have p385:0≤((rd l1 x11_3):Int):=of_decide_eq_true zA
                     have q385:(rd l1 x11_3)<(x7_2.length:Int):=of_decide_eq_true zA
                     obtain ⟨ad385,e385,hx385_0⟩:=Kd.at_bool (Kd.R_reads' HO_7.out).2.2 (rd l1 x11_3) p385 q385
                     cases e385
                     replace p385:=eq_true p385
                     replace q385:=eq_true q385
                     go_wp2
                     repeat (go_quiet (fail); try go_wp2)
                     go_loopg [12,13] kj26 (fun kq v12 v13 w'=>∃(x12_5:Bool) (x13_5:Int),v12= .bool x12_5∧v13= .int .i64 x13_5∧Aside0 (AS.l2 kq l1 x6_2 x7_2 x8_2 x9_2 x10_3 x11_3 x12_5 x13_5 A8 l0_1=some (r1,r2))∧Aside0 (kq≤kj26)∧Aside0 (Kd.R k54 54 w' w.heap.size (fun _=>True) v376 x6_2)∧Aside0 (Kd.R Kd.bool 4 w' w.heap.size (fun _=>True) (.slice (some ad385) x7_2.length co34) x7_2)∧Aside0 (Kd.R (Kd.int .i64) 3 w' w.heap.size (fun _=>True) v382 x8_2)∧Aside0 (w'.heap[gb372]? =some (.cells #[.int .i64 A8,(.slice A0_1 l0_1.length c0_1)] 24 (0,0)))∧Aside0 (Below w.heap.size w w'))
                     case atStart=>exact ⟨(!(rdOf false x7_2 (rd l1 x11_3))),(0),zF,zF,H',⟨Nat.le_refl _⟩,⟨by (with_reducible repeat (first|apply Kd.R_alloc|apply Kd.R_drewN|apply Kd.R_drew)); exact HO_6.out⟩,⟨by (with_reducible repeat (first|apply Kd.R_alloc|apply Kd.R_drewN|apply Kd.R_drew)); exact HO_7.out⟩,⟨by (with_reducible repeat (first|apply Kd.R_alloc|apply Kd.R_drewN|apply Kd.R_drew)); exact HO_8.out⟩,⟨by (with_reducible repeat (first|refine AF ?_ _|refine AH ?_|refine AG ?_ _)); exact BK372.out⟩,⟨by repeat (first|(with_reducible first|exact HB.out|apply AE|apply AC|apply AD|refine AI ?_ GE372.out)|exact HB.out)⟩⟩
                     case round=>
                      clear H'
                      try clear c1
                      try clear c2
                      try clear p2
                      try clear c3
                      try clear p3
                      try clear q3
                      try clear hx3
                      try clear c6
                      try clear c13
                      try clear c14
                      try clear c14b0
                      try clear c14b1
                      try clear c15
                      try clear c15b0
                      try clear c15b1
                      try clear c16
                      try clear c16b0
                      try clear c16b1
                      try clear c17
                      try clear c17b0
                      try clear c17b1
                      try clear c18
                      try clear c18b0
                      try clear c18b1
                      try clear c21
                      try clear c26
                      try clear c26b0
                      try clear c28
                      try clear c28b0
                      try clear c29
                      try clear c30
                      try clear c30b0
                      try clear c31
                      try clear c31b0
                      try clear c32
                      try clear c32b0
                      try clear c33
                      try clear c33b0
                      try clear hcz10_0
                      try clear hcz10_1
                      try clear hcz11_0
                      try clear hcz11_1
                      try clear hcz23_0
                      try clear hcz23_1
                      try clear hcz8_0
                      try clear hcz8_1
                      try clear hfz10_0
                      try clear hfz10_1
                      try clear hfz11_0
                      try clear hfz11_1
                      try clear hfz23_0
                      try clear hfz23_1
                      try clear hfz8_0
                      try clear hfz8_1
                      try clear hx384_0
                      try clear hx385_0
                      try clear p2
                      try clear p384
                      try clear p385
                      try clear q384
                      try clear q385
                      obtain ⟨x12_5,x13_5,rfl,rfl,HA,HK5,HO_6,HO_7,HO_8,BK372,HB⟩:=hrel
                      cases gk with
                      |zero=>exact absurd HA.out (by simp [AS.l2])
                      | succ k5 =>
                       have H:=HA.out
                       clear HA
                       simp only [AS.l2] at H
                       by_cases c35:0≤x11_3
                       ·rw [if_pos c35] at H
                        have c35b0:decide (0≤x11_3)=true:=decide_eq_true c35
                        clear c35
                        by_cases c36:x11_3<(l1.length:Int)
                        ·rw [if_pos c36] at H
                         have c36b0:decide (x11_3<(l1.length:Int))=true:=decide_eq_true c36
                         clear c36
                         by_cases c37:0≤(rd l1 x11_3)
                         ·rw [if_pos c37] at H
                          have c37b0:decide (0≤(rd l1 x11_3))=true:=decide_eq_true c37
                          clear c37
                          by_cases c38:(rd l1 x11_3)<(l0_1.length:Int)
                          ·rw [if_pos c38] at H
                           have c38b0:decide ((rd l1 x11_3)<(l0_1.length:Int))=true:=decide_eq_true c38
                           clear c38
                           by_cases c39:x13_5<(((AL l0_1 (rd l1 x11_3)).f3).length:Int)
                           ·rw [if_pos c39] at H
                            have c39b0:decide (x13_5<(((AL l0_1 (rd l1 x11_3)).f3).length:Int))=true:=decide_eq_true c39
                            clear c39
                            by_cases c40:x12_5=true
                            ·subst c40
                             have H1:(if 0≤x13_5 then (if 0≤(rd ((AL l0_1 (rd l1 x11_3)).f3) x13_5) then (if (rd ((AL l0_1 (rd l1 x11_3)).f3) x13_5)<(x7_2.length:Int) then (AS.l2 k5 l1 x6_2 x7_2 x8_2 x9_2 x10_3 x11_3 (rdOf false x7_2 (rd ((AL l0_1 (rd l1 x11_3)).f3) x13_5)) (wrap64 (x13_5+1)) A8 l0_1) else (none)) else (none)) else (none))=some (r1,r2):=by rw [if_pos rfl] at H; exact H
                             clear H
                             have H:=H1
                             clear H1
                             by_cases c41:0≤x13_5
                             ·rw [if_pos c41] at H
                              have c41b0:decide (0≤x13_5)=true:=decide_eq_true c41
                              clear c41
                              by_cases c42:0≤(rd ((AL l0_1 (rd l1 x11_3)).f3) x13_5)
                              ·rw [if_pos c42] at H
                               have c42b0:decide (0≤(rd ((AL l0_1 (rd l1 x11_3)).f3) x13_5))=true:=decide_eq_true c42
                               clear c42
                               by_cases c43:(rd ((AL l0_1 (rd l1 x11_3)).f3) x13_5)<(x7_2.length:Int)
                               ·rw [if_pos c43] at H
                                have c43b0:decide ((rd ((AL l0_1 (rd l1 x11_3)).f3) x13_5)<(x7_2.length:Int))=true:=decide_eq_true c43
                                clear c43
                                have H':=Aside0.mk H
                                clear H
                                have hcz44_0:wr.cell? ⟨gb372,0,none⟩=some (.int .i64 A8):=(AK BK372.out 0).trans rfl
                                have hcz44_1:wr.cell? ⟨gb372,1,none⟩=some (.slice A0_1 l0_1.length c0_1):=(AK BK372.out 1).trans rfl
                                have hfz44_0:=AJ BK372.out 0
                                have hfz44_1:=AJ BK372.out 1
                                have p386:0≤(x11_3:Int):=of_decide_eq_true zA
                                have q386:x11_3<(l1.length:Int):=of_decide_eq_true zA
                                obtain ⟨ad386,e386,hx386_0⟩:=Kd.at_int HR1.out x11_3 p386 q386
                                obtain rfl:ad384=ad386:=(by injection e386)
                                replace hx386_0:=(HB.out.cell (World.block_lt_of_cell? w _ hx386_0)).trans hx386_0
                                replace p386:=eq_true p386
                                replace q386:=eq_true q386
                                have p387:0≤((rd l1 x11_3):Int):=of_decide_eq_true zA
                                have q387:(rd l1 x11_3)<(l0_1.length:Int):=of_decide_eq_true zA
                                obtain ⟨ad387,A387_3,c387_3,e387,hx387_0,hx387_1,hx387_2,hx387_3,hl387_3,hi387_3⟩:=BR HR0_1.out (rd l1 x11_3) p387 q387
                                cases e387
                                replace hx387_0:=(HB.out.cell (World.block_lt_of_cell? w _ hx387_0)).trans hx387_0
                                replace hx387_1:=(HB.out.cell (World.block_lt_of_cell? w _ hx387_1)).trans hx387_1
                                replace hx387_2:=(HB.out.cell (World.block_lt_of_cell? w _ hx387_2)).trans hx387_2
                                replace hx387_3:=(HB.out.cell (World.block_lt_of_cell? w _ hx387_3)).trans hx387_3
                                have HR387_3:=Aside0.mk hi387_3
                                have HC387_3:=Aside0.mk hl387_3
                                clear hi387_3 hl387_3
                                replace p387:=eq_true p387
                                replace q387:=eq_true q387
                                have p388:0≤(x11_3:Int):=of_decide_eq_true zA
                                have q388:x11_3<(l1.length:Int):=of_decide_eq_true zA
                                obtain ⟨ad388,e388,hx388_0⟩:=Kd.at_int HR1.out x11_3 p388 q388
                                obtain rfl:ad384=ad388:=(by injection e388)
                                replace hx388_0:=(HB.out.cell (World.block_lt_of_cell? w _ hx388_0)).trans hx388_0
                                replace p388:=eq_true p388
                                replace q388:=eq_true q388
                                have p389:0≤((rd l1 x11_3):Int):=of_decide_eq_true zA
                                have q389:(rd l1 x11_3)<(l0_1.length:Int):=of_decide_eq_true zA
                                obtain ⟨ad389,A389_3,c389_3,e389,hx389_0,hx389_1,hx389_2,hx389_3,hl389_3,hi389_3⟩:=BR HR0_1.out (rd l1 x11_3) p389 q389
                                obtain rfl:ad387=ad389:=(by injection e389)
                                replace hx389_0:=(HB.out.cell (World.block_lt_of_cell? w _ hx389_0)).trans hx389_0
                                replace hx389_1:=(HB.out.cell (World.block_lt_of_cell? w _ hx389_1)).trans hx389_1
                                replace hx389_2:=(HB.out.cell (World.block_lt_of_cell? w _ hx389_2)).trans hx389_2
                                replace hx389_3:=(HB.out.cell (World.block_lt_of_cell? w _ hx389_3)).trans hx389_3
                                have HR389_3:=Aside0.mk hi389_3
                                have HC389_3:=Aside0.mk hl389_3
                                clear hi389_3 hl389_3
                                replace p389:=eq_true p389
                                replace q389:=eq_true q389
                                have ea_:=Option.some.inj (hx387_3.symm.trans hx389_3)
                                injection ea_ with ea_ en_ ec_
                                subst ea_
                                subst ec_
                                clear en_
                                have p390:0≤(x13_5:Int):=of_decide_eq_true zA
                                have q390:x13_5<(((AL l0_1 (rd l1 x11_3)).f3).length:Int):=of_decide_eq_true zA
                                obtain ⟨ad390,e390,hx390_0⟩:=Kd.at_int HR389_3.out x13_5 p390 q390
                                cases e390
                                replace hx390_0:=(HB.out.cell (World.block_lt_of_cell? w _ hx390_0)).trans hx390_0
                                replace p390:=eq_true p390
                                replace q390:=eq_true q390
                                have p391:0≤((rd ((AL l0_1 (rd l1 x11_3)).f3) x13_5):Int):=of_decide_eq_true zA
                                have q391:(rd ((AL l0_1 (rd l1 x11_3)).f3) x13_5)<(x7_2.length:Int):=of_decide_eq_true zA
                                obtain ⟨ad391,e391,hx391_0⟩:=Kd.at_bool (Kd.R_reads' HO_7.out).2.2 (rd ((AL l0_1 (rd l1 x11_3)).f3) x13_5) p391 q391
                                obtain rfl:ad385=ad391:=(by injection e391)
                                replace p391:=eq_true p391
                                replace q391:=eq_true q391
                                go_wp2
                                repeat (go_quiet (fail); try go_wp2)
                                go_roundg k5
                                case measure=>have:=HJ2.out; have:=HK2.out; have:=HK3.out; have:=HJ26.out; have:=HK5.out; omega
                                case rel=>exact ⟨(rdOf false x7_2 (rd ((AL l0_1 (rd l1 x11_3)).f3) x13_5)),(wrap64 (x13_5+1)),zF,zF,H',⟨by have:=HJ2.out; have:=HK2.out; have:=HK3.out; have:=HJ26.out; have:=HK5.out; omega⟩,⟨by (with_reducible repeat (first|apply Kd.R_alloc|apply Kd.R_drewN|apply Kd.R_drew)); exact HO_6.out⟩,⟨by (with_reducible repeat (first|apply Kd.R_alloc|apply Kd.R_drewN|apply Kd.R_drew)); exact HO_7.out⟩,⟨by (with_reducible repeat (first|apply Kd.R_alloc|apply Kd.R_drewN|apply Kd.R_drew)); exact HO_8.out⟩,⟨by (with_reducible repeat (first|refine AF ?_ _|refine AH ?_|refine AG ?_ _)); exact BK372.out⟩,⟨by repeat (first|(with_reducible first|exact HB.out|apply AE|apply AC|apply AD|refine AI ?_ GE372.out)|exact HB.out)⟩⟩
                               ·rw [if_neg c43] at H
                                exact absurd H zY
                              ·rw [if_neg c42] at H
                               exact absurd H zY
                             ·rw [if_neg c41] at H
                              exact absurd H zY
                            ·replace c40:=Bool.eq_false_iff.mpr c40
                             subst c40
                             have H1:(AS.l2 k5 l1 x6_2 x7_2 x8_2 x9_2 x10_3 x11_3 false (wrap64 (x13_5+1)) A8 l0_1)=some (r1,r2):=by rw [if_neg (show ¬(false=true) by decide)] at H; exact H
                             clear H
                             have H:=H1
                             clear H1
                             have H':=Aside0.mk H
                             clear H
                             have hcz45_0:wr.cell? ⟨gb372,0,none⟩=some (.int .i64 A8):=(AK BK372.out 0).trans rfl
                             have hcz45_1:wr.cell? ⟨gb372,1,none⟩=some (.slice A0_1 l0_1.length c0_1):=(AK BK372.out 1).trans rfl
                             have hfz45_0:=AJ BK372.out 0
                             have hfz45_1:=AJ BK372.out 1
                             have p386:0≤(x11_3:Int):=of_decide_eq_true zA
                             have q386:x11_3<(l1.length:Int):=of_decide_eq_true zA
                             obtain ⟨ad386,e386,hx386_0⟩:=Kd.at_int HR1.out x11_3 p386 q386
                             obtain rfl:ad384=ad386:=(by injection e386)
                             replace hx386_0:=(HB.out.cell (World.block_lt_of_cell? w _ hx386_0)).trans hx386_0
                             replace p386:=eq_true p386
                             replace q386:=eq_true q386
                             have p387:0≤((rd l1 x11_3):Int):=of_decide_eq_true zA
                             have q387:(rd l1 x11_3)<(l0_1.length:Int):=of_decide_eq_true zA
                             obtain ⟨ad387,A387_3,c387_3,e387,hx387_0,hx387_1,hx387_2,hx387_3,hl387_3,hi387_3⟩:=BR HR0_1.out (rd l1 x11_3) p387 q387
                             cases e387
                             replace hx387_0:=(HB.out.cell (World.block_lt_of_cell? w _ hx387_0)).trans hx387_0
                             replace hx387_1:=(HB.out.cell (World.block_lt_of_cell? w _ hx387_1)).trans hx387_1
                             replace hx387_2:=(HB.out.cell (World.block_lt_of_cell? w _ hx387_2)).trans hx387_2
                             replace hx387_3:=(HB.out.cell (World.block_lt_of_cell? w _ hx387_3)).trans hx387_3
                             have HR387_3:=Aside0.mk hi387_3
                             have HC387_3:=Aside0.mk hl387_3
                             clear hi387_3 hl387_3
                             replace p387:=eq_true p387
                             replace q387:=eq_true q387
                             go_wp2
                             repeat (go_quiet (fail); try go_wp2)
                             go_roundg k5
                             case measure=>have:=HJ2.out; have:=HK2.out; have:=HK3.out; have:=HJ26.out; have:=HK5.out; omega
                             case rel=>exact ⟨(false),(wrap64 (x13_5+1)),zF,zF,H',⟨by have:=HJ2.out; have:=HK2.out; have:=HK3.out; have:=HJ26.out; have:=HK5.out; omega⟩,⟨by (with_reducible repeat (first|apply Kd.R_alloc|apply Kd.R_drewN|apply Kd.R_drew)); exact HO_6.out⟩,⟨by (with_reducible repeat (first|apply Kd.R_alloc|apply Kd.R_drewN|apply Kd.R_drew)); exact HO_7.out⟩,⟨by (with_reducible repeat (first|apply Kd.R_alloc|apply Kd.R_drewN|apply Kd.R_drew)); exact HO_8.out⟩,⟨by (with_reducible repeat (first|refine AF ?_ _|refine AH ?_|refine AG ?_ _)); exact BK372.out⟩,⟨by repeat (first|(with_reducible first|exact HB.out|apply AE|apply AC|apply AD|refine AI ?_ GE372.out)|exact HB.out)⟩⟩
                           ·rw [if_neg c39] at H
                            have c39b0:decide (x13_5<(((AL l0_1 (rd l1 x11_3)).f3).length:Int))=false:=decide_eq_false c39
                            clear c39
                            by_cases c46:x12_5=true
                            ·subst c46
                             have H1:(AS.l1 k5 l1 x6_2 x7_2 x8_2 x9_2 (rd l1 x11_3) (wrap64 (x11_3+1)) A8 l0_1)=some (r1,r2):=by rw [if_pos rfl] at H; exact H
                             clear H
                             have H:=H1
                             clear H1
                             have H':=Aside0.mk H
                             clear H
                             have hcz47_0:wr.cell? ⟨gb372,0,none⟩=some (.int .i64 A8):=(AK BK372.out 0).trans rfl
                             have hcz47_1:wr.cell? ⟨gb372,1,none⟩=some (.slice A0_1 l0_1.length c0_1):=(AK BK372.out 1).trans rfl
                             have hfz47_0:=AJ BK372.out 0
                             have hfz47_1:=AJ BK372.out 1
                             have p386:0≤(x11_3:Int):=of_decide_eq_true zA
                             have q386:x11_3<(l1.length:Int):=of_decide_eq_true zA
                             obtain ⟨ad386,e386,hx386_0⟩:=Kd.at_int HR1.out x11_3 p386 q386
                             obtain rfl:ad384=ad386:=(by injection e386)
                             replace hx386_0:=(HB.out.cell (World.block_lt_of_cell? w _ hx386_0)).trans hx386_0
                             replace p386:=eq_true p386
                             replace q386:=eq_true q386
                             have p387:0≤((rd l1 x11_3):Int):=of_decide_eq_true zA
                             have q387:(rd l1 x11_3)<(l0_1.length:Int):=of_decide_eq_true zA
                             obtain ⟨ad387,A387_3,c387_3,e387,hx387_0,hx387_1,hx387_2,hx387_3,hl387_3,hi387_3⟩:=BR HR0_1.out (rd l1 x11_3) p387 q387
                             cases e387
                             replace hx387_0:=(HB.out.cell (World.block_lt_of_cell? w _ hx387_0)).trans hx387_0
                             replace hx387_1:=(HB.out.cell (World.block_lt_of_cell? w _ hx387_1)).trans hx387_1
                             replace hx387_2:=(HB.out.cell (World.block_lt_of_cell? w _ hx387_2)).trans hx387_2
                             replace hx387_3:=(HB.out.cell (World.block_lt_of_cell? w _ hx387_3)).trans hx387_3
                             have HR387_3:=Aside0.mk hi387_3
                             have HC387_3:=Aside0.mk hl387_3
                             clear hi387_3 hl387_3
                             replace p387:=eq_true p387
                             replace q387:=eq_true q387
                             have p392:0≤(x11_3:Int):=of_decide_eq_true zA
                             have q392:x11_3<(l1.length:Int):=of_decide_eq_true zA
                             obtain ⟨ad392,e392,hx392_0⟩:=Kd.at_int HR1.out x11_3 p392 q392
                             obtain rfl:ad384=ad392:=(by injection e392)
                             replace hx392_0:=(HB.out.cell (World.block_lt_of_cell? w _ hx392_0)).trans hx392_0
                             replace p392:=eq_true p392
                             replace q392:=eq_true q392
                             go_wp2
                             repeat (go_quiet (fail); try go_wp2)
                             go_roundg k5
                             case measure=>have:=HJ2.out; have:=HK2.out; have:=HK3.out; have:=HJ26.out; have:=HK5.out; omega
                             case rel=>exact ⟨(rd l1 x11_3),(wrap64 (x11_3+1)),zF,zF,H',⟨by have:=HJ2.out; have:=HK2.out; have:=HK3.out; have:=HJ26.out; have:=HK5.out; omega⟩,⟨by (with_reducible repeat (first|apply Kd.R_alloc|apply Kd.R_drewN|apply Kd.R_drew)); exact HO_6.out⟩,⟨by (with_reducible repeat (first|apply Kd.R_alloc|apply Kd.R_drewN|apply Kd.R_drew)); exact HO_7.out⟩,⟨by (with_reducible repeat (first|apply Kd.R_alloc|apply Kd.R_drewN|apply Kd.R_drew)); exact HO_8.out⟩,⟨by (with_reducible repeat (first|refine AF ?_ _|refine AH ?_|refine AG ?_ _)); exact BK372.out⟩,⟨by repeat (first|(with_reducible first|exact HB.out|apply AE|apply AC|apply AD|refine AI ?_ GE372.out)|exact HB.out)⟩⟩
                            ·replace c46:=Bool.eq_false_iff.mpr c46
                             subst c46
                             have H1:(AS.l1 k5 l1 x6_2 x7_2 x8_2 x9_2 x10_3 (wrap64 (x11_3+1)) A8 l0_1)=some (r1,r2):=by rw [if_neg (show ¬(false=true) by decide)] at H; exact H
                             clear H
                             have H:=H1
                             clear H1
                             have H':=Aside0.mk H
                             clear H
                             have hcz48_0:wr.cell? ⟨gb372,0,none⟩=some (.int .i64 A8):=(AK BK372.out 0).trans rfl
                             have hcz48_1:wr.cell? ⟨gb372,1,none⟩=some (.slice A0_1 l0_1.length c0_1):=(AK BK372.out 1).trans rfl
                             have hfz48_0:=AJ BK372.out 0
                             have hfz48_1:=AJ BK372.out 1
                             have p386:0≤(x11_3:Int):=of_decide_eq_true zA
                             have q386:x11_3<(l1.length:Int):=of_decide_eq_true zA
                             obtain ⟨ad386,e386,hx386_0⟩:=Kd.at_int HR1.out x11_3 p386 q386
                             obtain rfl:ad384=ad386:=(by injection e386)
                             replace hx386_0:=(HB.out.cell (World.block_lt_of_cell? w _ hx386_0)).trans hx386_0
                             replace p386:=eq_true p386
                             replace q386:=eq_true q386
                             have p387:0≤((rd l1 x11_3):Int):=of_decide_eq_true zA
                             have q387:(rd l1 x11_3)<(l0_1.length:Int):=of_decide_eq_true zA
                             obtain ⟨ad387,A387_3,c387_3,e387,hx387_0,hx387_1,hx387_2,hx387_3,hl387_3,hi387_3⟩:=BR HR0_1.out (rd l1 x11_3) p387 q387
                             cases e387
                             replace hx387_0:=(HB.out.cell (World.block_lt_of_cell? w _ hx387_0)).trans hx387_0
                             replace hx387_1:=(HB.out.cell (World.block_lt_of_cell? w _ hx387_1)).trans hx387_1
                             replace hx387_2:=(HB.out.cell (World.block_lt_of_cell? w _ hx387_2)).trans hx387_2
                             replace hx387_3:=(HB.out.cell (World.block_lt_of_cell? w _ hx387_3)).trans hx387_3
                             have HR387_3:=Aside0.mk hi387_3
                             have HC387_3:=Aside0.mk hl387_3
                             clear hi387_3 hl387_3
                             replace p387:=eq_true p387
                             replace q387:=eq_true q387
                             go_wp2
                             repeat (go_quiet (fail); try go_wp2)
                             go_roundg k5
                             case measure=>have:=HJ2.out; have:=HK2.out; have:=HK3.out; have:=HJ26.out; have:=HK5.out; omega
                             case rel=>exact ⟨(x10_3),(wrap64 (x11_3+1)),zF,zF,H',⟨by have:=HJ2.out; have:=HK2.out; have:=HK3.out; have:=HJ26.out; have:=HK5.out; omega⟩,⟨by (with_reducible repeat (first|apply Kd.R_alloc|apply Kd.R_drewN|apply Kd.R_drew)); exact HO_6.out⟩,⟨by (with_reducible repeat (first|apply Kd.R_alloc|apply Kd.R_drewN|apply Kd.R_drew)); exact HO_7.out⟩,⟨by (with_reducible repeat (first|apply Kd.R_alloc|apply Kd.R_drewN|apply Kd.R_drew)); exact HO_8.out⟩,⟨by (with_reducible repeat (first|refine AF ?_ _|refine AH ?_|refine AG ?_ _)); exact BK372.out⟩,⟨by repeat (first|(with_reducible first|exact HB.out|apply AE|apply AC|apply AD|refine AI ?_ GE372.out)|exact HB.out)⟩⟩
                          ·rw [if_neg c38] at H
                           exact absurd H zY
                         ·rw [if_neg c37] at H
                          exact absurd H zY
                        ·rw [if_neg c36] at H
                         exact absurd H zY
                       ·rw [if_neg c35] at H
                        exact absurd H zY
                    ·rw [if_neg c33] at H
                     exact absurd H zY
                   ·rw [if_neg c32] at H
                    exact absurd H zY
                  ·rw [if_neg c31] at H
                   exact absurd H zY
                 ·rw [if_neg c30] at H
                  exact absurd H zY
                ·replace c29 :=Bool.eq_false_iff.mpr c29
                 subst c29
                 have H1:(AS.l3 kj26 l1 x6_2 x7_2 x8_2 x9_2 x10_3 0 1 A8 l0_1)=some (r1,r2):=by rw [if_neg (show ¬(false=true) by decide)] at H; exact H
                 clear H
                 have H:=H1
                 clear H1
                 have H':=Aside0.mk H
                 clear H
                 go_wp2
                 repeat (go_quiet (fail); try go_wp2)
                 go_loopg [14,15] kj26 (fun kq v14 v15 w'=>∃(x14_5:Int) (x15_5:Int),v14= .int .i64 x14_5∧v15= .int .i64 x15_5∧Aside0 (AS.l3 kq l1 x6_2 x7_2 x8_2 x9_2 x10_3 x14_5 x15_5 A8 l0_1=some (r1,r2))∧Aside0 (kq≤kj26)∧Aside0 (Kd.R k54 54 w' w.heap.size (fun _=>True) v376 x6_2)∧Aside0 (Kd.R Kd.bool 4 w' w.heap.size (fun _=>True) v379 x7_2)∧Aside0 (Kd.R (Kd.int .i64) 3 w' w.heap.size (fun _=>True) v382 x8_2)∧Aside0 (w'.heap[gb372]? =some (.cells #[.int .i64 A8,(.slice A0_1 l0_1.length c0_1)] 24 (0,0)))∧Aside0 (Below w.heap.size w w'))
                 case atStart=>exact ⟨(0),(1),zF,zF,H',⟨Nat.le_refl _⟩,⟨by (with_reducible repeat (first|apply Kd.R_alloc|apply Kd.R_drewN|apply Kd.R_drew)); exact HO_6.out⟩,⟨by (with_reducible repeat (first|apply Kd.R_alloc|apply Kd.R_drewN|apply Kd.R_drew)); exact HO_7.out⟩,⟨by (with_reducible repeat (first|apply Kd.R_alloc|apply Kd.R_drewN|apply Kd.R_drew)); exact HO_8.out⟩,⟨by (with_reducible repeat (first|refine AF ?_ _|refine AH ?_|refine AG ?_ _)); exact BK372.out⟩,⟨by repeat (first|(with_reducible first|exact HB.out|apply AE|apply AC|apply AD|refine AI ?_ GE372.out)|exact HB.out)⟩⟩
                 case round=>
                  clear H'
                  try clear c1
                  try clear c2
                  try clear p2
                  try clear c3
                  try clear p3
                  try clear q3
                  try clear hx3
                  try clear c4
                  try clear c6
                  try clear p6
                  try clear c13
                  try clear c14
                  try clear c14b0
                  try clear c14b1
                  try clear c15
                  try clear c15b0
                  try clear c15b1
                  try clear c16
                  try clear c16b0
                  try clear c16b1
                  try clear c17
                  try clear c17b0
                  try clear c17b1
                  try clear c18
                  try clear c18b0
                  try clear c18b1
                  try clear c21
                  try clear c26
                  try clear c26b0
                  try clear c28
                  try clear c28b0
                  try clear c29
                  try clear c30
                  try clear c30b0
                  try clear c31
                  try clear c31b0
                  try clear c32
                  try clear c32b0
                  try clear c33
                  try clear c33b0
                  try clear c35
                  try clear c35b0
                  try clear c36
                  try clear c36b0
                  try clear c37
                  try clear c37b0
                  try clear c38
                  try clear c38b0
                  try clear p38
                  try clear q38
                  try clear hx38
                  try clear c39
                  try clear c39b0
                  try clear p39
                  try clear q39
                  try clear hx39
                  try clear c40
                  try clear c41
                  try clear c41b0
                  try clear c42
                  try clear c42b0
                  try clear c43
                  try clear c43b0
                  try clear c46
                  try clear hcz10_0
                  try clear hcz10_1
                  try clear hcz11_0
                  try clear hcz11_1
                  try clear hcz23_0
                  try clear hcz23_1
                  try clear hcz44_0
                  try clear hcz44_1
                  try clear hcz45_0
                  try clear hcz45_1
                  try clear hcz47_0
                  try clear hcz47_1
                  try clear hcz48_0
                  try clear hcz48_1
                  try clear hcz8_0
                  try clear hcz8_1
                  try clear hfz10_0
                  try clear hfz10_1
                  try clear hfz11_0
                  try clear hfz11_1
                  try clear hfz23_0
                  try clear hfz23_1
                  try clear hfz44_0
                  try clear hfz44_1
                  try clear hfz45_0
                  try clear hfz45_1
                  try clear hfz47_0
                  try clear hfz47_1
                  try clear hfz48_0
                  try clear hfz48_1
                  try clear hfz8_0
                  try clear hfz8_1
                  try clear hx384_0
                  try clear hx385_0
                  try clear hx386_0
                  try clear hx387_0
                  try clear hx387_1
                  try clear hx387_2
                  try clear hx387_3
                  try clear hx388_0
                  try clear hx389_0
                  try clear hx389_1
                  try clear hx389_2
                  try clear hx389_3
                  try clear hx390_0
                  try clear hx391_0
                  try clear hx392_0
                  try clear p2
                  try clear p3
                  try clear p384
                  try clear p385
                  try clear p386
                  try clear p387
                  try clear p388
                  try clear p389
                  try clear p390
                  try clear p391
                  try clear p392
                  try clear q3
                  try clear q384
                  try clear q385
                  try clear q386
                  try clear q387
                  try clear q388
                  try clear q389
                  try clear q390
                  try clear q391
                  try clear q392
                  obtain ⟨x14_5,x15_5,rfl,rfl,HA,HK5,HO_6,HO_7,HO_8,BK372,HB⟩:=hrel
                  cases gk with
                  |zero=>exact absurd HA.out (by simp [AS.l3])
                  | succ k5 =>
                   have H:=HA.out
                   clear HA
                   simp only [AS.l3] at H
                   by_cases c49:x15_5<A8
                   ·rw [if_pos c49] at H
                    have c49b0:decide (x15_5<A8)=true:=decide_eq_true c49
                    clear c49
                    by_cases c50:0≤x15_5
                    ·rw [if_pos c50] at H
                     have c50b0:decide (0≤x15_5)=true:=decide_eq_true c50
                     clear c50
                     by_cases c51:x15_5<(x8_2.length:Int)
                     ·rw [if_pos c51] at H
                      have c51b0:decide (x15_5<(x8_2.length:Int))=true:=decide_eq_true c51
                      clear c51
                      by_cases c52:0≤x14_5
                      ·rw [if_pos c52] at H
                       have c52b0:decide (0≤x14_5)=true:=decide_eq_true c52
                       clear c52
                       by_cases c53:x14_5<(x8_2.length:Int)
                       ·rw [if_pos c53] at H
                        have c53b0:decide (x14_5<(x8_2.length:Int))=true:=decide_eq_true c53
                        clear c53
                        by_cases c54:(rd x8_2 x15_5)<(rd x8_2 x14_5)
                        ·rw [if_pos c54] at H
                         have c54b0:decide ((rd x8_2 x15_5)<(rd x8_2 x14_5))=true:=decide_eq_true c54
                         clear c54
                         have H':=Aside0.mk H
                         clear H
                         have hcz55_0:wr.cell? ⟨gb372,0,none⟩=some (.int .i64 A8):=(AK BK372.out 0).trans rfl
                         have hcz55_1:wr.cell? ⟨gb372,1,none⟩=some (.slice A0_1 l0_1.length c0_1):=(AK BK372.out 1).trans rfl
                         have hfz55_0:=AJ BK372.out 0
                         have hfz55_1:=AJ BK372.out 1
                         obtain ⟨Ao56,co56,eo56⟩:=Kd.R_slice HO_8.out
                         subst eo56
                         have p393:0≤(x15_5:Int):=of_decide_eq_true zA
                         have q393:x15_5<(x8_2.length:Int):=of_decide_eq_true zA
                         obtain ⟨ad393,e393,hx393_0⟩:=Kd.at_int (Kd.R_reads' HO_8.out).2.2 x15_5 p393 q393
                         cases e393
                         replace p393:=eq_true p393
                         replace q393:=eq_true q393
                         have p394:0≤(x14_5:Int):=of_decide_eq_true zA
                         have q394:x14_5<(x8_2.length:Int):=of_decide_eq_true zA
                         obtain ⟨ad394,e394,hx394_0⟩:=Kd.at_int (Kd.R_reads' HO_8.out).2.2 x14_5 p394 q394
                         obtain rfl:ad393=ad394:=(by injection e394)
                         replace p394:=eq_true p394
                         replace q394:=eq_true q394
                         go_wp2
                         repeat (go_quiet (fail); try go_wp2)
                         go_roundg k5
                         case measure=>have:=HJ2.out; have:=HK2.out; have:=HK3.out; have:=HJ26.out; have:=HK5.out; omega
                         case rel=>exact ⟨(x15_5),(wrap64 (x15_5+1)),zF,zF,H',⟨by have:=HJ2.out; have:=HK2.out; have:=HK3.out; have:=HJ26.out; have:=HK5.out; omega⟩,⟨by (with_reducible repeat (first|apply Kd.R_alloc|apply Kd.R_drewN|apply Kd.R_drew)); exact HO_6.out⟩,⟨by (with_reducible repeat (first|apply Kd.R_alloc|apply Kd.R_drewN|apply Kd.R_drew)); exact HO_7.out⟩,⟨by (with_reducible repeat (first|apply Kd.R_alloc|apply Kd.R_drewN|apply Kd.R_drew)); exact HO_8.out⟩,⟨by (with_reducible repeat (first|refine AF ?_ _|refine AH ?_|refine AG ?_ _)); exact BK372.out⟩,⟨by repeat (first|(with_reducible first|exact HB.out|apply AE|apply AC|apply AD|refine AI ?_ GE372.out)|exact HB.out)⟩⟩
                        ·rw [if_neg c54] at H
                         have c54b0:decide ((rd x8_2 x15_5)<(rd x8_2 x14_5))=false:=decide_eq_false c54
                         clear c54
                         have H':=Aside0.mk H
                         clear H
                         have hcz57_0:wr.cell? ⟨gb372,0,none⟩=some (.int .i64 A8):=(AK BK372.out 0).trans rfl
                         have hcz57_1:wr.cell? ⟨gb372,1,none⟩=some (.slice A0_1 l0_1.length c0_1):=(AK BK372.out 1).trans rfl
                         have hfz57_0:=AJ BK372.out 0
                         have hfz57_1:=AJ BK372.out 1
                         obtain ⟨Ao58,co58,eo58⟩:=Kd.R_slice HO_8.out
                         subst eo58
                         have p393:0≤(x15_5:Int):=of_decide_eq_true zA
                         have q393:x15_5<(x8_2.length:Int):=of_decide_eq_true zA
                         obtain ⟨ad393,e393,hx393_0⟩:=Kd.at_int (Kd.R_reads' HO_8.out).2.2 x15_5 p393 q393
                         cases e393
                         replace p393:=eq_true p393
                         replace q393:=eq_true q393
                         have p394:0≤(x14_5:Int):=of_decide_eq_true zA
                         have q394:x14_5<(x8_2.length:Int):=of_decide_eq_true zA
                         obtain ⟨ad394,e394,hx394_0⟩:=Kd.at_int (Kd.R_reads' HO_8.out).2.2 x14_5 p394 q394
                         obtain rfl:ad393=ad394:=(by injection e394)
                         replace p394:=eq_true p394
                         replace q394:=eq_true q394
                         go_wp2
                         repeat (go_quiet (fail); try go_wp2)
                         go_roundg k5
                         case measure=>have:=HJ2.out; have:=HK2.out; have:=HK3.out; have:=HJ26.out; have:=HK5.out; omega
                         case rel=>exact ⟨(x14_5),(wrap64 (x15_5+1)),zF,zF,H',⟨by have:=HJ2.out; have:=HK2.out; have:=HK3.out; have:=HJ26.out; have:=HK5.out; omega⟩,⟨by (with_reducible repeat (first|apply Kd.R_alloc|apply Kd.R_drewN|apply Kd.R_drew)); exact HO_6.out⟩,⟨by (with_reducible repeat (first|apply Kd.R_alloc|apply Kd.R_drewN|apply Kd.R_drew)); exact HO_7.out⟩,⟨by (with_reducible repeat (first|apply Kd.R_alloc|apply Kd.R_drewN|apply Kd.R_drew)); exact HO_8.out⟩,⟨by (with_reducible repeat (first|refine AF ?_ _|refine AH ?_|refine AG ?_ _)); exact BK372.out⟩,⟨by repeat (first|(with_reducible first|exact HB.out|apply AE|apply AC|apply AD|refine AI ?_ GE372.out)|exact HB.out)⟩⟩
                       ·rw [if_neg c53] at H
                        exact absurd H zY
                      ·rw [if_neg c52] at H
                       exact absurd H zY
                     ·rw [if_neg c51] at H
                      exact absurd H zY
                    ·rw [if_neg c50] at H
                     exact absurd H zY
                   ·rw [if_neg c49] at H
                    have c49b0:decide (x15_5<A8)=false:=decide_eq_false c49
                    clear c49
                    by_cases c59:0≤x14_5
                    ·rw [if_pos c59] at H
                     have c59b0:decide (0≤x14_5)=true:=decide_eq_true c59
                     clear c59
                     by_cases c60:x14_5<(x8_2.length:Int)
                     ·rw [if_pos c60] at H
                      have c60b0:decide (x14_5<(x8_2.length:Int))=true:=decide_eq_true c60
                      clear c60
                      have H':=Aside0.mk H
                      clear H
                      have hcz61_0:wr.cell? ⟨gb372,0,none⟩=some (.int .i64 A8):=(AK BK372.out 0).trans rfl
                      have hcz61_1:wr.cell? ⟨gb372,1,none⟩=some (.slice A0_1 l0_1.length c0_1):=(AK BK372.out 1).trans rfl
                      have hfz61_0:=AJ BK372.out 0
                      have hfz61_1:=AJ BK372.out 1
                      obtain ⟨Ao62,co62,eo62⟩:=Kd.R_slice HO_8.out
                      subst eo62
                      have p395:0≤(x14_5:Int):=of_decide_eq_true zA
                      have q395:x14_5<(x8_2.length:Int):=of_decide_eq_true zA
                      obtain ⟨ad395,e395,hx395_0⟩:=Kd.at_int (Kd.R_reads' HO_8.out).2.2 x14_5 p395 q395
                      cases e395
                      replace p395:=eq_true p395
                      replace q395:=eq_true q395
                      go_wp2
                      repeat (go_quiet (fail); try go_wp2)
                      go_loopg [16,17] k5 (fun kq v16 v17 w'=>∃(x16_6:Int) (x17_6:Int),v16= .int .i64 x16_6∧v17= .int .i64 x17_6∧Aside0 (AS.l4 kq l1 x6_2 x7_2 x8_2 x9_2 x10_3 x14_5 x16_6 x17_6 A8 l0_1=some (r1,r2))∧Aside0 (kq≤k5)∧Aside0 (Kd.R k54 54 w' w.heap.size (fun _=>True) v376 x6_2)∧Aside0 (Kd.R Kd.bool 4 w' w.heap.size (fun _=>True) v379 x7_2)∧Aside0 (Kd.R (Kd.int .i64) 3 w' w.heap.size (fun _=>True) (.slice (some ad395) x8_2.length co62) x8_2)∧Aside0 (w'.heap[gb372]? =some (.cells #[.int .i64 A8,(.slice A0_1 l0_1.length c0_1)] 24 (0,0)))∧Aside0 (Below w.heap.size w w'))
                      case atStart=>exact ⟨(rd x8_2 x14_5),(0),zF,zF,H',⟨Nat.le_refl _⟩,⟨by (with_reducible repeat (first|apply Kd.R_alloc|apply Kd.R_drewN|apply Kd.R_drew)); exact HO_6.out⟩,⟨by (with_reducible repeat (first|apply Kd.R_alloc|apply Kd.R_drewN|apply Kd.R_drew)); exact HO_7.out⟩,⟨by (with_reducible repeat (first|apply Kd.R_alloc|apply Kd.R_drewN|apply Kd.R_drew)); exact HO_8.out⟩,⟨by (with_reducible repeat (first|refine AF ?_ _|refine AH ?_|refine AG ?_ _)); exact BK372.out⟩,⟨by repeat (first|(with_reducible first|exact HB.out|apply AE|apply AC|apply AD|refine AI ?_ GE372.out)|exact HB.out)⟩⟩
                      case round=>
                       clear H'
                       try clear c1
                       try clear c2
                       try clear p2
                       try clear c3
                       try clear p3
                       try clear q3
                       try clear hx3
                       try clear c4
                       try clear c5
                       try clear c6
                       try clear p6
                       try clear c13
                       try clear c14
                       try clear c14b0
                       try clear c14b1
                       try clear c15
                       try clear c15b0
                       try clear c15b1
                       try clear c16
                       try clear c16b0
                       try clear c16b1
                       try clear c17
                       try clear c17b0
                       try clear c17b1
                       try clear c18
                       try clear c18b0
                       try clear c18b1
                       try clear c21
                       try clear c26
                       try clear c26b0
                       try clear c28
                       try clear c28b0
                       try clear c29
                       try clear c30
                       try clear c30b0
                       try clear c31
                       try clear c31b0
                       try clear c32
                       try clear c32b0
                       try clear c33
                       try clear c33b0
                       try clear c35
                       try clear c35b0
                       try clear c36
                       try clear c36b0
                       try clear c37
                       try clear c37b0
                       try clear c38
                       try clear c38b0
                       try clear p38
                       try clear q38
                       try clear hx38
                       try clear c39
                       try clear c39b0
                       try clear p39
                       try clear q39
                       try clear hx39
                       try clear c40
                       try clear c41
                       try clear c41b0
                       try clear c42
                       try clear c42b0
                       try clear c43
                       try clear c43b0
                       try clear c46
                       try clear c49
                       try clear c49b0
                       try clear c50
                       try clear c50b0
                       try clear c51
                       try clear c51b0
                       try clear c52
                       try clear c52b0
                       try clear c53
                       try clear c53b0
                       try clear c54
                       try clear c54b0
                       try clear c59
                       try clear c59b0
                       try clear c60
                       try clear c60b0
                       try clear hcz10_0
                       try clear hcz10_1
                       try clear hcz11_0
                       try clear hcz11_1
                       try clear hcz23_0
                       try clear hcz23_1
                       try clear hcz44_0
                       try clear hcz44_1
                       try clear hcz45_0
                       try clear hcz45_1
                       try clear hcz47_0
                       try clear hcz47_1
                       try clear hcz48_0
                       try clear hcz48_1
                       try clear hcz55_0
                       try clear hcz55_1
                       try clear hcz57_0
                       try clear hcz57_1
                       try clear hcz61_0
                       try clear hcz61_1
                       try clear hcz8_0
                       try clear hcz8_1
                       try clear hfz10_0
                       try clear hfz10_1
                       try clear hfz11_0
                       try clear hfz11_1
                       try clear hfz23_0
                       try clear hfz23_1
                       try clear hfz44_0
                       try clear hfz44_1
                       try clear hfz45_0
                       try clear hfz45_1
                       try clear hfz47_0
                       try clear hfz47_1
                       try clear hfz48_0
                       try clear hfz48_1
                       try clear hfz55_0
                       try clear hfz55_1
                       try clear hfz57_0
                       try clear hfz57_1
                       try clear hfz61_0
                       try clear hfz61_1
                       try clear hfz8_0
                       try clear hfz8_1
                       try clear hx384_0
                       try clear hx385_0
                       try clear hx386_0
                       try clear hx387_0
                       try clear hx387_1
                       try clear hx387_2
                       try clear hx387_3
                       try clear hx388_0
                       try clear hx389_0
                       try clear hx389_1
                       try clear hx389_2
                       try clear hx389_3
                       try clear hx390_0
                       try clear hx391_0
                       try clear hx392_0
                       try clear hx393_0
                       try clear hx394_0
                       try clear hx395_0
                       try clear p2
                       try clear p3
                       try clear p38
                       try clear p384
                       try clear p385
                       try clear p386
                       try clear p387
                       try clear p388
                       try clear p389
                       try clear p39
                       try clear p390
                       try clear p391
                       try clear p392
                       try clear p393
                       try clear p394
                       try clear p395
                       try clear p6
                       try clear q3
                       try clear q38
                       try clear q384
                       try clear q385
                       try clear q386
                       try clear q387
                       try clear q388
                       try clear q389
                       try clear q39
                       try clear q390
                       try clear q391
                       try clear q392
                       try clear q393
                       try clear q394
                       try clear q395
                       obtain ⟨x16_6,x17_6,rfl,rfl,HA,HK6,HO_6,HO_7,HO_8,BK372,HB⟩:=hrel
                       cases gk with
                       |zero=>exact absurd HA.out (by simp [AS.l4])
                       | succ k6 =>
                        have H:=HA.out
                        clear HA
                        simp only [AS.l4] at H
                        by_cases c63:0≤x10_3
                        ·rw [if_pos c63] at H
                         have c63b0:decide (0≤x10_3)=true:=decide_eq_true c63
                         clear c63
                         by_cases c64:x10_3<(l0_1.length:Int)
                         ·rw [if_pos c64] at H
                          have c64b0:decide (x10_3<(l0_1.length:Int))=true:=decide_eq_true c64
                          clear c64
                          by_cases c65:x17_6<(((AL l0_1 x10_3).f3).length:Int)
                          ·rw [if_pos c65] at H
                           have c65b0:decide (x17_6<(((AL l0_1 x10_3).f3).length:Int))=true:=decide_eq_true c65
                           clear c65
                           by_cases c66:0≤x17_6
                           ·rw [if_pos c66] at H
                            have c66b0:decide (0≤x17_6)=true:=decide_eq_true c66
                            clear c66
                            by_cases c67:0≤(rd ((AL l0_1 x10_3).f3) x17_6)
                            ·rw [if_pos c67] at H
                             have c67b0:decide (0≤(rd ((AL l0_1 x10_3).f3) x17_6))=true:=decide_eq_true c67
                             clear c67
                             by_cases c68:(rd ((AL l0_1 x10_3).f3) x17_6)<(x6_2.length:Int)
                             ·rw [if_pos c68] at H
                              have c68b0:decide ((rd ((AL l0_1 x10_3).f3) x17_6)<(x6_2.length:Int))=true:=decide_eq_true c68
                              clear c68
                              by_cases c69:(rd ((AL l0_1 x10_3).f3) x17_6)<(l0_1.length:Int)
                              ·rw [if_pos c69] at H
                               have c69b0:decide ((rd ((AL l0_1 x10_3).f3) x17_6)<(l0_1.length:Int))=true:=decide_eq_true c69
                               clear c69
                               obtain ⟨ji70,hji70⟩:∃j_:Int,(mx x16_6 (wrap64 (((BB x6_2 (rd ((AL l0_1 x10_3).f3) x17_6)).f1)+((AL l0_1 (rd ((AL l0_1 x10_3).f3) x17_6)).f1))))=j_:=⟨_,rfl⟩
                               replace H:(AS.l4 k6 l1 x6_2 x7_2 x8_2 x9_2 x10_3 x14_5 ji70 (wrap64 (x17_6+1)) A8 l0_1)=some (r1,r2):=by first|(rw [hji70] at H; exact H)|(simp only [hji70] at H ⊢; exact H)
                               have hji70_:(if x16_6<(wrap64 (((BB x6_2 (rd ((AL l0_1 x10_3).f3) x17_6)).f1)+((AL l0_1 (rd ((AL l0_1 x10_3).f3) x17_6)).f1))) then (wrap64 (((BB x6_2 (rd ((AL l0_1 x10_3).f3) x17_6)).f1)+((AL l0_1 (rd ((AL l0_1 x10_3).f3) x17_6)).f1))) else x16_6)=ji70:=hji70
                               have H':=Aside0.mk H
                               clear H
                               have hcz71_0:wr.cell? ⟨gb372,0,none⟩=some (.int .i64 A8):=(AK BK372.out 0).trans rfl
                               have hcz71_1:wr.cell? ⟨gb372,1,none⟩=some (.slice A0_1 l0_1.length c0_1):=(AK BK372.out 1).trans rfl
                               have hfz71_0:=AJ BK372.out 0
                               have hfz71_1:=AJ BK372.out 1
                               have p396:0≤(x10_3:Int):=of_decide_eq_true zA
                               have q396:x10_3<(l0_1.length:Int):=of_decide_eq_true zA
                               obtain ⟨ad396,A396_3,c396_3,e396,hx396_0,hx396_1,hx396_2,hx396_3,hl396_3,hi396_3⟩:=BR HR0_1.out x10_3 p396 q396
                               cases e396
                               replace hx396_0:=(HB.out.cell (World.block_lt_of_cell? w _ hx396_0)).trans hx396_0
                               replace hx396_1:=(HB.out.cell (World.block_lt_of_cell? w _ hx396_1)).trans hx396_1
                               replace hx396_2:=(HB.out.cell (World.block_lt_of_cell? w _ hx396_2)).trans hx396_2
                               replace hx396_3:=(HB.out.cell (World.block_lt_of_cell? w _ hx396_3)).trans hx396_3
                               have HR396_3:=Aside0.mk hi396_3
                               have HC396_3:=Aside0.mk hl396_3
                               clear hi396_3 hl396_3
                               replace p396:=eq_true p396
                               replace q396:=eq_true q396
                               have p397:0≤(x10_3:Int):=of_decide_eq_true zA
                               have q397:x10_3<(l0_1.length:Int):=of_decide_eq_true zA
                               obtain ⟨ad397,A397_3,c397_3,e397,hx397_0,hx397_1,hx397_2,hx397_3,hl397_3,hi397_3⟩:=BR HR0_1.out x10_3 p397 q397
                               obtain rfl:ad396=ad397:=(by injection e397)
                               replace hx397_0:=(HB.out.cell (World.block_lt_of_cell? w _ hx397_0)).trans hx397_0
                               replace hx397_1:=(HB.out.cell (World.block_lt_of_cell? w _ hx397_1)).trans hx397_1
                               replace hx397_2:=(HB.out.cell (World.block_lt_of_cell? w _ hx397_2)).trans hx397_2
                               replace hx397_3:=(HB.out.cell (World.block_lt_of_cell? w _ hx397_3)).trans hx397_3
                               have HR397_3:=Aside0.mk hi397_3
                               have HC397_3:=Aside0.mk hl397_3
                               clear hi397_3 hl397_3
                               replace p397:=eq_true p397
                               replace q397:=eq_true q397
                               have ea_:=Option.some.inj (hx396_3.symm.trans hx397_3)
                               injection ea_ with ea_ en_ ec_
                               subst ea_
                               subst ec_
                               clear en_
                               have p398:0≤(x17_6:Int):=of_decide_eq_true zA
                               have q398:x17_6<(((AL l0_1 x10_3).f3).length:Int):=of_decide_eq_true zA
                               obtain ⟨ad398,e398,hx398_0⟩:=Kd.at_int HR397_3.out x17_6 p398 q398
                               cases e398
                               replace hx398_0:=(HB.out.cell (World.block_lt_of_cell? w _ hx398_0)).trans hx398_0
                               replace p398:=eq_true p398
                               replace q398:=eq_true q398
                               obtain ⟨Ao72,co72,eo72⟩:=Kd.R_slice HO_6.out
                               subst eo72
                               have p399:0≤((rd ((AL l0_1 x10_3).f3) x17_6):Int):=of_decide_eq_true zA
                               have q399:(rd ((AL l0_1 x10_3).f3) x17_6)<(x6_2.length:Int):=of_decide_eq_true zA
                               obtain ⟨ad399,e399,hx399_0,hx399_1⟩:=BN (Kd.R_reads' HO_6.out).2.2 (rd ((AL l0_1 x10_3).f3) x17_6) p399 q399
                               cases e399
                               replace p399:=eq_true p399
                               replace q399:=eq_true q399
                               have p400:0≤((rd ((AL l0_1 x10_3).f3) x17_6):Int):=of_decide_eq_true zA
                               have q400:(rd ((AL l0_1 x10_3).f3) x17_6)<(l0_1.length:Int):=of_decide_eq_true zA
                               obtain ⟨ad400,A400_3,c400_3,e400,hx400_0,hx400_1,hx400_2,hx400_3,hl400_3,hi400_3⟩:=BR HR0_1.out (rd ((AL l0_1 x10_3).f3) x17_6) p400 q400
                               obtain rfl:ad396=ad400:=(by injection e400)
                               replace hx400_0:=(HB.out.cell (World.block_lt_of_cell? w _ hx400_0)).trans hx400_0
                               replace hx400_1:=(HB.out.cell (World.block_lt_of_cell? w _ hx400_1)).trans hx400_1
                               replace hx400_2:=(HB.out.cell (World.block_lt_of_cell? w _ hx400_2)).trans hx400_2
                               replace hx400_3:=(HB.out.cell (World.block_lt_of_cell? w _ hx400_3)).trans hx400_3
                               have HR400_3:=Aside0.mk hi400_3
                               have HC400_3:=Aside0.mk hl400_3
                               clear hi400_3 hl400_3
                               replace p400:=eq_true p400
                               replace q400:=eq_true q400
                               go_wp2
                               repeat (go_quiet (fail); try go_wp2)
                               go_roundg k6
                               case measure=>have:=HJ2.out; have:=HK2.out; have:=HK3.out; have:=HJ26.out; have:=HK5.out; have:=HK6.out; omega
                               case rel=>exact ⟨(ji70),(wrap64 (x17_6+1)),(by first|rfl|(simp; done)|(simp only [←hji70]<;>(first|rfl|simp))|(simp [*]; done)),zF,H',⟨by have:=HJ2.out; have:=HK2.out; have:=HK3.out; have:=HJ26.out; have:=HK5.out; have:=HK6.out; omega⟩,⟨by (with_reducible repeat (first|apply Kd.R_alloc|apply Kd.R_drewN|apply Kd.R_drew)); exact HO_6.out⟩,⟨by (with_reducible repeat (first|apply Kd.R_alloc|apply Kd.R_drewN|apply Kd.R_drew)); exact HO_7.out⟩,⟨by (with_reducible repeat (first|apply Kd.R_alloc|apply Kd.R_drewN|apply Kd.R_drew)); exact HO_8.out⟩,⟨by (with_reducible repeat (first|refine AF ?_ _|refine AH ?_|refine AG ?_ _)); exact BK372.out⟩,⟨by repeat (first|(with_reducible first|exact HB.out|apply AE|apply AC|apply AD|refine AI ?_ GE372.out)|exact HB.out)⟩⟩
                              ·rw [if_neg c69] at H
                               exact absurd H zY
                             ·rw [if_neg c68] at H
                              exact absurd H zY
                            ·rw [if_neg c67] at H
                             exact absurd H zY
                           ·rw [if_neg c66] at H
                            exact absurd H zY
                          ·rw [if_neg c65] at H
                           have c65b0:decide (x17_6<(((AL l0_1 x10_3).f3).length:Int))=false:=decide_eq_false c65
                           clear c65
                           by_cases c73:x10_3<(x6_2.length:Int)
                           ·rw [if_pos c73] at H
                            have c73b0:decide (x10_3<(x6_2.length:Int))=true:=decide_eq_true c73
                            clear c73
                            obtain ⟨y401,hy401⟩:∃y_:List (S54),y_=(x6_2.set (x10_3:Int).toNat (⟨x14_5,x16_6⟩:S54)):=⟨_,rfl⟩
                            replace H:(if x10_3<(x7_2.length:Int) then (if 0≤x14_5 then (if x14_5<(x8_2.length:Int) then (AS.l0 k6 l1 y401 (x7_2.set (x10_3:Int).toNat true) (x8_2.set (x14_5:Int).toNat (wrap64 (x16_6+((AL l0_1 x10_3).f1)))) (wrap64 (x9_2+1)) A8 l0_1) else (none)) else (none)) else (none))=some (r1,r2):=by first|(rw [hy401]; with_reducible exact H)|(have H2_:=(Option.bind_some _ _).symm.trans H; rw [hy401]; with_reducible exact H2_)|(have H2_:=(Option.bind_some _ _).symm.trans H; with_reducible exact H2_)|with_reducible exact H|(rw [hy401]; exact H)|exact H
                            have Ny401:=Aside0.mk hy401
                            clear hy401
                            by_cases c75:x10_3<(x7_2.length:Int)
                            ·rw [if_pos c75] at H
                             have c75b0:decide (x10_3<(x7_2.length:Int))=true:=decide_eq_true c75
                             clear c75
                             obtain ⟨y402,hy402⟩:∃y_:List Bool,y_=(x7_2.set (x10_3:Int).toNat true):=⟨_,rfl⟩
                             replace H:(if 0≤x14_5 then (if x14_5<(x8_2.length:Int) then (AS.l0 k6 l1 y401 y402 (x8_2.set (x14_5:Int).toNat (wrap64 (x16_6+((AL l0_1 x10_3).f1)))) (wrap64 (x9_2+1)) A8 l0_1) else (none)) else (none))=some (r1,r2):=by first|(rw [hy402]; with_reducible exact H)|(have H2_:=(Option.bind_some _ _).symm.trans H; rw [hy402]; with_reducible exact H2_)|(have H2_:=(Option.bind_some _ _).symm.trans H; with_reducible exact H2_)|with_reducible exact H|(rw [hy402]; exact H)|exact H
                             have Ny402:=Aside0.mk hy402
                             clear hy402
                             by_cases c77:0≤x14_5
                             ·rw [if_pos c77] at H
                              have c77b0:decide (0≤x14_5)=true:=decide_eq_true c77
                              clear c77
                              by_cases c78:x14_5<(x8_2.length:Int)
                              ·rw [if_pos c78] at H
                               have c78b0:decide (x14_5<(x8_2.length:Int))=true:=decide_eq_true c78
                               clear c78
                               obtain ⟨y404,hy404⟩:∃y_:List Int,y_=(x8_2.set (x14_5:Int).toNat (wrap64 (x16_6+((AL l0_1 x10_3).f1)))):=⟨_,rfl⟩
                               replace H:(AS.l0 k6 l1 y401 y402 y404 (wrap64 (x9_2+1)) A8 l0_1)=some (r1,r2):=by first|(rw [hy404]; with_reducible exact H)|(have H2_:=(Option.bind_some _ _).symm.trans H; rw [hy404]; with_reducible exact H2_)|(have H2_:=(Option.bind_some _ _).symm.trans H; with_reducible exact H2_)|with_reducible exact H|(rw [hy404]; exact H)|exact H
                               have Ny404:=Aside0.mk hy404
                               clear hy404
                               have H':=Aside0.mk H
                               clear H
                               have hcz80_0:wr.cell? ⟨gb372,0,none⟩=some (.int .i64 A8):=(AK BK372.out 0).trans rfl
                               have hcz80_1:wr.cell? ⟨gb372,1,none⟩=some (.slice A0_1 l0_1.length c0_1):=(AK BK372.out 1).trans rfl
                               have hfz80_0:=AJ BK372.out 0
                               have hfz80_1:=AJ BK372.out 1
                               have p396:0≤(x10_3:Int):=of_decide_eq_true zA
                               have q396:x10_3<(l0_1.length:Int):=of_decide_eq_true zA
                               obtain ⟨ad396,A396_3,c396_3,e396,hx396_0,hx396_1,hx396_2,hx396_3,hl396_3,hi396_3⟩:=BR HR0_1.out x10_3 p396 q396
                               cases e396
                               replace hx396_0:=(HB.out.cell (World.block_lt_of_cell? w _ hx396_0)).trans hx396_0
                               replace hx396_1:=(HB.out.cell (World.block_lt_of_cell? w _ hx396_1)).trans hx396_1
                               replace hx396_2:=(HB.out.cell (World.block_lt_of_cell? w _ hx396_2)).trans hx396_2
                               replace hx396_3:=(HB.out.cell (World.block_lt_of_cell? w _ hx396_3)).trans hx396_3
                               have HR396_3:=Aside0.mk hi396_3
                               have HC396_3:=Aside0.mk hl396_3
                               clear hi396_3 hl396_3
                               replace p396:=eq_true p396
                               replace q396:=eq_true q396
                               have p74:0≤(x10_3:Int):=of_decide_eq_true zA
                               have q74:(x10_3:Int)<((x6_2.length:Int):Int):=of_decide_eq_true zA
                               obtain ⟨go74,co74,eo74,gb74,gl74,cl74,HG74⟩:=Kd.R_form HO_6.out zG
                               (first|cases eo74|(injection eo74 with ea_ en_ ec_; (first|subst ea_|(injection ea_ with ea_; subst ea_)); subst ec_; clear en_))
                               have GB74:=Aside0.mk gb74
                               have GG74:=Aside0.mk HG74
                               clear gb74 gl74 HG74
                               obtain ⟨ce74,hcl74,hM74,hcc74,hfr74⟩:=Kd.R_elem HO_6.out z54 (x10_3:Int) p74 q74
                               obtain rfl:=CX hM74
                               have hx74_0:wr.cell? ⟨go74,(x10_3:Int).toNat*2,none⟩=some (.int .i64 ((BB x6_2 x10_3).f0)):=hcc74 0 _ rfl
                               have hx74_1:wr.cell? ⟨go74,(x10_3:Int).toNat*2+1,none⟩=some (.int .i64 ((BB x6_2 x10_3).f1)):=hcc74 1 _ rfl
                               have hf74_0:wr.frozen? ⟨go74,(x10_3:Int).toNat*2,none⟩=false:=hfr74 0
                               have hf74_1:wr.frozen? ⟨go74,(x10_3:Int).toNat*2+1,none⟩=false:=hfr74 1
                               clear hcl74 hcc74 hfr74 hM74
                               replace p74:=eq_true p74
                               replace q74:=eq_true q74
                               have HX81:=Aside0.mk (show Kd.R k54 54 wr w.heap.size (fun _=>True) (.slice (some ⟨go74,0,none⟩) x6_2.length co74) x6_2 from zA4)
                               obtain ⟨ce81,hcl81,hM81,hcc81,hfr81⟩:=Kd.R_elem HX81.out z54 (x10_3:Int) (of_decide_eq_true zA) (by have h_:(x10_3:Int)<((x6_2.length:Int):Int):=of_decide_eq_true zA; first|exact h_|(have e_:=(Kd.R_reads' HO_6.out).1; omega)|simpa using h_)
                               obtain rfl:=CX hM81
                               have HP81:=Kd.R_seg HX81.out (x10_3:Int) (of_decide_eq_true zA) (by have h_:(x10_3:Int)<((x6_2.length:Int):Int):=of_decide_eq_true zA; first|exact h_|(have e_:=(Kd.R_reads' HO_6.out).1; omega)|simpa using h_) (seg:=[.int .i64 x14_5,.int .i64 x16_6]) (j:=0) hcl81 hcc81 (show 2≤2 from by decide) (x':=(⟨x14_5,x16_6⟩:S54)) (Cb _ _ _ (⟨x14_5,x16_6⟩:S54)) (fun _ hk=>hk)
                               have hx81_0:=hcc81 0 _ rfl
                               (try simp only [show (k54).sz=2 from rfl,Nat.mul_one,Nat.add_zero] at hx81_0)
                               have hf81_0:=hfr81 0
                               (try simp only [show (k54).sz=2 from rfl,Nat.mul_one,Nat.add_zero] at hf81_0)
                               have hx81_1:=hcc81 1 _ rfl
                               (try simp only [show (k54).sz=2 from rfl,Nat.mul_one,Nat.add_zero] at hx81_1)
                               have hf81_1:=hfr81 1
                               (try simp only [show (k54).sz=2 from rfl,Nat.mul_one,Nat.add_zero] at hf81_1)
                               clear hcl81 hcc81 hfr81 hM81
                               go_wp2_with (first|((with_reducible refine BW (t:=54) (p:=161) rfl ?_); (try (rw [Bs wr]; generalize hq_:World.drewN wr _=wr; have n0_:=Aside0.mk (Kd.R_at hq_ HO_6.out); have n1_:=Aside0.mk (Kd.R_at hq_ HO_7.out); have n2_:=Aside0.mk (Kd.R_at hq_ HO_8.out); have n3_:=Aside0.mk (Cc hq_ BK372.out); have n4_:=Aside0.mk (C8 hq_ HB.out); clear hq_ HO_6 HO_7 HO_8 BK372 HB; have HO_6:=n0_; have HO_7:=n1_; have HO_8:=n2_; have BK372:=n3_; have HB:=n4_; clear n0_ n1_ n2_ n3_ n4_; (try (have HX81:=Aside0.mk (show Kd.R k54 54 wr w.heap.size (fun _=>True) (.slice (some ⟨go74,0,none⟩) x6_2.length co74) x6_2 from zA4))); (try (obtain ⟨ce81,hcl81,hM81,hcc81,hfr81⟩:=Kd.R_elem HX81.out z54 (x10_3:Int) (of_decide_eq_true zA) (by have h_:(x10_3:Int)<((x6_2.length:Int):Int):=of_decide_eq_true zA; first|exact h_|(have e_:=(Kd.R_reads' HO_6.out).1; omega)|simpa using h_))); (try (obtain rfl:=CX hM81)); (try (have HP81:=Kd.R_seg HX81.out (x10_3:Int) (of_decide_eq_true zA) (by have h_:(x10_3:Int)<((x6_2.length:Int):Int):=of_decide_eq_true zA; first|exact h_|(have e_:=(Kd.R_reads' HO_6.out).1; omega)|simpa using h_) (seg:=[.int .i64 x14_5,.int .i64 x16_6]) (j:=0) hcl81 hcc81 (show 2≤2 from by decide) (x':=(⟨x14_5,x16_6⟩:S54)) (Cb _ _ _ (⟨x14_5,x16_6⟩:S54)) (fun _ hk=>hk))); (try (have hx81_0:=hcc81 0 _ rfl)); (try (try simp only [show (k54).sz=2 from rfl,Nat.mul_one,Nat.add_zero] at hx81_0)); (try (have hf81_0:=hfr81 0)); (try (try simp only [show (k54).sz=2 from rfl,Nat.mul_one,Nat.add_zero] at hf81_0)); (try (have hx81_1:=hcc81 1 _ rfl)); (try (try simp only [show (k54).sz=2 from rfl,Nat.mul_one,Nat.add_zero] at hx81_1)); (try (have hf81_1:=hfr81 1)); (try (try simp only [show (k54).sz=2 from rfl,Nat.mul_one,Nat.add_zero] at hf81_1)); (try (clear hcl81 hcc81 hfr81 hM81)))); refine BV (t:=54) (p:=161) (v:= ?vo_w82) (w1:=((wr.setCell ⟨go74,(x10_3:Int).toNat*2,none⟩ (.int .i64 x14_5)).setCell ⟨go74,(x10_3:Int).toNat*2+1,none⟩ (.int .i64 x16_6))) ?hg ?ho ?hn ?hr ?_; (case ho=>rfl); (case hg=>rfl); (case hn=>rfl); (case hr=>first|(go_simp; done)|(go_simp; rfl)); intro w82 hw; have hg:wr.grownBy w82 (some go74):=(by rw [hw]; exact HP81.2); have hp_:Kd.R k54 54 w82 w.heap.size (fun _=>True) (.slice (some ⟨go74,0,none⟩) x6_2.length co74) y401:=(by rw [hw,Ny401.out]; exact HP81.1); clear HP81; have n0_:=Aside0.mk (hp_); have n1_:=Aside0.mk (Kd.R_over' (v:=(.slice (some ⟨go74,0,none⟩) x6_2.length co74)) zA3 (Kd.R_typed HO_6.out) zZ hg); have n2_:=Aside0.mk (Kd.R_over' (v:=(.slice (some ⟨go74,0,none⟩) x6_2.length co74)) zC6 (Kd.R_typed HO_6.out) zZ hg); have n3_:=Aside0.mk (BP (g:=gb372) (o:= .cells #[.int .i64 A8,.slice (some ad396) l0_1.length c0_1] 24 (0,0)) zN hg (Kd.R_ne HO_6.out BK372.out zZ)); have n4_:=Aside0.mk ((by rw [hw]; exact AI (AI (HB.out) GB74.out) GB74.out:Below w.heap.size w w82)); clear HO_6; clear HO_7; clear HO_8; clear BK372; clear HB; have HO_6:=n0_; have HO_7:=n1_; have HO_8:=n2_; have BK372:=n3_; have HB:=n4_; clear n0_ n1_ n2_ n3_ n4_; clear hg hw hp_; have p76:0≤(x10_3:Int):=of_decide_eq_true zA; have q76:(x10_3:Int)<((x7_2.length:Int):Int):=of_decide_eq_true zA; obtain ⟨go76,co76,eo76,gb76,gl76,cl76,HG76⟩:=Kd.R_form HO_7.out zG; (first|cases eo76|(injection eo76 with ea_ en_ ec_; (first|subst ea_|(injection ea_ with ea_; subst ea_)); subst ec_; clear en_)); have GB76:=Aside0.mk gb76; have GG76:=Aside0.mk HG76; clear gb76 gl76 HG76; obtain ⟨hx76_0,hf76_0⟩:=Kd.R_celln false HO_7.out (x10_3:Int) p76 q76; replace p76:=eq_true p76; replace q76:=eq_true q76; obtain ⟨hy83_,hz83_⟩:=Kd.R_celln false HO_7.out (x10_3:Int) (of_decide_eq_true zA) (of_decide_eq_true zA); have HP83:=Kd.R_putg HO_7.out (x10_3:Int) true)|((with_reducible refine BW (t:=4) (p:=162) rfl ?_); (try (rw [Bs w82]; generalize hq_:World.drewN w82 _=w82; have n0_:=Aside0.mk (Kd.R_at hq_ HO_6.out); have n1_:=Aside0.mk (Kd.R_at hq_ HO_7.out); have n2_:=Aside0.mk (Kd.R_at hq_ HO_8.out); have n3_:=Aside0.mk (Cc hq_ BK372.out); have n4_:=Aside0.mk (C8 hq_ HB.out); clear hq_ HO_6 HO_7 HO_8 BK372 HB; have HO_6:=n0_; have HO_7:=n1_; have HO_8:=n2_; have BK372:=n3_; have HB:=n4_; clear n0_ n1_ n2_ n3_ n4_; (try (obtain ⟨hy83_,hz83_⟩:=Kd.R_celln false HO_7.out (x10_3:Int) (of_decide_eq_true zA) (of_decide_eq_true zA))); (try (have HP83:=Kd.R_putg HO_7.out (x10_3:Int) true)))); refine BV (t:=4) (p:=162) (v:= ?vo_w84) (w1:=(w82.setCell ⟨go76,(x10_3:Int).toNat,none⟩ (.bool true))) ?hg ?ho ?hn ?hr ?_; (case ho=>rfl); (case hg=>rfl); (case hn=>rfl); (case hr=>first|(go_simp; done)|(go_simp; rfl)); intro w84 hw; have hg:w82.grownBy w84 (some go76):=(by rw [hw]; exact HP83.2); have hp_:Kd.R Kd.bool 4 w84 w.heap.size (fun _=>True) (.slice (some ⟨go76,0,none⟩) x7_2.length co76) y402:=(by rw [hw,Ny402.out]; exact HP83.1); clear HP83; have n0_:=Aside0.mk (Kd.R_over' (v:=(.slice (some ⟨go76,0,none⟩) x7_2.length co76)) zA4 (Kd.R_typed HO_7.out) zZ hg); have n1_:=Aside0.mk (hp_); have n2_:=Aside0.mk (Kd.R_over' (v:=(.slice (some ⟨go76,0,none⟩) x7_2.length co76)) zC6 (Kd.R_typed HO_7.out) zZ hg); have n3_:=Aside0.mk (BP (g:=gb372) (o:= .cells #[.int .i64 A8,.slice (some ad396) l0_1.length c0_1] 24 (0,0)) zN hg (Kd.R_ne HO_7.out BK372.out zZ)); have n4_:=Aside0.mk ((by rw [hw]; exact AI (HB.out) GB76.out:Below w.heap.size w w84)); clear HO_6; clear HO_7; clear HO_8; clear BK372; clear HB; have HO_6:=n0_; have HO_7:=n1_; have HO_8:=n2_; have BK372:=n3_; have HB:=n4_; clear n0_ n1_ n2_ n3_ n4_; clear hg hw hp_; have hcz85_0:w84.cell? ⟨gb372,0,none⟩=some (.int .i64 A8):=(AK BK372.out 0).trans rfl; have hcz85_1:w84.cell? ⟨gb372,1,none⟩=some (.slice (some ad396) l0_1.length c0_1):=(AK BK372.out 1).trans rfl; have hfz85_0:=AJ BK372.out 0; have hfz85_1:=AJ BK372.out 1; have p403:0≤(x10_3:Int):=of_decide_eq_true zA; have q403:x10_3<(l0_1.length:Int):=of_decide_eq_true zA; obtain ⟨ad403,A403_3,c403_3,e403,hx403_0,hx403_1,hx403_2,hx403_3,hl403_3,hi403_3⟩:=BR HR0_1.out x10_3 p403 q403; obtain rfl:ad396=ad403:=(by injection e403); replace hx403_0:=(HB.out.cell (World.block_lt_of_cell? w _ hx403_0)).trans hx403_0; replace hx403_1:=(HB.out.cell (World.block_lt_of_cell? w _ hx403_1)).trans hx403_1; replace hx403_2:=(HB.out.cell (World.block_lt_of_cell? w _ hx403_2)).trans hx403_2; replace hx403_3:=(HB.out.cell (World.block_lt_of_cell? w _ hx403_3)).trans hx403_3; have HR403_3:=Aside0.mk hi403_3; have HC403_3:=Aside0.mk hl403_3; clear hi403_3 hl403_3; replace p403:=eq_true p403; replace q403:=eq_true q403; have p79:0≤(x14_5:Int):=of_decide_eq_true zA; have q79:(x14_5:Int)<((x8_2.length:Int):Int):=of_decide_eq_true zA; obtain ⟨go79,co79,eo79,gb79,gl79,cl79,HG79⟩:=Kd.R_form HO_8.out zG; (first|cases eo79|(injection eo79 with ea_ en_ ec_; (first|subst ea_|(injection ea_ with ea_; subst ea_)); subst ec_; clear en_)); have GB79:=Aside0.mk gb79; have GG79:=Aside0.mk HG79; clear gb79 gl79 HG79; (first|simp only [C3] at hx395_0|skip); obtain ⟨hx79_0,hf79_0⟩:=Kd.R_celln 0 HO_8.out (x14_5:Int) p79 q79; replace p79:=eq_true p79; replace q79:=eq_true q79; obtain ⟨hy86_,hz86_⟩:=Kd.R_celln 0 HO_8.out (x14_5:Int) (of_decide_eq_true zA) (of_decide_eq_true zA); have HP86:=Kd.R_putg HO_8.out (x14_5:Int) (wrap64 (x16_6+((AL l0_1 x10_3).f1))))|((with_reducible refine BW (t:=3) (p:=173) rfl ?_); (try (rw [Bs w84]; generalize hq_:World.drewN w84 _=w84; have n0_:=Aside0.mk (Kd.R_at hq_ HO_6.out); have n1_:=Aside0.mk (Kd.R_at hq_ HO_7.out); have n2_:=Aside0.mk (Kd.R_at hq_ HO_8.out); have n3_:=Aside0.mk (Cc hq_ BK372.out); have n4_:=Aside0.mk (C8 hq_ HB.out); clear hq_ HO_6 HO_7 HO_8 BK372 HB; have HO_6:=n0_; have HO_7:=n1_; have HO_8:=n2_; have BK372:=n3_; have HB:=n4_; clear n0_ n1_ n2_ n3_ n4_; (try (obtain ⟨hy86_,hz86_⟩:=Kd.R_celln 0 HO_8.out (x14_5:Int) (of_decide_eq_true zA) (of_decide_eq_true zA))); (try (have HP86:=Kd.R_putg HO_8.out (x14_5:Int) (wrap64 (x16_6+((AL l0_1 x10_3).f1))))))); refine BV (t:=3) (p:=173) (v:= ?vo_w87) (w1:=(w84.setCell ⟨go79,(x14_5:Int).toNat,none⟩ (.int .i64 (wrap64 (x16_6+((AL l0_1 x10_3).f1)))))) ?hg ?ho ?hn ?hr ?_; (case ho=>rfl); (case hg=>rfl); (case hn=>rfl); (case hr=>first|(go_simp; done)|(go_simp; rfl)); intro w87 hw; have hg:w84.grownBy w87 (some go79):=(by rw [hw]; exact HP86.2); have hp_:Kd.R (Kd.int .i64) 3 w87 w.heap.size (fun _=>True) (.slice (some ⟨go79,0,none⟩) x8_2.length co62) y404:=(by rw [hw,Ny404.out]; exact HP86.1); clear HP86; have n0_:=Aside0.mk (Kd.R_over' (v:=(.slice (some ⟨go79,0,none⟩) x8_2.length co62)) zA4 (Kd.R_typed HO_8.out) zZ hg); have n1_:=Aside0.mk (Kd.R_over' (v:=(.slice (some ⟨go79,0,none⟩) x8_2.length co62)) zA3 (Kd.R_typed HO_8.out) zZ hg); have n2_:=Aside0.mk (hp_); have n3_:=Aside0.mk (BP (g:=gb372) (o:= .cells #[.int .i64 A8,.slice (some ad396) l0_1.length c0_1] 24 (0,0)) zN hg (Kd.R_ne HO_8.out BK372.out zZ)); have n4_:=Aside0.mk ((by rw [hw]; exact AI (HB.out) GB79.out:Below w.heap.size w w87)); clear HO_6; clear HO_7; clear HO_8; clear BK372; clear HB; have HO_6:=n0_; have HO_7:=n1_; have HO_8:=n2_; have BK372:=n3_; have HB:=n4_; clear n0_ n1_ n2_ n3_ n4_; clear hg hw hp_))
                               repeat (go_quiet (first|((with_reducible refine BW (t:=54) (p:=161) rfl ?_); (try (rw [Bs wr]; generalize hq_:World.drewN wr _=wr; have n0_:=Aside0.mk (Kd.R_at hq_ HO_6.out); have n1_:=Aside0.mk (Kd.R_at hq_ HO_7.out); have n2_:=Aside0.mk (Kd.R_at hq_ HO_8.out); have n3_:=Aside0.mk (Cc hq_ BK372.out); have n4_:=Aside0.mk (C8 hq_ HB.out); clear hq_ HO_6 HO_7 HO_8 BK372 HB; have HO_6:=n0_; have HO_7:=n1_; have HO_8:=n2_; have BK372:=n3_; have HB:=n4_; clear n0_ n1_ n2_ n3_ n4_; (try (have HX81:=Aside0.mk (show Kd.R k54 54 wr w.heap.size (fun _=>True) (.slice (some ⟨go74,0,none⟩) x6_2.length co74) x6_2 from zA4))); (try (obtain ⟨ce81,hcl81,hM81,hcc81,hfr81⟩:=Kd.R_elem HX81.out z54 (x10_3:Int) (of_decide_eq_true zA) (by have h_:(x10_3:Int)<((x6_2.length:Int):Int):=of_decide_eq_true zA; first|exact h_|(have e_:=(Kd.R_reads' HO_6.out).1; omega)|simpa using h_))); (try (obtain rfl:=CX hM81)); (try (have HP81:=Kd.R_seg HX81.out (x10_3:Int) (of_decide_eq_true zA) (by have h_:(x10_3:Int)<((x6_2.length:Int):Int):=of_decide_eq_true zA; first|exact h_|(have e_:=(Kd.R_reads' HO_6.out).1; omega)|simpa using h_) (seg:=[.int .i64 x14_5,.int .i64 x16_6]) (j:=0) hcl81 hcc81 (show 2≤2 from by decide) (x':=(⟨x14_5,x16_6⟩:S54)) (Cb _ _ _ (⟨x14_5,x16_6⟩:S54)) (fun _ hk=>hk))); (try (have hx81_0:=hcc81 0 _ rfl)); (try (try simp only [show (k54).sz=2 from rfl,Nat.mul_one,Nat.add_zero] at hx81_0)); (try (have hf81_0:=hfr81 0)); (try (try simp only [show (k54).sz=2 from rfl,Nat.mul_one,Nat.add_zero] at hf81_0)); (try (have hx81_1:=hcc81 1 _ rfl)); (try (try simp only [show (k54).sz=2 from rfl,Nat.mul_one,Nat.add_zero] at hx81_1)); (try (have hf81_1:=hfr81 1)); (try (try simp only [show (k54).sz=2 from rfl,Nat.mul_one,Nat.add_zero] at hf81_1)); (try (clear hcl81 hcc81 hfr81 hM81)))); refine BV (t:=54) (p:=161) (v:= ?vo_w82) (w1:=((wr.setCell ⟨go74,(x10_3:Int).toNat*2,none⟩ (.int .i64 x14_5)).setCell ⟨go74,(x10_3:Int).toNat*2+1,none⟩ (.int .i64 x16_6))) ?hg ?ho ?hn ?hr ?_; (case ho=>rfl); (case hg=>rfl); (case hn=>rfl); (case hr=>first|(go_simp; done)|(go_simp; rfl)); intro w82 hw; have hg:wr.grownBy w82 (some go74):=(by rw [hw]; exact HP81.2); have hp_:Kd.R k54 54 w82 w.heap.size (fun _=>True) (.slice (some ⟨go74,0,none⟩) x6_2.length co74) y401:=(by rw [hw,Ny401.out]; exact HP81.1); clear HP81; have n0_:=Aside0.mk (hp_); have n1_:=Aside0.mk (Kd.R_over' (v:=(.slice (some ⟨go74,0,none⟩) x6_2.length co74)) zA3 (Kd.R_typed HO_6.out) zZ hg); have n2_:=Aside0.mk (Kd.R_over' (v:=(.slice (some ⟨go74,0,none⟩) x6_2.length co74)) zC6 (Kd.R_typed HO_6.out) zZ hg); have n3_:=Aside0.mk (BP (g:=gb372) (o:= .cells #[.int .i64 A8,.slice (some ad396) l0_1.length c0_1] 24 (0,0)) zN hg (Kd.R_ne HO_6.out BK372.out zZ)); have n4_:=Aside0.mk ((by rw [hw]; exact AI (AI (HB.out) GB74.out) GB74.out:Below w.heap.size w w82)); clear HO_6; clear HO_7; clear HO_8; clear BK372; clear HB; have HO_6:=n0_; have HO_7:=n1_; have HO_8:=n2_; have BK372:=n3_; have HB:=n4_; clear n0_ n1_ n2_ n3_ n4_; clear hg hw hp_; have p76:0≤(x10_3:Int):=of_decide_eq_true zA; have q76:(x10_3:Int)<((x7_2.length:Int):Int):=of_decide_eq_true zA; obtain ⟨go76,co76,eo76,gb76,gl76,cl76,HG76⟩:=Kd.R_form HO_7.out zG; (first|cases eo76|(injection eo76 with ea_ en_ ec_; (first|subst ea_|(injection ea_ with ea_; subst ea_)); subst ec_; clear en_)); have GB76:=Aside0.mk gb76; have GG76:=Aside0.mk HG76; clear gb76 gl76 HG76; obtain ⟨hx76_0,hf76_0⟩:=Kd.R_celln false HO_7.out (x10_3:Int) p76 q76; replace p76:=eq_true p76; replace q76:=eq_true q76; obtain ⟨hy83_,hz83_⟩:=Kd.R_celln false HO_7.out (x10_3:Int) (of_decide_eq_true zA) (of_decide_eq_true zA); have HP83:=Kd.R_putg HO_7.out (x10_3:Int) true)|((with_reducible refine BW (t:=4) (p:=162) rfl ?_); (try (rw [Bs w82]; generalize hq_:World.drewN w82 _=w82; have n0_:=Aside0.mk (Kd.R_at hq_ HO_6.out); have n1_:=Aside0.mk (Kd.R_at hq_ HO_7.out); have n2_:=Aside0.mk (Kd.R_at hq_ HO_8.out); have n3_:=Aside0.mk (Cc hq_ BK372.out); have n4_:=Aside0.mk (C8 hq_ HB.out); clear hq_ HO_6 HO_7 HO_8 BK372 HB; have HO_6:=n0_; have HO_7:=n1_; have HO_8:=n2_; have BK372:=n3_; have HB:=n4_; clear n0_ n1_ n2_ n3_ n4_; (try (obtain ⟨hy83_,hz83_⟩:=Kd.R_celln false HO_7.out (x10_3:Int) (of_decide_eq_true zA) (of_decide_eq_true zA))); (try (have HP83:=Kd.R_putg HO_7.out (x10_3:Int) true)))); refine BV (t:=4) (p:=162) (v:= ?vo_w84) (w1:=(w82.setCell ⟨go76,(x10_3:Int).toNat,none⟩ (.bool true))) ?hg ?ho ?hn ?hr ?_; (case ho=>rfl); (case hg=>rfl); (case hn=>rfl); (case hr=>first|(go_simp; done)|(go_simp; rfl)); intro w84 hw; have hg:w82.grownBy w84 (some go76):=(by rw [hw]; exact HP83.2); have hp_:Kd.R Kd.bool 4 w84 w.heap.size (fun _=>True) (.slice (some ⟨go76,0,none⟩) x7_2.length co76) y402:=(by rw [hw,Ny402.out]; exact HP83.1); clear HP83; have n0_:=Aside0.mk (Kd.R_over' (v:=(.slice (some ⟨go76,0,none⟩) x7_2.length co76)) zA4 (Kd.R_typed HO_7.out) zZ hg); have n1_:=Aside0.mk (hp_); have n2_:=Aside0.mk (Kd.R_over' (v:=(.slice (some ⟨go76,0,none⟩) x7_2.length co76)) zC6 (Kd.R_typed HO_7.out) zZ hg); have n3_:=Aside0.mk (BP (g:=gb372) (o:= .cells #[.int .i64 A8,.slice (some ad396) l0_1.length c0_1] 24 (0,0)) zN hg (Kd.R_ne HO_7.out BK372.out zZ)); have n4_:=Aside0.mk ((by rw [hw]; exact AI (HB.out) GB76.out:Below w.heap.size w w84)); clear HO_6; clear HO_7; clear HO_8; clear BK372; clear HB; have HO_6:=n0_; have HO_7:=n1_; have HO_8:=n2_; have BK372:=n3_; have HB:=n4_; clear n0_ n1_ n2_ n3_ n4_; clear hg hw hp_; have hcz85_0:w84.cell? ⟨gb372,0,none⟩=some (.int .i64 A8):=(AK BK372.out 0).trans rfl; have hcz85_1:w84.cell? ⟨gb372,1,none⟩=some (.slice (some ad396) l0_1.length c0_1):=(AK BK372.out 1).trans rfl; have hfz85_0:=AJ BK372.out 0; have hfz85_1:=AJ BK372.out 1; have p403:0≤(x10_3:Int):=of_decide_eq_true zA; have q403:x10_3<(l0_1.length:Int):=of_decide_eq_true zA; obtain ⟨ad403,A403_3,c403_3,e403,hx403_0,hx403_1,hx403_2,hx403_3,hl403_3,hi403_3⟩:=BR HR0_1.out x10_3 p403 q403; obtain rfl:ad396=ad403:=(by injection e403); replace hx403_0:=(HB.out.cell (World.block_lt_of_cell? w _ hx403_0)).trans hx403_0; replace hx403_1:=(HB.out.cell (World.block_lt_of_cell? w _ hx403_1)).trans hx403_1; replace hx403_2:=(HB.out.cell (World.block_lt_of_cell? w _ hx403_2)).trans hx403_2; replace hx403_3:=(HB.out.cell (World.block_lt_of_cell? w _ hx403_3)).trans hx403_3; have HR403_3:=Aside0.mk hi403_3; have HC403_3:=Aside0.mk hl403_3; clear hi403_3 hl403_3; replace p403:=eq_true p403; replace q403:=eq_true q403; have p79:0≤(x14_5:Int):=of_decide_eq_true zA; have q79:(x14_5:Int)<((x8_2.length:Int):Int):=of_decide_eq_true zA; obtain ⟨go79,co79,eo79,gb79,gl79,cl79,HG79⟩:=Kd.R_form HO_8.out zG; (first|cases eo79|(injection eo79 with ea_ en_ ec_; (first|subst ea_|(injection ea_ with ea_; subst ea_)); subst ec_; clear en_)); have GB79:=Aside0.mk gb79; have GG79:=Aside0.mk HG79; clear gb79 gl79 HG79; (first|simp only [C3] at hx395_0|skip); obtain ⟨hx79_0,hf79_0⟩:=Kd.R_celln 0 HO_8.out (x14_5:Int) p79 q79; replace p79:=eq_true p79; replace q79:=eq_true q79; obtain ⟨hy86_,hz86_⟩:=Kd.R_celln 0 HO_8.out (x14_5:Int) (of_decide_eq_true zA) (of_decide_eq_true zA); have HP86:=Kd.R_putg HO_8.out (x14_5:Int) (wrap64 (x16_6+((AL l0_1 x10_3).f1))))|((with_reducible refine BW (t:=3) (p:=173) rfl ?_); (try (rw [Bs w84]; generalize hq_:World.drewN w84 _=w84; have n0_:=Aside0.mk (Kd.R_at hq_ HO_6.out); have n1_:=Aside0.mk (Kd.R_at hq_ HO_7.out); have n2_:=Aside0.mk (Kd.R_at hq_ HO_8.out); have n3_:=Aside0.mk (Cc hq_ BK372.out); have n4_:=Aside0.mk (C8 hq_ HB.out); clear hq_ HO_6 HO_7 HO_8 BK372 HB; have HO_6:=n0_; have HO_7:=n1_; have HO_8:=n2_; have BK372:=n3_; have HB:=n4_; clear n0_ n1_ n2_ n3_ n4_; (try (obtain ⟨hy86_,hz86_⟩:=Kd.R_celln 0 HO_8.out (x14_5:Int) (of_decide_eq_true zA) (of_decide_eq_true zA))); (try (have HP86:=Kd.R_putg HO_8.out (x14_5:Int) (wrap64 (x16_6+((AL l0_1 x10_3).f1))))))); refine BV (t:=3) (p:=173) (v:= ?vo_w87) (w1:=(w84.setCell ⟨go79,(x14_5:Int).toNat,none⟩ (.int .i64 (wrap64 (x16_6+((AL l0_1 x10_3).f1)))))) ?hg ?ho ?hn ?hr ?_; (case ho=>rfl); (case hg=>rfl); (case hn=>rfl); (case hr=>first|(go_simp; done)|(go_simp; rfl)); intro w87 hw; have hg:w84.grownBy w87 (some go79):=(by rw [hw]; exact HP86.2); have hp_:Kd.R (Kd.int .i64) 3 w87 w.heap.size (fun _=>True) (.slice (some ⟨go79,0,none⟩) x8_2.length co62) y404:=(by rw [hw,Ny404.out]; exact HP86.1); clear HP86; have n0_:=Aside0.mk (Kd.R_over' (v:=(.slice (some ⟨go79,0,none⟩) x8_2.length co62)) zA4 (Kd.R_typed HO_8.out) zZ hg); have n1_:=Aside0.mk (Kd.R_over' (v:=(.slice (some ⟨go79,0,none⟩) x8_2.length co62)) zA3 (Kd.R_typed HO_8.out) zZ hg); have n2_:=Aside0.mk (hp_); have n3_:=Aside0.mk (BP (g:=gb372) (o:= .cells #[.int .i64 A8,.slice (some ad396) l0_1.length c0_1] 24 (0,0)) zN hg (Kd.R_ne HO_8.out BK372.out zZ)); have n4_:=Aside0.mk ((by rw [hw]; exact AI (HB.out) GB79.out:Below w.heap.size w w87)); clear HO_6; clear HO_7; clear HO_8; clear BK372; clear HB; have HO_6:=n0_; have HO_7:=n1_; have HO_8:=n2_; have BK372:=n3_; have HB:=n4_; clear n0_ n1_ n2_ n3_ n4_; clear hg hw hp_)); try go_wp2_with (first|((with_reducible refine BW (t:=54) (p:=161) rfl ?_); (try (rw [Bs wr]; generalize hq_:World.drewN wr _=wr; have n0_:=Aside0.mk (Kd.R_at hq_ HO_6.out); have n1_:=Aside0.mk (Kd.R_at hq_ HO_7.out); have n2_:=Aside0.mk (Kd.R_at hq_ HO_8.out); have n3_:=Aside0.mk (Cc hq_ BK372.out); have n4_:=Aside0.mk (C8 hq_ HB.out); clear hq_ HO_6 HO_7 HO_8 BK372 HB; have HO_6:=n0_; have HO_7:=n1_; have HO_8:=n2_; have BK372:=n3_; have HB:=n4_; clear n0_ n1_ n2_ n3_ n4_; (try (have HX81:=Aside0.mk (show Kd.R k54 54 wr w.heap.size (fun _=>True) (.slice (some ⟨go74,0,none⟩) x6_2.length co74) x6_2 from zA4))); (try (obtain ⟨ce81,hcl81,hM81,hcc81,hfr81⟩:=Kd.R_elem HX81.out z54 (x10_3:Int) (of_decide_eq_true zA) (by have h_:(x10_3:Int)<((x6_2.length:Int):Int):=of_decide_eq_true zA; first|exact h_|(have e_:=(Kd.R_reads' HO_6.out).1; omega)|simpa using h_))); (try (obtain rfl:=CX hM81)); (try (have HP81:=Kd.R_seg HX81.out (x10_3:Int) (of_decide_eq_true zA) (by have h_:(x10_3:Int)<((x6_2.length:Int):Int):=of_decide_eq_true zA; first|exact h_|(have e_:=(Kd.R_reads' HO_6.out).1; omega)|simpa using h_) (seg:=[.int .i64 x14_5,.int .i64 x16_6]) (j:=0) hcl81 hcc81 (show 2≤2 from by decide) (x':=(⟨x14_5,x16_6⟩:S54)) (Cb _ _ _ (⟨x14_5,x16_6⟩:S54)) (fun _ hk=>hk))); (try (have hx81_0:=hcc81 0 _ rfl)); (try (try simp only [show (k54).sz=2 from rfl,Nat.mul_one,Nat.add_zero] at hx81_0)); (try (have hf81_0:=hfr81 0)); (try (try simp only [show (k54).sz=2 from rfl,Nat.mul_one,Nat.add_zero] at hf81_0)); (try (have hx81_1:=hcc81 1 _ rfl)); (try (try simp only [show (k54).sz=2 from rfl,Nat.mul_one,Nat.add_zero] at hx81_1)); (try (have hf81_1:=hfr81 1)); (try (try simp only [show (k54).sz=2 from rfl,Nat.mul_one,Nat.add_zero] at hf81_1)); (try (clear hcl81 hcc81 hfr81 hM81)))); refine BV (t:=54) (p:=161) (v:= ?vo_w82) (w1:=((wr.setCell ⟨go74,(x10_3:Int).toNat*2,none⟩ (.int .i64 x14_5)).setCell ⟨go74,(x10_3:Int).toNat*2+1,none⟩ (.int .i64 x16_6))) ?hg ?ho ?hn ?hr ?_; (case ho=>rfl); (case hg=>rfl); (case hn=>rfl); (case hr=>first|(go_simp; done)|(go_simp; rfl)); intro w82 hw; have hg:wr.grownBy w82 (some go74):=(by rw [hw]; exact HP81.2); have hp_:Kd.R k54 54 w82 w.heap.size (fun _=>True) (.slice (some ⟨go74,0,none⟩) x6_2.length co74) y401:=(by rw [hw,Ny401.out]; exact HP81.1); clear HP81; have n0_:=Aside0.mk (hp_); have n1_:=Aside0.mk (Kd.R_over' (v:=(.slice (some ⟨go74,0,none⟩) x6_2.length co74)) zA3 (Kd.R_typed HO_6.out) zZ hg); have n2_:=Aside0.mk (Kd.R_over' (v:=(.slice (some ⟨go74,0,none⟩) x6_2.length co74)) zC6 (Kd.R_typed HO_6.out) zZ hg); have n3_:=Aside0.mk (BP (g:=gb372) (o:= .cells #[.int .i64 A8,.slice (some ad396) l0_1.length c0_1] 24 (0,0)) zN hg (Kd.R_ne HO_6.out BK372.out zZ)); have n4_:=Aside0.mk ((by rw [hw]; exact AI (AI (HB.out) GB74.out) GB74.out:Below w.heap.size w w82)); clear HO_6; clear HO_7; clear HO_8; clear BK372; clear HB; have HO_6:=n0_; have HO_7:=n1_; have HO_8:=n2_; have BK372:=n3_; have HB:=n4_; clear n0_ n1_ n2_ n3_ n4_; clear hg hw hp_; have p76:0≤(x10_3:Int):=of_decide_eq_true zA; have q76:(x10_3:Int)<((x7_2.length:Int):Int):=of_decide_eq_true zA; obtain ⟨go76,co76,eo76,gb76,gl76,cl76,HG76⟩:=Kd.R_form HO_7.out zG; (first|cases eo76|(injection eo76 with ea_ en_ ec_; (first|subst ea_|(injection ea_ with ea_; subst ea_)); subst ec_; clear en_)); have GB76:=Aside0.mk gb76; have GG76:=Aside0.mk HG76; clear gb76 gl76 HG76; obtain ⟨hx76_0,hf76_0⟩:=Kd.R_celln false HO_7.out (x10_3:Int) p76 q76; replace p76:=eq_true p76; replace q76:=eq_true q76; obtain ⟨hy83_,hz83_⟩:=Kd.R_celln false HO_7.out (x10_3:Int) (of_decide_eq_true zA) (of_decide_eq_true zA); have HP83:=Kd.R_putg HO_7.out (x10_3:Int) true)|((with_reducible refine BW (t:=4) (p:=162) rfl ?_); (try (rw [Bs w82]; generalize hq_:World.drewN w82 _=w82; have n0_:=Aside0.mk (Kd.R_at hq_ HO_6.out); have n1_:=Aside0.mk (Kd.R_at hq_ HO_7.out); have n2_:=Aside0.mk (Kd.R_at hq_ HO_8.out); have n3_:=Aside0.mk (Cc hq_ BK372.out); have n4_:=Aside0.mk (C8 hq_ HB.out); clear hq_ HO_6 HO_7 HO_8 BK372 HB; have HO_6:=n0_; have HO_7:=n1_; have HO_8:=n2_; have BK372:=n3_; have HB:=n4_; clear n0_ n1_ n2_ n3_ n4_; (try (obtain ⟨hy83_,hz83_⟩:=Kd.R_celln false HO_7.out (x10_3:Int) (of_decide_eq_true zA) (of_decide_eq_true zA))); (try (have HP83:=Kd.R_putg HO_7.out (x10_3:Int) true)))); refine BV (t:=4) (p:=162) (v:= ?vo_w84) (w1:=(w82.setCell ⟨go76,(x10_3:Int).toNat,none⟩ (.bool true))) ?hg ?ho ?hn ?hr ?_; (case ho=>rfl); (case hg=>rfl); (case hn=>rfl); (case hr=>first|(go_simp; done)|(go_simp; rfl)); intro w84 hw; have hg:w82.grownBy w84 (some go76):=(by rw [hw]; exact HP83.2); have hp_:Kd.R Kd.bool 4 w84 w.heap.size (fun _=>True) (.slice (some ⟨go76,0,none⟩) x7_2.length co76) y402:=(by rw [hw,Ny402.out]; exact HP83.1); clear HP83; have n0_:=Aside0.mk (Kd.R_over' (v:=(.slice (some ⟨go76,0,none⟩) x7_2.length co76)) zA4 (Kd.R_typed HO_7.out) zZ hg); have n1_:=Aside0.mk (hp_); have n2_:=Aside0.mk (Kd.R_over' (v:=(.slice (some ⟨go76,0,none⟩) x7_2.length co76)) zC6 (Kd.R_typed HO_7.out) zZ hg); have n3_:=Aside0.mk (BP (g:=gb372) (o:= .cells #[.int .i64 A8,.slice (some ad396) l0_1.length c0_1] 24 (0,0)) zN hg (Kd.R_ne HO_7.out BK372.out zZ)); have n4_:=Aside0.mk ((by rw [hw]; exact AI (HB.out) GB76.out:Below w.heap.size w w84)); clear HO_6; clear HO_7; clear HO_8; clear BK372; clear HB; have HO_6:=n0_; have HO_7:=n1_; have HO_8:=n2_; have BK372:=n3_; have HB:=n4_; clear n0_ n1_ n2_ n3_ n4_; clear hg hw hp_; have hcz85_0:w84.cell? ⟨gb372,0,none⟩=some (.int .i64 A8):=(AK BK372.out 0).trans rfl; have hcz85_1:w84.cell? ⟨gb372,1,none⟩=some (.slice (some ad396) l0_1.length c0_1):=(AK BK372.out 1).trans rfl; have hfz85_0:=AJ BK372.out 0; have hfz85_1:=AJ BK372.out 1; have p403:0≤(x10_3:Int):=of_decide_eq_true zA; have q403:x10_3<(l0_1.length:Int):=of_decide_eq_true zA; obtain ⟨ad403,A403_3,c403_3,e403,hx403_0,hx403_1,hx403_2,hx403_3,hl403_3,hi403_3⟩:=BR HR0_1.out x10_3 p403 q403; obtain rfl:ad396=ad403:=(by injection e403); replace hx403_0:=(HB.out.cell (World.block_lt_of_cell? w _ hx403_0)).trans hx403_0; replace hx403_1:=(HB.out.cell (World.block_lt_of_cell? w _ hx403_1)).trans hx403_1; replace hx403_2:=(HB.out.cell (World.block_lt_of_cell? w _ hx403_2)).trans hx403_2; replace hx403_3:=(HB.out.cell (World.block_lt_of_cell? w _ hx403_3)).trans hx403_3; have HR403_3:=Aside0.mk hi403_3; have HC403_3:=Aside0.mk hl403_3; clear hi403_3 hl403_3; replace p403:=eq_true p403; replace q403:=eq_true q403; have p79:0≤(x14_5:Int):=of_decide_eq_true zA; have q79:(x14_5:Int)<((x8_2.length:Int):Int):=of_decide_eq_true zA; obtain ⟨go79,co79,eo79,gb79,gl79,cl79,HG79⟩:=Kd.R_form HO_8.out zG; (first|cases eo79|(injection eo79 with ea_ en_ ec_; (first|subst ea_|(injection ea_ with ea_; subst ea_)); subst ec_; clear en_)); have GB79:=Aside0.mk gb79; have GG79:=Aside0.mk HG79; clear gb79 gl79 HG79; (first|simp only [C3] at hx395_0|skip); obtain ⟨hx79_0,hf79_0⟩:=Kd.R_celln 0 HO_8.out (x14_5:Int) p79 q79; replace p79:=eq_true p79; replace q79:=eq_true q79; obtain ⟨hy86_,hz86_⟩:=Kd.R_celln 0 HO_8.out (x14_5:Int) (of_decide_eq_true zA) (of_decide_eq_true zA); have HP86:=Kd.R_putg HO_8.out (x14_5:Int) (wrap64 (x16_6+((AL l0_1 x10_3).f1))))|((with_reducible refine BW (t:=3) (p:=173) rfl ?_); (try (rw [Bs w84]; generalize hq_:World.drewN w84 _=w84; have n0_:=Aside0.mk (Kd.R_at hq_ HO_6.out); have n1_:=Aside0.mk (Kd.R_at hq_ HO_7.out); have n2_:=Aside0.mk (Kd.R_at hq_ HO_8.out); have n3_:=Aside0.mk (Cc hq_ BK372.out); have n4_:=Aside0.mk (C8 hq_ HB.out); clear hq_ HO_6 HO_7 HO_8 BK372 HB; have HO_6:=n0_; have HO_7:=n1_; have HO_8:=n2_; have BK372:=n3_; have HB:=n4_; clear n0_ n1_ n2_ n3_ n4_; (try (obtain ⟨hy86_,hz86_⟩:=Kd.R_celln 0 HO_8.out (x14_5:Int) (of_decide_eq_true zA) (of_decide_eq_true zA))); (try (have HP86:=Kd.R_putg HO_8.out (x14_5:Int) (wrap64 (x16_6+((AL l0_1 x10_3).f1))))))); refine BV (t:=3) (p:=173) (v:= ?vo_w87) (w1:=(w84.setCell ⟨go79,(x14_5:Int).toNat,none⟩ (.int .i64 (wrap64 (x16_6+((AL l0_1 x10_3).f1)))))) ?hg ?ho ?hn ?hr ?_; (case ho=>rfl); (case hg=>rfl); (case hn=>rfl); (case hr=>first|(go_simp; done)|(go_simp; rfl)); intro w87 hw; have hg:w84.grownBy w87 (some go79):=(by rw [hw]; exact HP86.2); have hp_:Kd.R (Kd.int .i64) 3 w87 w.heap.size (fun _=>True) (.slice (some ⟨go79,0,none⟩) x8_2.length co62) y404:=(by rw [hw,Ny404.out]; exact HP86.1); clear HP86; have n0_:=Aside0.mk (Kd.R_over' (v:=(.slice (some ⟨go79,0,none⟩) x8_2.length co62)) zA4 (Kd.R_typed HO_8.out) zZ hg); have n1_:=Aside0.mk (Kd.R_over' (v:=(.slice (some ⟨go79,0,none⟩) x8_2.length co62)) zA3 (Kd.R_typed HO_8.out) zZ hg); have n2_:=Aside0.mk (hp_); have n3_:=Aside0.mk (BP (g:=gb372) (o:= .cells #[.int .i64 A8,.slice (some ad396) l0_1.length c0_1] 24 (0,0)) zN hg (Kd.R_ne HO_8.out BK372.out zZ)); have n4_:=Aside0.mk ((by rw [hw]; exact AI (HB.out) GB79.out:Below w.heap.size w w87)); clear HO_6; clear HO_7; clear HO_8; clear BK372; clear HB; have HO_6:=n0_; have HO_7:=n1_; have HO_8:=n2_; have BK372:=n3_; have HB:=n4_; clear n0_ n1_ n2_ n3_ n4_; clear hg hw hp_)))
                               go_roundg k6
                               case measure=>have:=HJ2.out; have:=HK2.out; have:=HK3.out; have:=HJ26.out; have:=HK5.out; have:=HK6.out; omega
                               case rel=>exact ⟨(y401),(y402),(y404),(wrap64 (x9_2+1)),zF,H',⟨by have:=HJ2.out; have:=HK2.out; have:=HK3.out; have:=HJ26.out; have:=HK5.out; have:=HK6.out; omega⟩,⟨by (with_reducible repeat (first|apply Kd.R_alloc|apply Kd.R_drewN|apply Kd.R_drew)); exact HO_6.out⟩,⟨by (with_reducible repeat (first|apply Kd.R_alloc|apply Kd.R_drewN|apply Kd.R_drew)); exact HO_7.out⟩,⟨by (with_reducible repeat (first|apply Kd.R_alloc|apply Kd.R_drewN|apply Kd.R_drew)); exact HO_8.out⟩,⟨by (with_reducible repeat (first|refine AF ?_ _|refine AH ?_|refine AG ?_ _)); exact BK372.out⟩,⟨by repeat (first|(with_reducible first|exact HB.out|apply AE|apply AC|apply AD|refine AI ?_ GE372.out)|exact HB.out)⟩⟩
                              ·rw [if_neg c78] at H
                               exact absurd H zY
                             ·rw [if_neg c77] at H
                              exact absurd H zY
                            ·rw [if_neg c75] at H
                             exact absurd H zY
                           ·rw [if_neg c73] at H
                            exact absurd H zY
                         ·rw [if_neg c64] at H
                          exact absurd H zY
                        ·rw [if_neg c63] at H
                         exact absurd H zY
                     ·rw [if_neg c60] at H
                      exact absurd H zY
                    ·rw [if_neg c59] at H
                     exact absurd H zY
           ·rw [if_neg c26] at H
            have c26b0:decide (x9_2<(l1.length:Int))=false:=decide_eq_false c26
            clear c26
            simp only [Option.some.injEq,Prod.mk.injEq] at H
            obtain ⟨rfl,rfl⟩:=H
            go_wp2
            repeat (go_quiet (fail); try go_wp2)
            go_ret2
            exact ⟨_,by first|rfl|(simp [AU,AT]<;>rfl)|(simp [*,AU,AT]<;>rfl),by (with_reducible repeat (first|apply Kd.R_alloc|apply Kd.R_drewN|apply Kd.R_drew)); exact HO_6.out,by repeat (first|(with_reducible first|exact HB.out|apply AE|apply AC|apply AD|refine AI ?_ GE372.out)|exact HB.out)⟩
        ·rw [if_neg c18] at H
         exact absurd H zY
       ·rw [if_neg c17] at H
        exact absurd H zY
      ·rw [if_neg c16] at H
       exact absurd H zY
     ·rw [if_neg c15] at H
      exact absurd H zY
    ·rw [if_neg c14] at H
     exact absurd H zY
end Go.Proofs.Ytdadecjefafflaa.PAll
end
section
namespace Go.Proofs.Ytdadecjefafflaa.PAll
set_option maxRecDepth 100000
open Go.RowKit Go.Proofs.YtdadecjefafflaaW.PrintWords Go.Proofs.YtdadecjefafflaaW.PrintLast Go.Proofs.YtdadecjefafflaaW.PrintMore
attribute [local go_sem] Bb BZ Bg Bf BU BT Ba BX
mutual
def Aj.l0:Nat→List Int→Int→List (List Int)→Int→Option ((List (List Int)))
 |0,_,_,_,_=>none
 |k+1,x0,x1,x5,x6=>if x6<x1 then (Aj.l1 k x0 x1 x5 x6 false 0) else (some x5)
def Aj.l1:Nat→List Int→Int→List (List Int)→Int→Bool→Int→Option ((List (List Int)))
 |0,_,_,_,_,_,_=>none
 |k+1,x0,x1,x5,x6,x7,x8=>if x8<(x0.length:Int) then (if x7=true then (Aj.l1 k x0 x1 x5 x6 true (wrap64 (x8+1))) else (if 0≤x8 then (Aj.l1 k x0 x1 x5 x6 ((rd x0 x8)==x6) (wrap64 (x8+1))) else (none))) else (if x7=true then (Aj.l0 k x0 x1 x5 (wrap64 (x6+1))) else ((some (([]:List Int):List Int)).bind fun y415=>(if y415.length+x0.length<17592186044416 then ((some (y415++x0:List Int)).bind fun y418=>(if y418.length<17592186044416 then ((Aj.f k (y418++[x6]) x1).bind fun t424=>(if x5.length+t424.length<5864062014805 then (Aj.l0 k x0 x1 (x5++t424) (wrap64 (x6+1))) else (none))) else (none))) else (none))))
def Aj.f:Nat→List Int→Int→Option ((List (List Int)))
 |0,_,_=>none
 |k+1,l0,a1=>if (l0.length:Int)=a1 then ((some (([]:List Int):List Int)).bind fun y405=>(if y405.length+l0.length<17592186044416 then (some (([(y405++l0)]:List (List Int)))) else (none))) else (Aj.l0 k l0 a1 ([]:List (List Int)) 0)
end
set_option maxHeartbeats 8000000 in
theorem Aj.calls (k:Nat):∀(A0:Option Addr) (c0:Nat) (l0:List Int) (a1:Int) (r:List (List Int)) (w:World) (hr0:Kd.C (Kd.int .i64) w A0 l0.length l0) (hc0:l0.length≤c0) (h:Aj.f k l0 a1=some r),
  Calls Try.prog 37 #[.slice A0 l0.length c0,.int .i64 a1] w fun e w'=>∃v0_:Value,e= .returned (v0_)∧Kd.N (Kd.slice 3 (Kd.int .i64)) 26 w' w.heap.size (fun k_=>(w.heap.size≤k_)) v0_ r∧Below w.heap.size w w':=by
 induction k using Nat.strongRecOn with
 |_ k ih=>
 intro A0 c0 l0 a1 r w hr0 hc0 h
 cases k with
 |zero=>exact absurd h (by simp [Aj.f])
 |succ k=>
 simp only [Aj.f] at h
 have HR0:=Aside0.mk hr0
 have HC0:=Aside0.mk hc0
 clear hr0 hc0
 have HB:=Aside0.mk (Below.refl w.heap.size w)
 have H:(if (l0.length:Int)=a1 then ((some (([]:List Int):List Int)).bind fun y405=>(if y405.length+l0.length<17592186044416 then (some (([(y405++l0)]:List (List Int)))) else (none))) else (Aj.l0 k l0 a1 ([]:List (List Int)) 0))=some r:=h
 clear h
 by_cases c3:(l0.length:Int)=a1
 ·rw [if_pos c3] at H
  have c3b0:((l0.length:Int)==a1)=true:=beq_iff_eq.mpr c3
  have c3b1:((l0.length:Int) !=a1)=false:=bne_eq_false_iff_eq.mpr c3
  clear c3
  obtain ⟨y405,hy405⟩:∃y_:List Int,y_=(([]:List Int)):=⟨_,rfl⟩
  replace H:(if y405.length+l0.length<17592186044416 then (some (([(y405++l0)]:List (List Int)))) else (none))=some r:=by first|(rw [hy405]; with_reducible exact H)|(have H2_:=(Option.bind_some _ _).symm.trans H; rw [hy405]; with_reducible exact H2_)|(have H2_:=(Option.bind_some _ _).symm.trans H; with_reducible exact H2_)|with_reducible exact H|(rw [hy405]; exact H)|exact H
  have Ny405:=Aside0.mk hy405
  clear hy405
  by_cases c4:y405.length+l0.length<17592186044416
  ·rw [if_pos c4] at H
   have LMc4:=Aside0.mk c4
   clear c4
   obtain ⟨y408,hy408⟩:∃y_:List Int,y_=(y405++l0):=⟨_,rfl⟩
   replace H:(some (([y408]:List (List Int))))=some r:=by first|(rw [hy408]; with_reducible exact H)|(have H2_:=(Option.bind_some _ _).symm.trans H; rw [hy408]; with_reducible exact H2_)|(have H2_:=(Option.bind_some _ _).symm.trans H; with_reducible exact H2_)|with_reducible exact H|(rw [hy408]; exact H)|exact H
   have Ny408:=Aside0.mk hy408
   clear hy408
   obtain ⟨y411,hy411⟩:∃y_:List (List Int),y_=(([y408]:List (List Int))):=⟨_,rfl⟩
   replace H:(some y411)=some r:=by first|(rw [hy411]; with_reducible exact H)|(have H2_:=(Option.bind_some _ _).symm.trans H; rw [hy411]; with_reducible exact H2_)|(have H2_:=(Option.bind_some _ _).symm.trans H; with_reducible exact H2_)|with_reducible exact H|(rw [hy411]; exact H)|exact H
   have Ny411:=Aside0.mk hy411
   clear hy411
   obtain rfl:=Option.some.inj H
   go_enter Try.func37,Try.ntmps37
   go_wp2_with (first|((with_reducible refine Ap (N:=13) rfl ?_); refine Kd.R_lit (Kd.int .i64) _ 3 ?hg (N:=13) ?hd (xs:=([]:List Int)) (inner:=[]) (ok:=fun _=>True) (okp:=fun _=>True) ?hr ?hp (fun _ hk=>hk) trivial (Below.refl _ _) (Nat.le_refl _) zY ?_; (case hd=>rfl); (case hg=>rfl); (case hr=>first|(go_simp; done)|(go_simp; rfl)); (case hp=>exact (Reps.none _ _)); intro v406 w5 ho6 hb hg_ hnew_; clear hg_ hnew_; (first|rw [←Ny405.out] at ho6|(simp only [Int.reduceToNat] at ho6; rw [←Ny405.out] at ho6)); have n0_:=Aside0.mk (Kd.R_lower (Kd.R_newM (M:=fun k_=>(w.heap.size≤k_)) ho6 (AQ zB) (fun k_ h_=>h_)) (AQ zB)); have n1_:=Aside0.mk (AN zB hb); clear HB; have HO407:=n0_; have HB:=n1_; clear n0_ n1_; clear hb ho6)|((with_reducible refine Bq (b:= .append) (xs:= #[.tmp 13,.tmp 14]) rfl ?_); at_builtin; refine Kd.R_append_rows (Kd.int .i64) (w0:=w) w.heap.size rfl (.tmp 13) (.tmp 14) 26 3 (.int .i64 0) 8 rfl Try.underlying26 info3 rfl zZ zG v406 y405 l0 _ _ _ (fun k_=>(w.heap.size≤k_)) (fun _=>False) rfl rfl ?aO ?aR (fun _ _ h=>h) (fun _ h=>h.elim) ?aF ?aB ?aS ?aL ?_; (case aR=>repeat (first|exact (Kd.C_below HR0.out HB.out)|(with_reducible refine Kd.C_alloc ?_ _)|(with_reducible refine Kd.C_drewN ?_ _)|(with_reducible refine Kd.C_drew ?_))); (case aB=>exact zB); (case aF=>exact (fun k_ hk=>(Nat.le_trans (AQ zB) hk))); (case aO=>exact (by (with_reducible repeat (first|apply Kd.R_alloc|apply Kd.R_drewN|apply Kd.R_drew)); exact Kd.R_mono HO407.out (fun _ hk=>hk.1))); (case aS=>exact (AQ zB)); (case aL=>have:=LMc4.out; omega); intro v409 w7 ho hb hg hat; rw [←Ny408.out] at ho; have n0_:=Aside0.mk (hb); have n1_:=Aside0.mk (ho); clear HB; clear HO407; have HB:=n0_; have HO410:=n1_; clear n0_ n1_; clear ho hb hg hat; obtain ⟨Ao8,co8,eo8⟩:=Kd.R_slice HO410.out; subst eo8)|((with_reducible refine Ap (N:=16) rfl ?_); refine Kd.N_lit (Kd.slice 3 (Kd.int .i64)) _ 26 ?hg (N':=16) ?hd (xs:=([y408]:List (List Int))) (inner:=[.slice Ao8 y408.length co8]) (ok:=(fun k_=>(w.heap.size≤k_))) (okp:=(fun k_=>(w.heap.size≤k_))) ?hr ?hp (fun _ hk=>hk) ((show ∀k_,w7.heap.size≤k_→(fun k_=>(w.heap.size≤k_)) k_ from fun k_ hk=>(Nat.le_trans (AQ zB) hk)) _ (Nat.le_refl _)) (Below.refl _ _) (Nat.le_refl _) zY ?_; (case hd=>rfl); (case hg=>rfl); (case hr=>first|(go_simp; done)|(go_simp; rfl)); (case hp=>exact (Reps.one (show Kd.FK (Kd.slice 3 (Kd.int .i64)) _ _ y408 [.slice Ao8 y408.length co8] from (Kd.FK_slice_mk (Kd.R_reads' (Kd.R_mono (ok':=(fun k_=>(w.heap.size≤k_))) (HO410.out) (fun k_ hk=>hk))).2.1 (Kd.R_F (Kd.R_mono (ok':=(fun k_=>(w.heap.size≤k_))) (HO410.out) (fun k_ hk=>hk))))) (Reps.none _ _))); intro v412 w9 ho10 hb hg_ hnew_; clear hg_ hnew_; (first|rw [←Ny411.out] at ho10|(simp only [Int.reduceToNat] at ho10; rw [←Ny411.out] at ho10)); have n0_:=Aside0.mk (Kd.N_lower ho10 (AQ zB)); have n1_:=Aside0.mk (AN zB hb); clear HB; clear HO410; have HO413:=n0_; have HB:=n1_; clear n0_ n1_; clear hb ho10))
   go_ret
   exact ⟨_,by first|rfl|(simp [AU,AT]<;>rfl)|(simp [*,AU,AT]<;>rfl),by (with_reducible repeat (first|apply Kd.N_alloc|apply Kd.N_drewN|apply Kd.N_drew)); exact HO413.out,by repeat (first|(with_reducible first|exact HB.out|apply AE|apply AC|apply AD)|exact HB.out)⟩
  ·rw [if_neg c4] at H
   exact absurd H zY
 ·rw [if_neg c3] at H
  have c3b0:((l0.length:Int)==a1)=false:=beq_eq_false_iff_ne.mpr c3
  have c3b1:((l0.length:Int) !=a1)=true:=bne_iff_ne.mpr c3
  have H':=Aside0.mk H
  clear H
  go_enter Try.func37,Try.ntmps37
  go_wp2
  go_loopg [5,6] k (fun kq v5 v6 w'=>∃(x5_1:List (List Int)) (x6_1:Int),v6= .int .i64 x6_1∧Aside0 (Aj.l0 kq l0 a1 x5_1 x6_1=some r)∧Aside0 (kq≤k)∧Aside0 (Kd.N (Kd.slice 3 (Kd.int .i64)) 26 w' w.heap.size (fun k_=>(w.heap.size≤k_)) v5 x5_1)∧Aside0 (Below w.heap.size w w'))
  case atStart=>exact ⟨(([]:List (List Int))),(0),zF,H',⟨Nat.le_refl _⟩,⟨by first|exact Kd.S_nil _ _ _ _ _|exact Kd.N_nil _ _ _ _ _|exact Kd.V_nil _ _ _ _ _|exact Kd.Q_nil _ _ _ _ _|exact Kd.R_nil _ _ _ _ _⟩,⟨by repeat (first|(with_reducible first|exact HB.out|apply AE|apply AC|apply AD)|exact HB.out)⟩⟩
  case round=>
   clear H'
   try clear p2
   try clear c3
   try clear c3b0
   try clear c3b1
   try clear c4
   obtain ⟨x5_1,x6_1,rfl,HA,HK1,HO_5,HB⟩:=hrel
   cases gk with
   |zero=>exact absurd HA.out (by simp [Aj.l0])
   | succ k1 =>
    have H:=HA.out
    clear HA
    simp only [Aj.l0] at H
    by_cases c11:x6_1<a1
    ·rw [if_pos c11] at H
     have c11b0:decide (x6_1<a1)=true:=decide_eq_true c11
     clear c11
     have H':=Aside0.mk H
     clear H
     go_wp2
     go_loopg [7,8] k1 (fun kq v7 v8 w'=>∃(x7_2:Bool) (x8_2:Int),v7= .bool x7_2∧v8= .int .i64 x8_2∧Aside0 (Aj.l1 kq l0 a1 x5_1 x6_1 x7_2 x8_2=some r)∧Aside0 (kq≤k1)∧Aside0 (Kd.N (Kd.slice 3 (Kd.int .i64)) 26 w' w.heap.size (fun k_=>(w.heap.size≤k_)) u5 x5_1)∧Aside0 (Below w.heap.size w w'))
     case atStart=>exact ⟨(false),(0),zF,zF,H',⟨Nat.le_refl _⟩,⟨by (with_reducible repeat (first|apply Kd.N_alloc|apply Kd.N_drewN|apply Kd.N_drew)); exact HO_5.out⟩,⟨by repeat (first|(with_reducible first|exact HB.out|apply AE|apply AC|apply AD)|exact HB.out)⟩⟩
     case round=>
      clear H'
      try clear c1
      try clear p2
      try clear c3
      try clear c3b0
      try clear c3b1
      try clear c4
      try clear c11
      try clear c11b0
      try clear p2
      obtain ⟨x7_2,x8_2,rfl,rfl,HA,HK2,HO_5,HB⟩:=hrel
      cases gk with
      |zero=>exact absurd HA.out (by simp [Aj.l1])
      | succ k2 =>
       have H:=HA.out
       clear HA
       simp only [Aj.l1] at H
       by_cases c12:x8_2<(l0.length:Int)
       ·rw [if_pos c12] at H
        have c12b0:decide (x8_2<(l0.length:Int))=true:=decide_eq_true c12
        clear c12
        by_cases c13:x7_2=true
        ·subst c13
         have H1:(Aj.l1 k2 l0 a1 x5_1 x6_1 true (wrap64 (x8_2+1)))=some r:=by rw [if_pos rfl] at H; exact H
         clear H
         have H:=H1
         clear H1
         have H':=Aside0.mk H
         clear H
         go_wp2
         go_roundg k2
         case measure=>have:=HK1.out; have:=HK2.out; omega
         case rel=>exact ⟨(true),(wrap64 (x8_2+1)),zF,zF,H',⟨by have:=HK1.out; have:=HK2.out; omega⟩,⟨by (with_reducible repeat (first|apply Kd.N_alloc|apply Kd.N_drewN|apply Kd.N_drew)); exact HO_5.out⟩,⟨by repeat (first|(with_reducible first|exact HB.out|apply AE|apply AC|apply AD)|exact HB.out)⟩⟩
        ·replace c13:=Bool.eq_false_iff.mpr c13
         subst c13
         have H1:(if 0≤x8_2 then (Aj.l1 k2 l0 a1 x5_1 x6_1 ((rd l0 x8_2)==x6_1) (wrap64 (x8_2+1))) else (none))=some r:=by rw [if_neg (show ¬(false=true) by decide)] at H; exact H
         clear H
         have H:=H1
         clear H1
         by_cases c14:0≤x8_2
         ·rw [if_pos c14] at H
          have c14b0:decide (0≤x8_2)=true:=decide_eq_true c14
          clear c14
          have H':=Aside0.mk H
          clear H
          have p414:0≤(x8_2:Int):=of_decide_eq_true zA
          have q414:x8_2<(l0.length:Int):=of_decide_eq_true zA
          obtain ⟨ad414,e414,hx414_0⟩:=Kd.at_int HR0.out x8_2 p414 q414
          cases e414
          replace hx414_0:=(HB.out.cell (World.block_lt_of_cell? w _ hx414_0)).trans hx414_0
          replace p414:=eq_true p414
          replace q414:=eq_true q414
          go_wp2
          go_roundg k2
          case measure=>have:=HK1.out; have:=HK2.out; omega
          case rel=>exact ⟨(((rd l0 x8_2)==x6_1)),(wrap64 (x8_2+1)),zF,zF,H',⟨by have:=HK1.out; have:=HK2.out; omega⟩,⟨by (with_reducible repeat (first|apply Kd.N_alloc|apply Kd.N_drewN|apply Kd.N_drew)); exact HO_5.out⟩,⟨by repeat (first|(with_reducible first|exact HB.out|apply AE|apply AC|apply AD)|exact HB.out)⟩⟩
         ·rw [if_neg c14] at H
          exact absurd H zY
       ·rw [if_neg c12] at H
        have c12b0:decide (x8_2<(l0.length:Int))=false:=decide_eq_false c12
        clear c12
        by_cases c15:x7_2=true
        ·subst c15
         have H1:(Aj.l0 k2 l0 a1 x5_1 (wrap64 (x6_1+1)))=some r:=by rw [if_pos rfl] at H; exact H
         clear H
         have H:=H1
         clear H1
         have H':=Aside0.mk H
         clear H
         go_wp2
         go_roundg k2
         case measure=>have:=HK1.out; have:=HK2.out; omega
         case rel=>exact ⟨(x5_1),(wrap64 (x6_1+1)),zF,H',⟨by have:=HK1.out; have:=HK2.out; omega⟩,⟨by (with_reducible repeat (first|apply Kd.N_alloc|apply Kd.N_drewN|apply Kd.N_drew)); exact HO_5.out⟩,⟨by repeat (first|(with_reducible first|exact HB.out|apply AE|apply AC|apply AD)|exact HB.out)⟩⟩
        ·replace c15:=Bool.eq_false_iff.mpr c15
         subst c15
         have H1:((some (([]:List Int):List Int)).bind fun y415=>(if y415.length+l0.length<17592186044416 then ((some (y415++l0:List Int)).bind fun y418=>(if y418.length<17592186044416 then ((Aj.f k2 (y418++[x6_1]) a1).bind fun t424=>(if x5_1.length+t424.length<5864062014805 then (Aj.l0 k2 l0 a1 (x5_1++t424) (wrap64 (x6_1+1))) else (none))) else (none))) else (none)))=some r:=by rw [if_neg (show ¬(false=true) by decide)] at H; exact H
         clear H
         have H:=H1
         clear H1
         obtain ⟨y415,hy415⟩:∃y_:List Int,y_=(([]:List Int)):=⟨_,rfl⟩
         replace H:(if y415.length+l0.length<17592186044416 then ((some (y415++l0:List Int)).bind fun y418=>(if y418.length<17592186044416 then ((Aj.f k2 (y418++[x6_1]) a1).bind fun t424=>(if x5_1.length+t424.length<5864062014805 then (Aj.l0 k2 l0 a1 (x5_1++t424) (wrap64 (x6_1+1))) else (none))) else (none))) else (none))=some r:=by first|(rw [hy415]; with_reducible exact H)|(have H2_:=(Option.bind_some _ _).symm.trans H; rw [hy415]; with_reducible exact H2_)|(have H2_:=(Option.bind_some _ _).symm.trans H; with_reducible exact H2_)|with_reducible exact H|(rw [hy415]; exact H)|exact H
         have Ny415:=Aside0.mk hy415
         clear hy415
         by_cases c16:y415.length+l0.length<17592186044416
         ·rw [if_pos c16] at H
          have LMc16:=Aside0.mk c16
          clear c16
          obtain ⟨y418,hy418⟩:∃y_:List Int,y_=(y415++l0):=⟨_,rfl⟩
          replace H:(if y418.length<17592186044416 then ((Aj.f k2 (y418++[x6_1]) a1).bind fun t424=>(if x5_1.length+t424.length<5864062014805 then (Aj.l0 k2 l0 a1 (x5_1++t424) (wrap64 (x6_1+1))) else (none))) else (none))=some r:=by first|(rw [hy418]; with_reducible exact H)|(have H2_:=(Option.bind_some _ _).symm.trans H; rw [hy418]; with_reducible exact H2_)|(have H2_:=(Option.bind_some _ _).symm.trans H; with_reducible exact H2_)|with_reducible exact H|(rw [hy418]; exact H)|exact H
          have Ny418:=Aside0.mk hy418
          clear hy418
          by_cases c17:y418.length<17592186044416
          ·rw [if_pos c17] at H
           have LMc17:=Aside0.mk c17
           clear c17
           obtain ⟨y421,hy421⟩:∃y_:List Int,y_=(y418++[x6_1]):=⟨_,rfl⟩
           replace H:((Aj.f k2 y421 a1).bind fun t424=>(if x5_1.length+t424.length<5864062014805 then (Aj.l0 k2 l0 a1 (x5_1++t424) (wrap64 (x6_1+1))) else (none)))=some r:=by first|(rw [hy421]; with_reducible exact H)|(have H2_:=(Option.bind_some _ _).symm.trans H; rw [hy421]; with_reducible exact H2_)|(have H2_:=(Option.bind_some _ _).symm.trans H; with_reducible exact H2_)|with_reducible exact H|(rw [hy421]; exact H)|exact H
           have Ny421:=Aside0.mk hy421
           clear hy421
           replace H:=Option.bind_eq_some_iff.mp H
           obtain ⟨t424,A180,H⟩:=H
           replace H:(if x5_1.length+t424.length<5864062014805 then (Aj.l0 k2 l0 a1 (x5_1++t424) (wrap64 (x6_1+1))) else (none))=some r:=H
           have A18:=Aside0.mk A180
           clear A180
           by_cases c19:x5_1.length+t424.length<5864062014805
           ·rw [if_pos c19] at H
            have LMc19:=Aside0.mk c19
            clear c19
            obtain ⟨y427,hy427⟩:∃y_:List (List Int),y_=(x5_1++t424):=⟨_,rfl⟩
            replace H:(Aj.l0 k2 l0 a1 y427 (wrap64 (x6_1+1)))=some r:=by first|(rw [hy427]; with_reducible exact H)|(have H2_:=(Option.bind_some _ _).symm.trans H; rw [hy427]; with_reducible exact H2_)|(have H2_:=(Option.bind_some _ _).symm.trans H; with_reducible exact H2_)|with_reducible exact H|(rw [hy427]; exact H)|exact H
            have Ny427:=Aside0.mk hy427
            clear hy427
            have H':=Aside0.mk H
            clear H
            go_wp2_with (first|((with_reducible refine Ap (N:=40) rfl ?_); refine Kd.R_lit (Kd.int .i64) _ 3 ?hg (N:=40) ?hd (xs:=([]:List Int)) (inner:=[]) (ok:=fun _=>True) (okp:=fun _=>True) ?hr ?hp (fun _ hk=>hk) trivial (Below.refl _ _) (Nat.le_refl _) zY ?_; (case hd=>rfl); (case hg=>rfl); (case hr=>first|(go_simp; done)|(go_simp; rfl)); (case hp=>exact (Reps.none _ _)); intro v416 w20 ho21 hb hg_ hnew_; clear hg_ hnew_; (first|rw [←Ny415.out] at ho21|(simp only [Int.reduceToNat] at ho21; rw [←Ny415.out] at ho21)); have n0_:=Aside0.mk (Kd.N_elder' zA1 (Kd.R_base ho21) hb); have n1_:=Aside0.mk (Kd.R_lower (Kd.R_newM (M:=fun k_=>(w.heap.size≤k_)) ho21 (AQ zB) (fun k_ h_=>h_)) (AQ zB)); have n2_:=Aside0.mk (AN zB hb); clear HO_5; clear HB; have HO_5:=n0_; have HO417:=n1_; have HB:=n2_; clear n0_ n1_ n2_; clear hb ho21)|((with_reducible refine Bq (b:= .append) (xs:= #[.tmp 40,.tmp 41]) rfl ?_); at_builtin; refine Kd.R_append_rows (Kd.int .i64) (w0:=w) w.heap.size rfl (.tmp 40) (.tmp 41) 26 3 (.int .i64 0) 8 rfl Try.underlying26 info3 rfl zZ zG v416 y415 l0 _ _ _ (fun k_=>(w.heap.size≤k_)) (fun _=>False) rfl rfl ?aO ?aR (fun _ _ h=>h) (fun _ h=>h.elim) ?aF ?aB ?aS ?aL ?_; (case aR=>repeat (first|exact (Kd.C_below HR0.out HB.out)|(with_reducible refine Kd.C_alloc ?_ _)|(with_reducible refine Kd.C_drewN ?_ _)|(with_reducible refine Kd.C_drew ?_))); (case aB=>exact zB); (case aF=>exact (fun k_ hk=>(Nat.le_trans (AQ zB) hk))); (case aO=>exact (by (with_reducible repeat (first|apply Kd.R_alloc|apply Kd.R_drewN|apply Kd.R_drew)); exact Kd.R_mono HO417.out (fun _ hk=>hk.1))); (case aS=>exact (AQ zB)); (case aL=>have:=LMc16.out; omega); intro v419 w22 ho hb hg hat; rw [←Ny418.out] at ho; have n0_:=Aside0.mk (Kd.N_afterv (ok:=(fun k_=>(w.heap.size≤k_))) zA1 hg hat); have n1_:=Aside0.mk (hb); have n2_:=Aside0.mk (ho); clear HO_5; clear HB; clear HO417; have HO_5:=n0_; have HB:=n1_; have HO420:=n2_; clear n0_ n1_ n2_; clear ho hb hg hat)|((with_reducible refine Bq (b:= .append) (xs:= #[.tmp 42,.tmp 44]) rfl ?_); at_builtin; refine Kd.R_append (Kd.int .i64) (w0:=w) w.heap.size rfl (.tmp 42) (.tmp 44) 26 3 (.int .i64 0) 8 rfl Try.underlying26 info3 rfl zZ zG v419 y418 x6_1 [.int .i64 x6_1] (fun k_=>(w.heap.size≤k_)) (fun _=>False) rfl rfl ?aP (fun _ hk=>hk.elim) ?aF ?aO ?aB ?aS ?aL ?_; (case aP=>exact rfl); (case aB=>exact zB); (case aF=>exact (fun k_ hk=>(Nat.le_trans (AQ zB) hk))); (case aO=>exact (by (with_reducible repeat (first|apply Kd.R_alloc|apply Kd.R_drewN|apply Kd.R_drew)); exact HO420.out)); (case aS=>exact (AQ zB)); (case aL=>have:=LMc17.out; omega); intro v422 w23 ho hb hg hat; rw [←Ny421.out] at ho; have n0_:=Aside0.mk (Kd.N_afterv (ok:=(fun k_=>(w.heap.size≤k_))) zA1 hg hat); have n1_:=Aside0.mk (hb); have n2_:=Aside0.mk (ho); clear HO_5; clear HB; clear HO420; have HO_5:=n0_; have HB:=n1_; have HO423:=n2_; clear n0_ n1_ n2_; clear ho hb hg hat; obtain ⟨Ao24,co24,eo24⟩:=Kd.R_slice HO423.out; subst eo24)|((with_reducible refine Ae (f:=37) rfl ?_); refine B6 (some 47) rfl rfl Try.func37 zI rfl #[.slice Ao24 y421.length co24,.int .i64 a1] rfl zD ?_; (with_reducible refine (ih k2 (by have:=HK1.out; have:=HK2.out; omega) _ _ y421 a1 t424 _ ?side1 ?side2 A18.out).mono ?_); (case side1=>repeat (first|exact (Kd.R_reads' HO423.out).2.2|(with_reducible refine Kd.C_alloc ?_ _)|(with_reducible refine Kd.C_drewN ?_ _)|(with_reducible refine Kd.C_drew ?_))); (case side2=>exact (Kd.R_reads' HO423.out).2.1); rintro e w25 ⟨v425,rfl,ho0,hb⟩; refine ⟨_,rfl,?_⟩; have n0_:=Aside0.mk (Kd.N_elder' zA1 (Kd.N_base ho0) hb); have n1_:=Aside0.mk (Kd.R_below (by (with_reducible repeat (first|apply Kd.R_alloc|apply Kd.R_drewN|apply Kd.R_drew)); exact HO423.out) hb); have n2_:=Aside0.mk (Kd.N_lower (Kd.N_mono (ok':=fun k_=>(w.heap.size≤k_)∧some k_≠(u5:Value).ownBlock∧some k_≠(.slice Ao24 y421.length co24:Value).ownBlock) ho0 (fun k_ hk_=>⟨(Nat.le_trans (AQ zB) hk_),(Kd.fresh' (Kd.N_lt zA1) k_ hk_),(Kd.fresh' (Kd.R_lt (by (with_reducible repeat (first|apply Kd.R_alloc|apply Kd.R_drewN|apply Kd.R_drew)); exact HO423.out)) k_ hk_)⟩)) (AQ zB)); have n3_:=Aside0.mk (AN zB hb); clear HO_5; clear HO423; clear HB; have HO_5:=n0_; have HO423:=n1_; have HO426:=n2_; have HB:=n3_; clear n0_ n1_ n2_ n3_; (try clear hb); (try clear hb2); (try clear hk); (try clear hi); (try clear ho0); obtain ⟨Ao27,co27,eo27⟩:=Kd.N_slice HO426.out; subst eo27)|((with_reducible refine Bq (b:= .append) (xs:= #[.tmp 39,.tmp 47]) rfl ?_); at_builtin; refine Kd.N_append_rows (Kd.slice 3 (Kd.int .i64)) (w0:=w) w.heap.size rfl (.tmp 39) (.tmp 47) 73 26 (.slice none 0 0) 24 rfl Try.underlying73 info26 rfl zZ zG u5 x5_1 t424 _ _ _ (fun k_=>(w.heap.size≤k_)∧some k_≠(.slice Ao24 y421.length co24:Value).ownBlock) (fun k_=>((fun k_=>(w.heap.size≤k_)∧some k_≠(.slice Ao24 y421.length co24:Value).ownBlock)) k_∧some k_≠(u5:Value).ownBlock) rfl rfl ?aO ?aR (fun _ hk=>hk) ?aF ?aB ?aS ?aL ?_; (case aR=>exact (by skip; exact Kd.N_F (Kd.N_mono (ok':=(fun k_=>((fun k_=>(w.heap.size≤k_)∧some k_≠(.slice Ao24 y421.length co24:Value).ownBlock)) k_∧some k_≠(u5:Value).ownBlock)) (HO426.out) (fun k_ hk=>⟨⟨hk.1,hk.2.2⟩,hk.2.1⟩)))); (case aB=>exact zB); (case aF=>exact (fun k_ hk=>⟨(Nat.le_trans (AQ zB) hk),Kd.fresh' (Kd.R_lt (by (with_reducible repeat (first|apply Kd.R_alloc|apply Kd.R_drewN|apply Kd.R_drew)); exact HO423.out)) k_ hk⟩)); (case aO=>exact (by (with_reducible repeat (first|apply Kd.N_alloc|apply Kd.N_drewN|apply Kd.N_drew)); exact Kd.N_mono HO_5.out (fun _ hk=>⟨hk.1.1,hk.1.2⟩))); (case aS=>exact (AQ zB)); (case aL=>have:=LMc19.out; omega); intro v428 w26 ho hb hg hat; rw [←Ny427.out] at ho; have n0_:=Aside0.mk (Kd.R_over' (by (with_reducible repeat (first|apply Kd.R_alloc|apply Kd.R_drewN|apply Kd.R_drew)); exact HO423.out) (Kd.N_typed zA1) zZ hg); have n1_:=Aside0.mk (Kd.N_afterv (ok:=(fun k_=>(w.heap.size≤k_)∧some k_≠(.slice Ao24 y421.length co24:Value).ownBlock)) (by (with_reducible repeat (first|apply Kd.N_alloc|apply Kd.N_drewN|apply Kd.N_drew)); exact Kd.N_mono HO426.out (fun _ hk=>⟨⟨hk.1,hk.2.2⟩,hk.2.1⟩)) hg hat); have n2_:=Aside0.mk (hb); have n3_:=Aside0.mk (ho); clear HO423; clear HO426; clear HB; clear HO_5; have HO423:=n0_; have HO426:=n1_; have HB:=n2_; have HO429:=n3_; clear n0_ n1_ n2_ n3_; clear ho hb hg hat))
            go_roundg k2
            case measure=>have:=HK1.out; have:=HK2.out; omega
            case rel=>exact ⟨(y427),(wrap64 (x6_1+1)),zF,H',⟨by have:=HK1.out; have:=HK2.out; omega⟩,⟨by (with_reducible repeat (first|apply Kd.N_alloc|apply Kd.N_drewN|apply Kd.N_drew)); exact Kd.N_mono HO429.out (fun _ hk=>hk.1)⟩,⟨by repeat (first|(with_reducible first|exact HB.out|apply AE|apply AC|apply AD)|exact HB.out)⟩⟩
           ·rw [if_neg c19] at H
            exact absurd H zY
          ·rw [if_neg c17] at H
           exact absurd H zY
         ·rw [if_neg c16] at H
          exact absurd H zY
    ·rw [if_neg c11] at H
     have c11b0:decide (x6_1<a1)=false:=decide_eq_false c11
     clear c11
     obtain rfl:=Option.some.inj H
     go_wp2
     go_ret
     exact ⟨_,by first|rfl|(simp [AU,AT]<;>rfl)|(simp [*,AU,AT]<;>rfl),by (with_reducible repeat (first|apply Kd.N_alloc|apply Kd.N_drewN|apply Kd.N_drew)); exact HO_5.out,by repeat (first|(with_reducible first|exact HB.out|apply AE|apply AC|apply AD)|exact HB.out)⟩
end Go.Proofs.Ytdadecjefafflaa.PAll
end
