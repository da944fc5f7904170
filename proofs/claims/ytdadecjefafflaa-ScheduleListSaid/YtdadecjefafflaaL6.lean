/- A part of what the law's proof leans on. PACKED BY pack.py of this repo. -/
import Derived.Test.YtdadecjefafflaaL5
set_option linter.unusedVariables false
set_option linter.unusedSimpArgs false
set_option linter.defProp false
set_option linter.unusedSectionVars false
section
namespace Go.Proofs.Ytdadecjefafflaa.PLst
set_option maxRecDepth 100000
open Go.RowKit Go.Proofs.YtdadecjefafflaaW.PrintWords Go.Proofs.YtdadecjefafflaaW.PrintLast Go.Proofs.YtdadecjefafflaaW.PrintMore
attribute [local go_sem] Bd Bb Bm Bk BU BT Bc Ba
mutual
def AR.j0:Nat→List Int→Bool→Int→List (S42)→Option ((List (S54))×Int)
 |0,_,_,_,_=>none
 |k+1,x1,x29,x262000,x262001=>if x29=true then (some (([]:List (S54)),1)) else (if 0≤(x1.length:Int) then (if ((x1.length:Int):Int).toNat≤17592186044416 then (if ((x1.length:Int):Int).toNat≤281474976710656 then (if 0≤x262000 then (if (x262000:Int).toNat≤35184372088832 then (AR.l0 k x1 (List.replicate ((x1.length:Int):Int).toNat z54) (List.replicate ((x1.length:Int):Int).toNat false) (List.replicate (x262000:Int).toNat 0) 0 x262000 x262001) else (none)) else (none)) else (none)) else (none)) else (none))
def AR.l0:Nat→List Int→List (S54)→List Bool→List Int→Int→Int→List (S42)→Option ((List (S54))×Int)
 |0,_,_,_,_,_,_,_=>none
 |k+1,x1,x6,x7,x8,x9,x262000,x262001=>if x9<(x1.length:Int) then (AR.l1 k x1 x6 x7 x8 x9 (-1) 0 x262000 x262001) else (some (x6,0))
def AR.l1:Nat→List Int→List (S54)→List Bool→List Int→Int→Int→Int→Int→List (S42)→Option ((List (S54))×Int)
 |0,_,_,_,_,_,_,_,_,_=>none
 |k+1,x1,x6,x7,x8,x9,x10,x11,x262000,x262001=>if x11<(x1.length:Int) then (AR.j3 k x1 x6 x7 x8 x9 x10 x11 (decide (x10<0)) x262000 x262001) else (AR.j3 k x1 x6 x7 x8 x9 x10 x11 false x262000 x262001)
def AR.j3:Nat→List Int→List (S54)→List Bool→List Int→Int→Int→Int→Bool→Int→List (S42)→Option ((List (S54))×Int)
 |0,_,_,_,_,_,_,_,_,_,_=>none
 |k+1,x1,x6,x7,x8,x9,x10,x11,x52,x262000,x262001=>if x52=true then (if 0≤x11 then (if x11<(x1.length:Int) then (if 0≤(rd x1 x11) then (if (rd x1 x11)<(x7.length:Int) then (AR.l2 k x1 x6 x7 x8 x9 x10 x11 (!(rdOf false x7 (rd x1 x11))) 0 x262000 x262001) else (none)) else (none)) else (none)) else (none)) else (AR.l3 k x1 x6 x7 x8 x9 x10 0 1 x262000 x262001)
def AR.l2:Nat→List Int→List (S54)→List Bool→List Int→Int→Int→Int→Bool→Int→Int→List (S42)→Option ((List (S54))×Int)
 |0,_,_,_,_,_,_,_,_,_,_,_=>none
 |k+1,x1,x6,x7,x8,x9,x10,x11,x12,x13,x262000,x262001=>if 0≤x11 then (if x11<(x1.length:Int) then (if 0≤(rd x1 x11) then (if (rd x1 x11)<(x262001.length:Int) then (if x13<(((AL x262001 (rd x1 x11)).f3).length:Int) then (if x12=true then (if 0≤x13 then (if 0≤(rd ((AL x262001 (rd x1 x11)).f3) x13) then (if (rd ((AL x262001 (rd x1 x11)).f3) x13)<(x7.length:Int) then (AR.l2 k x1 x6 x7 x8 x9 x10 x11 (rdOf false x7 (rd ((AL x262001 (rd x1 x11)).f3) x13)) (wrap64 (x13+1)) x262000 x262001) else (none)) else (none)) else (none)) else (AR.l2 k x1 x6 x7 x8 x9 x10 x11 false (wrap64 (x13+1)) x262000 x262001)) else (if x12=true then (AR.l1 k x1 x6 x7 x8 x9 (rd x1 x11) (wrap64 (x11+1)) x262000 x262001) else (AR.l1 k x1 x6 x7 x8 x9 x10 (wrap64 (x11+1)) x262000 x262001))) else (none)) else (none)) else (none)) else (none)
def AR.l3:Nat→List Int→List (S54)→List Bool→List Int→Int→Int→Int→Int→Int→List (S42)→Option ((List (S54))×Int)
 |0,_,_,_,_,_,_,_,_,_,_=>none
 |k+1,x1,x6,x7,x8,x9,x10,x14,x15,x262000,x262001=>if x15<x262000 then (if 0≤x15 then (if x15<(x8.length:Int) then (if 0≤x14 then (if x14<(x8.length:Int) then (if (rd x8 x15)<(rd x8 x14) then (AR.l3 k x1 x6 x7 x8 x9 x10 x15 (wrap64 (x15+1)) x262000 x262001) else (AR.l3 k x1 x6 x7 x8 x9 x10 x14 (wrap64 (x15+1)) x262000 x262001)) else (none)) else (none)) else (none)) else (none)) else (if 0≤x14 then (if x14<(x8.length:Int) then (AR.l4 k x1 x6 x7 x8 x9 x10 x14 (rd x8 x14) 0 x262000 x262001) else (none)) else (none))
def AR.l4:Nat→List Int→List (S54)→List Bool→List Int→Int→Int→Int→Int→Int→Int→List (S42)→Option ((List (S54))×Int)
 |0,_,_,_,_,_,_,_,_,_,_,_=>none
 |k+1,x1,x6,x7,x8,x9,x10,x14,x16,x17,x262000,x262001=>if 0≤x10 then (if x10<(x262001.length:Int) then (if x17<(((AL x262001 x10).f3).length:Int) then (if 0≤x17 then (if 0≤(rd ((AL x262001 x10).f3) x17) then (if (rd ((AL x262001 x10).f3) x17)<(x6.length:Int) then (if (rd ((AL x262001 x10).f3) x17)<(x262001.length:Int) then (AR.l4 k x1 x6 x7 x8 x9 x10 x14 (mx x16 (wrap64 (((Be x6 (rd ((AL x262001 x10).f3) x17)).f1)+((AL x262001 (rd ((AL x262001 x10).f3) x17)).f1)))) (wrap64 (x17+1)) x262000 x262001) else (none)) else (none)) else (none)) else (none)) else (if x10<(x6.length:Int) then (if x10<(x7.length:Int) then (if 0≤x14 then (if x14<(x8.length:Int) then (AR.l0 k x1 (x6.set (x10:Int).toNat (⟨x14,x16⟩:S54)) (x7.set (x10:Int).toNat true) (x8.set (x14:Int).toNat (wrap64 (x16+((AL x262001 x10).f1)))) (wrap64 (x9+1)) x262000 x262001) else (none)) else (none)) else (none)) else (none))) else (none)) else (none)
end
def AR.f (k:Nat) (A8:Int) (l0_1:List (S42)) (l1:List Int):Option ((List (S54))×Int):=(AS.f k A8 l0_1).bind fun t262=>(if t262=true then ((AU.f k l1 (l0_1.length:Int)).bind fun t263=>(AR.j0 k l1 (!t263) A8 l0_1)) else (AR.j0 k l1 true A8 l0_1))
set_option maxHeartbeats 8000000 in
theorem AR.calls (k : Nat) (A8 : Int) (A0_1:Option Addr) (c0_1:Nat) (l0_1:List (S42)) (A1:Option Addr) (c1:Nat) (l1:List Int) (r1:List (S54)) (r2:Int) (w:World) (hr0_1:Kd.C k42 w A0_1 l0_1.length l0_1) (hc0_1:l0_1.length≤c0_1) (hr1:Kd.C (Kd.int .i64) w A1 l1.length l1) (hc1:l1.length≤c1) (h:AR.f k A8 l0_1 l1=some (r1,r2)):
  Calls Try.prog 21 #[.agg #[.int .i64 A8,.slice A0_1 l0_1.length c0_1],.slice A1 l1.length c1] w fun e w'=>∃v0_:Value,e= .returned (.tuple #[v0_,.int .i64 r2])∧Kd.R k54 54 w' w.heap.size (fun _=>True) v0_ r1∧Below w.heap.size w w':=by
 have hu24:=Try.underlying24
 have hu54:=Try.underlying54
 have HR0_1:=yA hr0_1
 have HC0_1:=yA hc0_1
 clear hr0_1 hc0_1
 have HR1:=yA hr1
 have HC1:=yA hc1
 clear hr1 hc1
 have HB:=yA (Below.refl w.heap.size w)
 have H:((AS.f k A8 l0_1).bind fun t262=>(if t262=true then ((AU.f k l1 (l0_1.length:Int)).bind fun t263=>(AR.j0 k l1 (!t263) A8 l0_1)) else (AR.j0 k l1 true A8 l0_1)))=some (r1,r2):=h
 clear h
 have HC3:=yA H
 clear H
 go_enter Try.func21,Try.ntmps21
 go_upto_region 1 with (first|((with_reducible refine Aq (N:=2) rfl ?_); (try (refine BC (by rfl) ?_; dsimp only)); refine Av ?hg (N:=2) ?hd (cs:= #[.int .i64 A8,.slice A0_1 l0_1.length c0_1]) (t:=24) ?hr ?_; (case hd=>rfl); (case hg=>rfl); (case hr=>first|(go_simp; done)|(go_simp; rfl)); intro gb261 hg w4 hbox hb; have n0_:=yA (AO zB hb); have n1_:=yA (hbox); have n2_:=yA ((by rw [hg]; exact (AQ zB):w.heap.size≤gb261)); have n3_:=yA ((by rw [hg]; exact (AQ zB):w.heap.size≤gb261)); clear HB; have HB:=n0_; have BK261:=n1_; have GW261:=n2_; have GE261:=n3_; clear n0_ n1_ n2_ n3_; clear hb hbox hg))
 repeat (go_quiet (first|((with_reducible refine Aq (N:=2) rfl ?_); (try (refine BC (by rfl) ?_; dsimp only)); refine Av ?hg (N:=2) ?hd (cs:= #[.int .i64 A8,.slice A0_1 l0_1.length c0_1]) (t:=24) ?hr ?_; (case hd=>rfl); (case hg=>rfl); (case hr=>first|(go_simp; done)|(go_simp; rfl)); intro gb261 hg w4 hbox hb; have n0_:=yA (AO zB hb); have n1_:=yA (hbox); have n2_:=yA ((by rw [hg]; exact (AQ zB):w.heap.size≤gb261)); have n3_:=yA ((by rw [hg]; exact (AQ zB):w.heap.size≤gb261)); clear HB; have HB:=n0_; have BK261:=n1_; have GW261:=n2_; have GE261:=n3_; clear n0_ n1_ n2_ n3_; clear hb hbox hg)); go_upto_region 1 with (first|((with_reducible refine Aq (N:=2) rfl ?_); (try (refine BC (by rfl) ?_; dsimp only)); refine Av ?hg (N:=2) ?hd (cs:= #[.int .i64 A8,.slice A0_1 l0_1.length c0_1]) (t:=24) ?hr ?_; (case hd=>rfl); (case hg=>rfl); (case hr=>first|(go_simp; done)|(go_simp; rfl)); intro gb261 hg w4 hbox hb; have n0_:=yA (AO zB hb); have n1_:=yA (hbox); have n2_:=yA ((by rw [hg]; exact (AQ zB):w.heap.size≤gb261)); have n3_:=yA ((by rw [hg]; exact (AQ zB):w.heap.size≤gb261)); clear HB; have HB:=n0_; have BK261:=n1_; have GW261:=n2_; have GE261:=n3_; clear n0_ n1_ n2_ n3_; clear hb hbox hg)))
 (try simp only [Act.put,List.setIfInBounds_toArray,List.set_cons_zero,List.set_cons_succ])
 go_cut [29] (fun v29 wc=>∃(kq:Nat) (x29_2:Bool),v29= .bool x29_2∧Aside0 (AR.j0 kq l1 x29_2 A8 l0_1=some (r1,r2))∧Aside0 (kq≤k)∧Aside0 (wc.heap[gb261]? =some (.cells #[.int .i64 A8,(.slice A0_1 l0_1.length c0_1)] 24 (0,0)))∧Aside0 (Below w.heap.size w wc))
 case first=>
  have H:=HC3.out
  clear HC3
  replace H:=Option.bind_eq_some_iff.mp H
  obtain ⟨t262,A50,H⟩:=H
  replace H:(if t262=true then ((AU.f k l1 (l0_1.length:Int)).bind fun t263=>(AR.j0 k l1 (!t263) A8 l0_1)) else (AR.j0 k l1 true A8 l0_1))=some (r1,r2):=H
  have A5:=yA A50
  clear A50
  by_cases c6:t262=true
  ·subst c6
   have H1:((AU.f k l1 (l0_1.length:Int)).bind fun t263=>(AR.j0 k l1 (!t263) A8 l0_1))=some (r1,r2):=by rw [if_pos rfl] at H; exact H
   clear H
   have H:=H1
   clear H1
   replace H:=Option.bind_eq_some_iff.mp H
   obtain ⟨t263,A70,H⟩:=H
   replace H:(AR.j0 k l1 (!t263) A8 l0_1)=some (r1,r2):=H
   have A7:=yA A70
   clear A70
   have H':=yA H
   clear H
   have hcz8_0:w4.cell? ⟨gb261,0,none⟩=some (.int .i64 A8):=(AK BK261.out 0).trans rfl
   have hcz8_1:w4.cell? ⟨gb261,1,none⟩=some (.slice A0_1 l0_1.length c0_1):=(AK BK261.out 1).trans rfl
   have hfz8_0:=AJ BK261.out 0
   have hfz8_1:=AJ BK261.out 1
   go_wp2_with (first|(go_at_call 36; (with_reducible refine (AS.calls k A8 _ _ l0_1 true _ ?side1 ?side2 A5.out).mono ?_); (case side1=>repeat (first|exact (Kd.C_below HR0_1.out HB.out)|(with_reducible refine Kd.C_alloc ?_ _)|(with_reducible refine Kd.C_drewN ?_ _)|(with_reducible refine Kd.C_drew ?_))); (case side2=>exact HC0_1.out); rintro e w9 ⟨rfl,hb⟩; have n0_:=yA (AP (g:=gb261) (o:= .cells #[.int .i64 A8,.slice A0_1 l0_1.length c0_1] 24 (0,0)) zO hb); have n1_:=yA (AO zL hb); clear BK261; clear HB; have BK261:=n0_; have HB:=n1_; clear n0_ n1_; (try clear hb); (try clear hb2); (try clear hk); (try clear hi); have hcz10_0:w9.cell? ⟨gb261,0,none⟩=some (.int .i64 A8):=(AK BK261.out 0).trans rfl; have hcz10_1:w9.cell? ⟨gb261,1,none⟩=some (.slice A0_1 l0_1.length c0_1):=(AK BK261.out 1).trans rfl; have hfz10_0:=AJ BK261.out 0; have hfz10_1:=AJ BK261.out 1)|(go_at_call 39; (with_reducible refine (AU.calls k _ _ l1 (l0_1.length:Int) t263 _ ?side1 ?side2 A7.out).mono ?_); (case side1=>repeat (first|exact (Kd.C_below HR1.out HB.out)|(with_reducible refine Kd.C_alloc ?_ _)|(with_reducible refine Kd.C_drewN ?_ _)|(with_reducible refine Kd.C_drew ?_))); (case side2=>exact HC1.out); rintro e w' ⟨rfl,⟨nd,rfl⟩⟩; (try first|exact ⟨rfl,_,World.drewN_drewN _ _ _⟩|exact ⟨rfl,_,Eq.trans (World.drewN_drewN _ _ _) (congrArg (World.drewN _) (Nat.add_assoc _ _ _))⟩)))
   repeat (go_quiet (first|(go_at_call 36; (with_reducible refine (AS.calls k A8 _ _ l0_1 true _ ?side1 ?side2 A5.out).mono ?_); (case side1=>repeat (first|exact (Kd.C_below HR0_1.out HB.out)|(with_reducible refine Kd.C_alloc ?_ _)|(with_reducible refine Kd.C_drewN ?_ _)|(with_reducible refine Kd.C_drew ?_))); (case side2=>exact HC0_1.out); rintro e w9 ⟨rfl,hb⟩; have n0_:=yA (AP (g:=gb261) (o:= .cells #[.int .i64 A8,.slice A0_1 l0_1.length c0_1] 24 (0,0)) zO hb); have n1_:=yA (AO zL hb); clear BK261; clear HB; have BK261:=n0_; have HB:=n1_; clear n0_ n1_; (try clear hb); (try clear hb2); (try clear hk); (try clear hi); have hcz10_0:w9.cell? ⟨gb261,0,none⟩=some (.int .i64 A8):=(AK BK261.out 0).trans rfl; have hcz10_1:w9.cell? ⟨gb261,1,none⟩=some (.slice A0_1 l0_1.length c0_1):=(AK BK261.out 1).trans rfl; have hfz10_0:=AJ BK261.out 0; have hfz10_1:=AJ BK261.out 1; clear A5)|(go_at_call 39; (with_reducible refine (AU.calls k _ _ l1 (l0_1.length:Int) t263 _ ?side1 ?side2 A7.out).mono ?_); (case side1=>repeat (first|exact (Kd.C_below HR1.out HB.out)|(with_reducible refine Kd.C_alloc ?_ _)|(with_reducible refine Kd.C_drewN ?_ _)|(with_reducible refine Kd.C_drew ?_))); (case side2=>exact HC1.out); rintro e w' ⟨rfl,⟨nd,rfl⟩⟩; (try first|exact ⟨rfl,_,World.drewN_drewN _ _ _⟩|exact ⟨rfl,_,Eq.trans (World.drewN_drewN _ _ _) (congrArg (World.drewN _) (Nat.add_assoc _ _ _))⟩); clear A7)); try go_wp2_with (first|(go_at_call 36; (with_reducible refine (AS.calls k A8 _ _ l0_1 true _ ?side1 ?side2 A5.out).mono ?_); (case side1=>repeat (first|exact (Kd.C_below HR0_1.out HB.out)|(with_reducible refine Kd.C_alloc ?_ _)|(with_reducible refine Kd.C_drewN ?_ _)|(with_reducible refine Kd.C_drew ?_))); (case side2=>exact HC0_1.out); rintro e w9 ⟨rfl,hb⟩; have n0_:=yA (AP (g:=gb261) (o:= .cells #[.int .i64 A8,.slice A0_1 l0_1.length c0_1] 24 (0,0)) zO hb); have n1_:=yA (AO zL hb); clear BK261; clear HB; have BK261:=n0_; have HB:=n1_; clear n0_ n1_; (try clear hb); (try clear hb2); (try clear hk); (try clear hi); have hcz10_0:w9.cell? ⟨gb261,0,none⟩=some (.int .i64 A8):=(AK BK261.out 0).trans rfl; have hcz10_1:w9.cell? ⟨gb261,1,none⟩=some (.slice A0_1 l0_1.length c0_1):=(AK BK261.out 1).trans rfl; have hfz10_0:=AJ BK261.out 0; have hfz10_1:=AJ BK261.out 1; clear A5)|(go_at_call 39; (with_reducible refine (AU.calls k _ _ l1 (l0_1.length:Int) t263 _ ?side1 ?side2 A7.out).mono ?_); (case side1=>repeat (first|exact (Kd.C_below HR1.out HB.out)|(with_reducible refine Kd.C_alloc ?_ _)|(with_reducible refine Kd.C_drewN ?_ _)|(with_reducible refine Kd.C_drew ?_))); (case side2=>exact HC1.out); rintro e w' ⟨rfl,⟨nd,rfl⟩⟩; (try first|exact ⟨rfl,_,World.drewN_drewN _ _ _⟩|exact ⟨rfl,_,Eq.trans (World.drewN_drewN _ _ _) (congrArg (World.drewN _) (Nat.add_assoc _ _ _))⟩); clear A7)))
   go_meet
   case rel=>exact ⟨_,(!t263),zH,H',⟨by first|omega|exact Nat.le_refl _⟩,⟨by (with_reducible repeat (first|refine AF ?_ _|refine AH ?_|refine AG ?_ _)); exact BK261.out⟩,⟨by repeat (first|(with_reducible first|exact HB.out|apply AE|apply AC|apply AD|refine AI ?_ GE261.out)|exact HB.out)⟩⟩
  ·replace c6:=Bool.eq_false_iff.mpr c6
   subst c6
   have H1:(AR.j0 k l1 true A8 l0_1)=some (r1,r2):=by rw [if_neg (show ¬(false=true) by decide)] at H; exact H
   clear H
   have H:=H1
   clear H1
   have H':=yA H
   clear H
   have hcz11_0:w4.cell? ⟨gb261,0,none⟩=some (.int .i64 A8):=(AK BK261.out 0).trans rfl
   have hcz11_1:w4.cell? ⟨gb261,1,none⟩=some (.slice A0_1 l0_1.length c0_1):=(AK BK261.out 1).trans rfl
   have hfz11_0:=AJ BK261.out 0
   have hfz11_1:=AJ BK261.out 1
   go_wp2_with (first|(go_at_call 36; (with_reducible refine (AS.calls k A8 _ _ l0_1 false _ ?side1 ?side2 A5.out).mono ?_); (case side1=>repeat (first|exact (Kd.C_below HR0_1.out HB.out)|(with_reducible refine Kd.C_alloc ?_ _)|(with_reducible refine Kd.C_drewN ?_ _)|(with_reducible refine Kd.C_drew ?_))); (case side2=>exact HC0_1.out); rintro e w12 ⟨rfl,hb⟩; have n0_:=yA (AP (g:=gb261) (o:= .cells #[.int .i64 A8,.slice A0_1 l0_1.length c0_1] 24 (0,0)) zO hb); have n1_:=yA (AO zL hb); clear BK261; clear HB; have BK261:=n0_; have HB:=n1_; clear n0_ n1_; (try clear hb); (try clear hb2); (try clear hk); (try clear hi)))
   repeat (go_quiet (first|(go_at_call 36; (with_reducible refine (AS.calls k A8 _ _ l0_1 false _ ?side1 ?side2 A5.out).mono ?_); (case side1=>repeat (first|exact (Kd.C_below HR0_1.out HB.out)|(with_reducible refine Kd.C_alloc ?_ _)|(with_reducible refine Kd.C_drewN ?_ _)|(with_reducible refine Kd.C_drew ?_))); (case side2=>exact HC0_1.out); rintro e w12 ⟨rfl,hb⟩; have n0_:=yA (AP (g:=gb261) (o:= .cells #[.int .i64 A8,.slice A0_1 l0_1.length c0_1] 24 (0,0)) zO hb); have n1_:=yA (AO zL hb); clear BK261; clear HB; have BK261:=n0_; have HB:=n1_; clear n0_ n1_; (try clear hb); (try clear hb2); (try clear hk); (try clear hi); clear A5)); try go_wp2_with (first|(go_at_call 36; (with_reducible refine (AS.calls k A8 _ _ l0_1 false _ ?side1 ?side2 A5.out).mono ?_); (case side1=>repeat (first|exact (Kd.C_below HR0_1.out HB.out)|(with_reducible refine Kd.C_alloc ?_ _)|(with_reducible refine Kd.C_drewN ?_ _)|(with_reducible refine Kd.C_drew ?_))); (case side2=>exact HC0_1.out); rintro e w12 ⟨rfl,hb⟩; have n0_:=yA (AP (g:=gb261) (o:= .cells #[.int .i64 A8,.slice A0_1 l0_1.length c0_1] 24 (0,0)) zO hb); have n1_:=yA (AO zL hb); clear BK261; clear HB; have BK261:=n0_; have HB:=n1_; clear n0_ n1_; (try clear hb); (try clear hb2); (try clear hk); (try clear hi); clear A5)))
   go_meet
   case rel=>exact ⟨_,(true),zH,H',⟨by first|omega|exact Nat.le_refl _⟩,⟨by (with_reducible repeat (first|refine AF ?_ _|refine AH ?_|refine AG ?_ _)); exact BK261.out⟩,⟨by repeat (first|(with_reducible first|exact HB.out|apply AE|apply AC|apply AD|refine AI ?_ GE261.out)|exact HB.out)⟩⟩
 case rest =>
  clear HC3
  try clear c1
  try clear c2
  try clear p2
  try clear c6
  try clear hcz10_0
  try clear hcz10_1
  try clear hcz11_0
  try clear hcz11_1
  try clear hcz8_0
  try clear hcz8_1
  try clear hfz10_0
  try clear hfz10_1
  try clear hfz11_0
  try clear hfz11_1
  try clear hfz8_0
  try clear hfz8_1
  obtain ⟨kq,x29_2,rfl,HA,HJ2,BK261,HB⟩:=hcut
  cases kq with
  |zero=>exact absurd HA.out (by simp [AR.j0])
  | succ kj2=>
   have H:=HA.out
   clear HA
   simp only [AR.j0] at H
   by_cases c13:x29_2=true
   ·subst c13
    have H1:(some (([]:List (S54)),1))=some (r1,r2):=by rw [if_pos rfl] at H; exact H
    clear H
    have H:=H1
    clear H1
    simp only [Option.some.injEq,Prod.mk.injEq] at H
    obtain ⟨rfl,rfl⟩:=H
    go_wp2
    repeat (go_quiet (fail); try go_wp2)
    go_ret2
    exact ⟨_,by first|rfl|(simp [AY,AX]<;>rfl)|(simp [*,AY,AX]<;>rfl),by first|exact Kd.R_nil _ _ _ _ _|exact Kd.N_nil _ _ _ _ _|exact Kd.V_nil _ _ _ _ _|exact Kd.Q_nil _ _ _ _ _|exact Kd.S_nil _ _ _ _ _,by repeat (first|(with_reducible first|exact HB.out|apply AE|apply AC|apply AD|refine AI ?_ GE261.out)|exact HB.out)⟩
   ·replace c13 :=Bool.eq_false_iff.mpr c13
    subst c13
    have H1:(if 0≤(l1.length:Int) then (if ((l1.length:Int):Int).toNat≤17592186044416 then (if ((l1.length:Int):Int).toNat≤281474976710656 then (if 0≤A8 then (if (A8:Int).toNat≤35184372088832 then (AR.l0 kj2 l1 (List.replicate ((l1.length:Int):Int).toNat z54) (List.replicate ((l1.length:Int):Int).toNat false) (List.replicate (A8:Int).toNat 0) 0 A8 l0_1) else (none)) else (none)) else (none)) else (none)) else (none))=some (r1,r2):=by rw [if_neg (show ¬(false=true) by decide)] at H; exact H
    clear H
    have H:=H1
    clear H1
    by_cases c14:0≤(l1.length:Int)
    ·rw [if_pos c14] at H
     have c14b0:=eq_true c14
     have c14b1:decide (0≤(l1.length:Int))=true:=decide_eq_true c14
     clear c14
     by_cases c15:((l1.length:Int):Int).toNat≤17592186044416
     ·rw [if_pos c15] at H
      have c15b0:=eq_true c15
      have c15b1:decide (((l1.length:Int):Int).toNat≤17592186044416)=true:=decide_eq_true c15
      clear c15
      obtain ⟨y264,hy264⟩:∃y_:List (S54),y_=(List.replicate ((l1.length:Int):Int).toNat z54):=⟨_,rfl⟩
      replace H:(if ((l1.length:Int):Int).toNat≤281474976710656 then (if 0≤A8 then (if (A8:Int).toNat≤35184372088832 then (AR.l0 kj2 l1 y264 (List.replicate ((l1.length:Int):Int).toNat false) (List.replicate (A8:Int).toNat 0) 0 A8 l0_1) else (none)) else (none)) else (none))=some (r1,r2):=by first|(rw [hy264]; with_reducible exact H)|(have H2_:=(Option.bind_some _ _).symm.trans H; rw [hy264]; with_reducible exact H2_)|(have H2_:=(Option.bind_some _ _).symm.trans H; with_reducible exact H2_)|with_reducible exact H|(rw [hy264]; exact H)|exact H
      have Ny264:=yA hy264
      clear hy264
      by_cases c16:((l1.length:Int):Int).toNat≤281474976710656
      ·rw [if_pos c16] at H
       have c16b0:=eq_true c16
       have c16b1:decide (((l1.length:Int):Int).toNat≤281474976710656)=true:=decide_eq_true c16
       clear c16
       obtain ⟨y267,hy267⟩:∃y_:List Bool,y_=(List.replicate ((l1.length:Int):Int).toNat false):=⟨_,rfl⟩
       replace H:(if 0≤A8 then (if (A8:Int).toNat≤35184372088832 then (AR.l0 kj2 l1 y264 y267 (List.replicate (A8:Int).toNat 0) 0 A8 l0_1) else (none)) else (none))=some (r1,r2):=by first|(rw [hy267]; with_reducible exact H)|(have H2_:=(Option.bind_some _ _).symm.trans H; rw [hy267]; with_reducible exact H2_)|(have H2_:=(Option.bind_some _ _).symm.trans H; with_reducible exact H2_)|with_reducible exact H|(rw [hy267]; exact H)|exact H
       have Ny267:=yA hy267
       clear hy267
       by_cases c17:0≤A8
       ·rw [if_pos c17] at H
        have c17b0:=eq_true c17
        have c17b1:decide (0≤A8)=true:=decide_eq_true c17
        clear c17
        by_cases c18:(A8:Int).toNat≤35184372088832
        ·rw [if_pos c18] at H
         have c18b0:=eq_true c18
         have c18b1:decide ((A8:Int).toNat≤35184372088832)=true:=decide_eq_true c18
         clear c18
         obtain ⟨y270,hy270⟩:∃y_:List Int,y_=(List.replicate (A8:Int).toNat 0):=⟨_,rfl⟩
         replace H:(AR.l0 kj2 l1 y264 y267 y270 0 A8 l0_1)=some (r1,r2):=by first|(rw [hy270]; with_reducible exact H)|(have H2_:=(Option.bind_some _ _).symm.trans H; rw [hy270]; with_reducible exact H2_)|(have H2_:=(Option.bind_some _ _).symm.trans H; with_reducible exact H2_)|with_reducible exact H|(rw [hy270]; exact H)|exact H
         have Ny270:=yA hy270
         clear hy270
         have H':=yA H
         clear H
         go_wp2_with (first|((with_reducible refine Aq (N:=32) rfl ?_); (try (refine BC (by rfl) ?_; dsimp only)); refine Kd.R_make k54 _ 54 rfl (N:=32) rfl 25 _ _ rfl (l1.length:Int) rfl rfl Try.underlying25 (.agg #[(.int .i64 0),(.int .i64 0)]) 16 info54 rfl zA0 zE z54 (ok:=fun _=>True) (okp:=fun _=>True) (CR _ _ _ z54) (fun _ hk=>hk) trivial (yD) (Nat.le_trans (Nat.mul_le_mul_right _ (yD:(l1.length:Int).toNat≤17592186044416)) zE) (Below.refl _ _) (Nat.le_refl _) ?_; intro v265 w19 ho20 hb hg_ hnew_; clear hg_ hnew_; (first|rw [←Ny264.out] at ho20|(simp only [Int.reduceToNat] at ho20; rw [←Ny264.out] at ho20)); have n0_:=yA (Kd.R_lower ho20 (AQ zL)); have n1_:=yA (AP (g:=gb261) (o:= .cells #[.int .i64 A8,.slice A0_1 l0_1.length c0_1] 24 (0,0)) zO hb); have n2_:=yA (AO zL hb); clear BK261; clear HB; have HO266:=n0_; have BK261:=n1_; have HB:=n2_; clear n0_ n1_ n2_; clear hb ho20)|((with_reducible refine Aq (N:=35) rfl ?_); (try (refine BC (by rfl) ?_; dsimp only)); refine Kd.R_make Kd.bool _ 4 rfl (N:=35) rfl 67 _ _ rfl (l1.length:Int) rfl rfl Try.underlying67 (.bool false) 1 info4 rfl zA0 zE false (ok:=fun _=>True) (okp:=fun _=>True) rfl (fun _ hk=>hk) trivial (yD) (Nat.le_trans (Nat.mul_le_mul_right _ (yD:(l1.length:Int).toNat≤281474976710656)) zE) (Below.refl _ _) (Nat.le_refl _) ?_; intro v268 w21 ho22 hb hg_ hnew_; clear hg_ hnew_; (first|rw [←Ny267.out] at ho22|(simp only [Int.reduceToNat] at ho22; rw [←Ny267.out] at ho22)); have n0_:=yA (Kd.R_below zD0 hb); have n1_:=yA (Kd.R_lower ho22 (AQ zL)); have n2_:=yA (AP (g:=gb261) (o:= .cells #[.int .i64 A8,.slice A0_1 l0_1.length c0_1] 24 (0,0)) zO hb); have n3_:=yA (AO zL hb); clear HO266; clear BK261; clear HB; have HO266:=n0_; have HO269:=n1_; have BK261:=n2_; have HB:=n3_; clear n0_ n1_ n2_ n3_; clear hb ho22; have hcz23_0:w21.cell? ⟨gb261,0,none⟩=some (.int .i64 A8):=(AK BK261.out 0).trans rfl; have hcz23_1:w21.cell? ⟨gb261,1,none⟩=some (.slice A0_1 l0_1.length c0_1):=(AK BK261.out 1).trans rfl; have hfz23_0:=AJ BK261.out 0; have hfz23_1:=AJ BK261.out 1)|((with_reducible refine Aq (N:=38) rfl ?_); (try (refine BC (by rfl) ?_; dsimp only)); refine Kd.R_make (Kd.int .i64) _ 3 rfl (N:=38) rfl 26 _ _ rfl A8 rfl rfl Try.underlying26 (.int .i64 0) 8 info3 rfl zA0 zE 0 (ok:=fun _=>True) (okp:=fun _=>True) rfl (fun _ hk=>hk) trivial (yD) (Nat.le_trans (Nat.mul_le_mul_right _ (yD:A8.toNat≤35184372088832)) zE) (Below.refl _ _) (Nat.le_refl _) ?_; intro v271 w24 ho25 hb hg_ hnew_; clear hg_ hnew_; (first|rw [←Ny270.out] at ho25|(simp only [Int.reduceToNat] at ho25; rw [←Ny270.out] at ho25)); have n0_:=yA (Kd.R_below zD0 hb); have n1_:=yA (Kd.R_below (by (with_reducible repeat (first|apply Kd.R_alloc|apply Kd.R_drewN|apply Kd.R_drew)); exact HO269.out) hb); have n2_:=yA (Kd.R_lower ho25 (AQ zL)); have n3_:=yA (AP (g:=gb261) (o:= .cells #[.int .i64 A8,.slice A0_1 l0_1.length c0_1] 24 (0,0)) zO hb); have n4_:=yA (AO zL hb); clear HO266; clear HO269; clear BK261; clear HB; have HO266:=n0_; have HO269:=n1_; have HO272:=n2_; have BK261:=n3_; have HB:=n4_; clear n0_ n1_ n2_ n3_ n4_; clear hb ho25))
         repeat (go_quiet (first|((with_reducible refine Aq (N:=32) rfl ?_); (try (refine BC (by rfl) ?_; dsimp only)); refine Kd.R_make k54 _ 54 rfl (N:=32) rfl 25 _ _ rfl (l1.length:Int) rfl rfl Try.underlying25 (.agg #[(.int .i64 0),(.int .i64 0)]) 16 info54 rfl zA0 zE z54 (ok:=fun _=>True) (okp:=fun _=>True) (CR _ _ _ z54) (fun _ hk=>hk) trivial (yD) (Nat.le_trans (Nat.mul_le_mul_right _ (yD:(l1.length:Int).toNat≤17592186044416)) zE) (Below.refl _ _) (Nat.le_refl _) ?_; intro v265 w19 ho20 hb hg_ hnew_; clear hg_ hnew_; (first|rw [←Ny264.out] at ho20|(simp only [Int.reduceToNat] at ho20; rw [←Ny264.out] at ho20)); have n0_:=yA (Kd.R_lower ho20 (AQ zL)); have n1_:=yA (AP (g:=gb261) (o:= .cells #[.int .i64 A8,.slice A0_1 l0_1.length c0_1] 24 (0,0)) zO hb); have n2_:=yA (AO zL hb); clear BK261; clear HB; have HO266:=n0_; have BK261:=n1_; have HB:=n2_; clear n0_ n1_ n2_; clear hb ho20)|((with_reducible refine Aq (N:=35) rfl ?_); (try (refine BC (by rfl) ?_; dsimp only)); refine Kd.R_make Kd.bool _ 4 rfl (N:=35) rfl 67 _ _ rfl (l1.length:Int) rfl rfl Try.underlying67 (.bool false) 1 info4 rfl zA0 zE false (ok:=fun _=>True) (okp:=fun _=>True) rfl (fun _ hk=>hk) trivial (yD) (Nat.le_trans (Nat.mul_le_mul_right _ (yD:(l1.length:Int).toNat≤281474976710656)) zE) (Below.refl _ _) (Nat.le_refl _) ?_; intro v268 w21 ho22 hb hg_ hnew_; clear hg_ hnew_; (first|rw [←Ny267.out] at ho22|(simp only [Int.reduceToNat] at ho22; rw [←Ny267.out] at ho22)); have n0_:=yA (Kd.R_below zD0 hb); have n1_:=yA (Kd.R_lower ho22 (AQ zL)); have n2_:=yA (AP (g:=gb261) (o:= .cells #[.int .i64 A8,.slice A0_1 l0_1.length c0_1] 24 (0,0)) zO hb); have n3_:=yA (AO zL hb); clear HO266; clear BK261; clear HB; have HO266:=n0_; have HO269:=n1_; have BK261:=n2_; have HB:=n3_; clear n0_ n1_ n2_ n3_; clear hb ho22; have hcz23_0:w21.cell? ⟨gb261,0,none⟩=some (.int .i64 A8):=(AK BK261.out 0).trans rfl; have hcz23_1:w21.cell? ⟨gb261,1,none⟩=some (.slice A0_1 l0_1.length c0_1):=(AK BK261.out 1).trans rfl; have hfz23_0:=AJ BK261.out 0; have hfz23_1:=AJ BK261.out 1)|((with_reducible refine Aq (N:=38) rfl ?_); (try (refine BC (by rfl) ?_; dsimp only)); refine Kd.R_make (Kd.int .i64) _ 3 rfl (N:=38) rfl 26 _ _ rfl A8 rfl rfl Try.underlying26 (.int .i64 0) 8 info3 rfl zA0 zE 0 (ok:=fun _=>True) (okp:=fun _=>True) rfl (fun _ hk=>hk) trivial (yD) (Nat.le_trans (Nat.mul_le_mul_right _ (yD:A8.toNat≤35184372088832)) zE) (Below.refl _ _) (Nat.le_refl _) ?_; intro v271 w24 ho25 hb hg_ hnew_; clear hg_ hnew_; (first|rw [←Ny270.out] at ho25|(simp only [Int.reduceToNat] at ho25; rw [←Ny270.out] at ho25)); have n0_:=yA (Kd.R_below zD0 hb); have n1_:=yA (Kd.R_below (by (with_reducible repeat (first|apply Kd.R_alloc|apply Kd.R_drewN|apply Kd.R_drew)); exact HO269.out) hb); have n2_:=yA (Kd.R_lower ho25 (AQ zL)); have n3_:=yA (AP (g:=gb261) (o:= .cells #[.int .i64 A8,.slice A0_1 l0_1.length c0_1] 24 (0,0)) zO hb); have n4_:=yA (AO zL hb); clear HO266; clear HO269; clear BK261; clear HB; have HO266:=n0_; have HO269:=n1_; have HO272:=n2_; have BK261:=n3_; have HB:=n4_; clear n0_ n1_ n2_ n3_ n4_; clear hb ho25)); try go_wp2_with (first|((with_reducible refine Aq (N:=32) rfl ?_); (try (refine BC (by rfl) ?_; dsimp only)); refine Kd.R_make k54 _ 54 rfl (N:=32) rfl 25 _ _ rfl (l1.length:Int) rfl rfl Try.underlying25 (.agg #[(.int .i64 0),(.int .i64 0)]) 16 info54 rfl zA0 zE z54 (ok:=fun _=>True) (okp:=fun _=>True) (CR _ _ _ z54) (fun _ hk=>hk) trivial (yD) (Nat.le_trans (Nat.mul_le_mul_right _ (yD:(l1.length:Int).toNat≤17592186044416)) zE) (Below.refl _ _) (Nat.le_refl _) ?_; intro v265 w19 ho20 hb hg_ hnew_; clear hg_ hnew_; (first|rw [←Ny264.out] at ho20|(simp only [Int.reduceToNat] at ho20; rw [←Ny264.out] at ho20)); have n0_:=yA (Kd.R_lower ho20 (AQ zL)); have n1_:=yA (AP (g:=gb261) (o:= .cells #[.int .i64 A8,.slice A0_1 l0_1.length c0_1] 24 (0,0)) zO hb); have n2_:=yA (AO zL hb); clear BK261; clear HB; have HO266:=n0_; have BK261:=n1_; have HB:=n2_; clear n0_ n1_ n2_; clear hb ho20)|((with_reducible refine Aq (N:=35) rfl ?_); (try (refine BC (by rfl) ?_; dsimp only)); refine Kd.R_make Kd.bool _ 4 rfl (N:=35) rfl 67 _ _ rfl (l1.length:Int) rfl rfl Try.underlying67 (.bool false) 1 info4 rfl zA0 zE false (ok:=fun _=>True) (okp:=fun _=>True) rfl (fun _ hk=>hk) trivial (yD) (Nat.le_trans (Nat.mul_le_mul_right _ (yD:(l1.length:Int).toNat≤281474976710656)) zE) (Below.refl _ _) (Nat.le_refl _) ?_; intro v268 w21 ho22 hb hg_ hnew_; clear hg_ hnew_; (first|rw [←Ny267.out] at ho22|(simp only [Int.reduceToNat] at ho22; rw [←Ny267.out] at ho22)); have n0_:=yA (Kd.R_below zD0 hb); have n1_:=yA (Kd.R_lower ho22 (AQ zL)); have n2_:=yA (AP (g:=gb261) (o:= .cells #[.int .i64 A8,.slice A0_1 l0_1.length c0_1] 24 (0,0)) zO hb); have n3_:=yA (AO zL hb); clear HO266; clear BK261; clear HB; have HO266:=n0_; have HO269:=n1_; have BK261:=n2_; have HB:=n3_; clear n0_ n1_ n2_ n3_; clear hb ho22; have hcz23_0:w21.cell? ⟨gb261,0,none⟩=some (.int .i64 A8):=(AK BK261.out 0).trans rfl; have hcz23_1:w21.cell? ⟨gb261,1,none⟩=some (.slice A0_1 l0_1.length c0_1):=(AK BK261.out 1).trans rfl; have hfz23_0:=AJ BK261.out 0; have hfz23_1:=AJ BK261.out 1)|((with_reducible refine Aq (N:=38) rfl ?_); (try (refine BC (by rfl) ?_; dsimp only)); refine Kd.R_make (Kd.int .i64) _ 3 rfl (N:=38) rfl 26 _ _ rfl A8 rfl rfl Try.underlying26 (.int .i64 0) 8 info3 rfl zA0 zE 0 (ok:=fun _=>True) (okp:=fun _=>True) rfl (fun _ hk=>hk) trivial (yD) (Nat.le_trans (Nat.mul_le_mul_right _ (yD:A8.toNat≤35184372088832)) zE) (Below.refl _ _) (Nat.le_refl _) ?_; intro v271 w24 ho25 hb hg_ hnew_; clear hg_ hnew_; (first|rw [←Ny270.out] at ho25|(simp only [Int.reduceToNat] at ho25; rw [←Ny270.out] at ho25)); have n0_:=yA (Kd.R_below zD0 hb); have n1_:=yA (Kd.R_below (by (with_reducible repeat (first|apply Kd.R_alloc|apply Kd.R_drewN|apply Kd.R_drew)); exact HO269.out) hb); have n2_:=yA (Kd.R_lower ho25 (AQ zL)); have n3_:=yA (AP (g:=gb261) (o:= .cells #[.int .i64 A8,.slice A0_1 l0_1.length c0_1] 24 (0,0)) zO hb); have n4_:=yA (AO zL hb); clear HO266; clear HO269; clear BK261; clear HB; have HO266:=n0_; have HO269:=n1_; have HO272:=n2_; have BK261:=n3_; have HB:=n4_; clear n0_ n1_ n2_ n3_ n4_; clear hb ho25)))
         go_loopg [9] kj2 (fun kq v9 w'=>∃(x6_2:List (S54)) (x7_2:List Bool) (x8_2:List Int) (x9_2:Int),v9= .int .i64 x9_2∧Aside0 (AR.l0 kq l1 x6_2 x7_2 x8_2 x9_2 A8 l0_1=some (r1,r2))∧Aside0 (kq≤kj2)∧Aside0 (Kd.R k54 54 w' w.heap.size (fun _=>True) v265 x6_2)∧Aside0 (Kd.R Kd.bool 4 w' w.heap.size (fun _=>True) v268 x7_2)∧Aside0 (Kd.R (Kd.int .i64) 3 w' w.heap.size (fun _=>True) v271 x8_2)∧Aside0 (w'.heap[gb261]? =some (.cells #[.int .i64 A8,(.slice A0_1 l0_1.length c0_1)] 24 (0,0)))∧Aside0 (Below w.heap.size w w'))
         case atStart=>exact ⟨(y264),(y267),(y270),(0),zH,H',⟨Nat.le_refl _⟩,⟨by (with_reducible repeat (first|apply Kd.R_alloc|apply Kd.R_drewN|apply Kd.R_drew)); exact HO266.out⟩,⟨by (with_reducible repeat (first|apply Kd.R_alloc|apply Kd.R_drewN|apply Kd.R_drew)); exact HO269.out⟩,⟨by (with_reducible repeat (first|apply Kd.R_alloc|apply Kd.R_drewN|apply Kd.R_drew)); exact HO272.out⟩,⟨by (with_reducible repeat (first|refine AF ?_ _|refine AH ?_|refine AG ?_ _)); exact BK261.out⟩,⟨by repeat (first|(with_reducible first|exact HB.out|apply AE|apply AC|apply AD|refine AI ?_ GE261.out)|exact HB.out)⟩⟩
         case round=>
          clear H'
          try clear c1
          try clear c2
          try clear p2
          try clear c6
          try clear c13
          try clear c14
          try clear c14b0
          try clear c14b1
          try clear c15
          try clear c15b0
          try clear c15b1
          try clear c16
          try clear c16b0
          try clear c16b1
          try clear c17
          try clear c17b0
          try clear c17b1
          try clear c18
          try clear c18b0
          try clear c18b1
          try clear c21
          try clear hcz10_0
          try clear hcz10_1
          try clear hcz11_0
          try clear hcz11_1
          try clear hcz23_0
          try clear hcz23_1
          try clear hcz8_0
          try clear hcz8_1
          try clear hfz10_0
          try clear hfz10_1
          try clear hfz11_0
          try clear hfz11_1
          try clear hfz23_0
          try clear hfz23_1
          try clear hfz8_0
          try clear hfz8_1
          try clear p2
          obtain ⟨x6_2,x7_2,x8_2,x9_2,rfl,HA,HK2,HO_6,HO_7,HO_8,BK261,HB⟩:=hrel
          cases gk with
          |zero=>exact absurd HA.out (by simp [AR.l0])
          | succ k2 =>
           have H:=HA.out
           clear HA
           simp only [AR.l0] at H
           by_cases c26:x9_2<(l1.length:Int)
           ·rw [if_pos c26] at H
            have c26b0:decide (x9_2<(l1.length:Int))=true:=decide_eq_true c26
            clear c26
            have H':=yA H
            clear H
            go_wp2
            repeat (go_quiet (fail); try go_wp2)
            go_loopg [10,11] k2 (fun kq v10 v11 w'=>∃(x10_3:Int) (x11_3:Int),v10= .int .i64 x10_3∧v11= .int .i64 x11_3∧Aside0 (AR.l1 kq l1 x6_2 x7_2 x8_2 x9_2 x10_3 x11_3 A8 l0_1=some (r1,r2))∧Aside0 (kq≤k2)∧Aside0 (Kd.R k54 54 w' w.heap.size (fun _=>True) v265 x6_2)∧Aside0 (Kd.R Kd.bool 4 w' w.heap.size (fun _=>True) v268 x7_2)∧Aside0 (Kd.R (Kd.int .i64) 3 w' w.heap.size (fun _=>True) v271 x8_2)∧Aside0 (w'.heap[gb261]? =some (.cells #[.int .i64 A8,(.slice A0_1 l0_1.length c0_1)] 24 (0,0)))∧Aside0 (Below w.heap.size w w'))
            case atStart=>exact ⟨((-1)),(0),zH,zH,H',⟨Nat.le_refl _⟩,⟨by (with_reducible repeat (first|apply Kd.R_alloc|apply Kd.R_drewN|apply Kd.R_drew)); exact HO_6.out⟩,⟨by (with_reducible repeat (first|apply Kd.R_alloc|apply Kd.R_drewN|apply Kd.R_drew)); exact HO_7.out⟩,⟨by (with_reducible repeat (first|apply Kd.R_alloc|apply Kd.R_drewN|apply Kd.R_drew)); exact HO_8.out⟩,⟨by (with_reducible repeat (first|refine AF ?_ _|refine AH ?_|refine AG ?_ _)); exact BK261.out⟩,⟨by repeat (first|(with_reducible first|exact HB.out|apply AE|apply AC|apply AD|refine AI ?_ GE261.out)|exact HB.out)⟩⟩
            case round=>
             clear H'
             try clear c1
             try clear c2
             try clear p2
             try clear c6
             try clear c13
             try clear c14
             try clear c14b0
             try clear c14b1
             try clear c15
             try clear c15b0
             try clear c15b1
             try clear c16
             try clear c16b0
             try clear c16b1
             try clear c17
             try clear c17b0
             try clear c17b1
             try clear c18
             try clear c18b0
             try clear c18b1
             try clear c21
             try clear c26
             try clear c26b0
             try clear hcz10_0
             try clear hcz10_1
             try clear hcz11_0
             try clear hcz11_1
             try clear hcz23_0
             try clear hcz23_1
             try clear hcz8_0
             try clear hcz8_1
             try clear hfz10_0
             try clear hfz10_1
             try clear hfz11_0
             try clear hfz11_1
             try clear hfz23_0
             try clear hfz23_1
             try clear hfz8_0
             try clear hfz8_1
             try clear p2
             obtain ⟨x10_3,x11_3,rfl,rfl,HA,HK3,HO_6,HO_7,HO_8,BK261,HB⟩:=hrel
             cases gk with
             |zero=>exact absurd HA.out (by simp [AR.l1])
             | succ k3 =>
              have H:=HA.out
              clear HA
              simp only [AR.l1] at H
              have HC27:=yA H
              clear H
              go_upto_region 11 with (fail)
              repeat (go_quiet (fail); go_upto_region 11 with (fail))
              go_cut [52] (fun v52 wc=>∃(kq:Nat) (x52_26:Bool),v52= .bool x52_26∧Aside0 (AR.j3 kq l1 x6_2 x7_2 x8_2 x9_2 x10_3 x11_3 x52_26 A8 l0_1=some (r1,r2))∧Aside0 (kq≤k3)∧Aside0 (Kd.R k54 54 wc w.heap.size (fun _=>True) v265 x6_2)∧Aside0 (Kd.R Kd.bool 4 wc w.heap.size (fun _=>True) v268 x7_2)∧Aside0 (Kd.R (Kd.int .i64) 3 wc w.heap.size (fun _=>True) v271 x8_2)∧Aside0 (wc.heap[gb261]? =some (.cells #[.int .i64 A8,(.slice A0_1 l0_1.length c0_1)] 24 (0,0)))∧Aside0 (Below w.heap.size w wc))
              case first=>
               have H:=HC27.out
               clear HC27
               by_cases c28:x11_3<(l1.length:Int)
               ·rw [if_pos c28] at H
                have c28b0:decide (x11_3<(l1.length:Int))=true:=decide_eq_true c28
                clear c28
                (first|rw [c28b0]|(simp only [Aa,Ab]; rw [c28b0])|skip)
                have H':=yA H
                clear H
                go_wp2
                repeat (go_quiet (fail); try go_wp2)
                go_meet
                case rel=>exact ⟨_,(decide (x10_3<0)),zH,H',⟨by have:=HJ2.out; have:=HK2.out; have:=HK3.out; first|omega|exact Nat.le_refl _⟩,⟨by (with_reducible repeat (first|apply Kd.R_alloc|apply Kd.R_drewN|apply Kd.R_drew)); exact HO_6.out⟩,⟨by (with_reducible repeat (first|apply Kd.R_alloc|apply Kd.R_drewN|apply Kd.R_drew)); exact HO_7.out⟩,⟨by (with_reducible repeat (first|apply Kd.R_alloc|apply Kd.R_drewN|apply Kd.R_drew)); exact HO_8.out⟩,⟨by (with_reducible repeat (first|refine AF ?_ _|refine AH ?_|refine AG ?_ _)); exact BK261.out⟩,⟨by repeat (first|(with_reducible first|exact HB.out|apply AE|apply AC|apply AD|refine AI ?_ GE261.out)|exact HB.out)⟩⟩
               ·rw [if_neg c28] at H
                have c28b0:decide (x11_3<(l1.length:Int))=false:=decide_eq_false c28
                clear c28
                (first|rw [c28b0]|(simp only [Aa,Ab]; rw [c28b0])|skip)
                have H':=yA H
                clear H
                go_wp2
                repeat (go_quiet (fail); try go_wp2)
                go_meet
                case rel=>exact ⟨_,(false),zH,H',⟨by have:=HJ2.out; have:=HK2.out; have:=HK3.out; first|omega|exact Nat.le_refl _⟩,⟨by (with_reducible repeat (first|apply Kd.R_alloc|apply Kd.R_drewN|apply Kd.R_drew)); exact HO_6.out⟩,⟨by (with_reducible repeat (first|apply Kd.R_alloc|apply Kd.R_drewN|apply Kd.R_drew)); exact HO_7.out⟩,⟨by (with_reducible repeat (first|apply Kd.R_alloc|apply Kd.R_drewN|apply Kd.R_drew)); exact HO_8.out⟩,⟨by (with_reducible repeat (first|refine AF ?_ _|refine AH ?_|refine AG ?_ _)); exact BK261.out⟩,⟨by repeat (first|(with_reducible first|exact HB.out|apply AE|apply AC|apply AD|refine AI ?_ GE261.out)|exact HB.out)⟩⟩
              case rest =>
               clear HC27
               try clear c1
               try clear c2
               try clear p2
               try clear c6
               try clear c13
               try clear c14
               try clear c14b0
               try clear c14b1
               try clear c15
               try clear c15b0
               try clear c15b1
               try clear c16
               try clear c16b0
               try clear c16b1
               try clear c17
               try clear c17b0
               try clear c17b1
               try clear c18
               try clear c18b0
               try clear c18b1
               try clear c21
               try clear c26
               try clear c26b0
               try clear c28
               try clear c28b0
               try clear hcz10_0
               try clear hcz10_1
               try clear hcz11_0
               try clear hcz11_1
               try clear hcz23_0
               try clear hcz23_1
               try clear hcz8_0
               try clear hcz8_1
               try clear hfz10_0
               try clear hfz10_1
               try clear hfz11_0
               try clear hfz11_1
               try clear hfz23_0
               try clear hfz23_1
               try clear hfz8_0
               try clear hfz8_1
               try clear p2
               obtain ⟨kq,x52_26,rfl,HA,HJ26,HO_6,HO_7,HO_8,BK261,HB⟩:=hcut
               cases kq with
               |zero=>exact absurd HA.out (by simp [AR.j3])
               | succ kj26 =>
                have H:=HA.out
                clear HA
                simp only [AR.j3] at H
                by_cases c29:x52_26=true
                ·subst c29
                 have H1:(if 0≤x11_3 then (if x11_3<(l1.length:Int) then (if 0≤(rd l1 x11_3) then (if (rd l1 x11_3)<(x7_2.length:Int) then (AR.l2 kj26 l1 x6_2 x7_2 x8_2 x9_2 x10_3 x11_3 (!(rdOf false x7_2 (rd l1 x11_3))) 0 A8 l0_1) else (none)) else (none)) else (none)) else (none))=some (r1,r2):=by rw [if_pos rfl] at H; exact H
                 clear H
                 have H:=H1
                 clear H1
                 by_cases c30:0≤x11_3
                 ·rw [if_pos c30] at H
                  have c30b0:decide (0≤x11_3)=true:=decide_eq_true c30
                  clear c30
                  by_cases c31:x11_3<(l1.length:Int)
                  ·rw [if_pos c31] at H
                   have c31b0:decide (x11_3<(l1.length:Int))=true:=decide_eq_true c31
                   clear c31
                   by_cases c32:0≤(rd l1 x11_3)
                   ·rw [if_pos c32] at H
                    have c32b0:decide (0≤(rd l1 x11_3))=true:=decide_eq_true c32
                    clear c32
                    by_cases c33:(rd l1 x11_3)<(x7_2.length:Int)
                    ·rw [if_pos c33] at H
                     have c33b0:decide ((rd l1 x11_3)<(x7_2.length:Int))=true:=decide_eq_true c33
                     clear c33
                     have H':=yA H
                     clear H
                     have p273:0≤(x11_3:Int):=yD
                     have q273:x11_3<(l1.length:Int):=yD
                     obtain ⟨ad273,e273,hx273_0⟩:=Kd.at_int HR1.out x11_3 p273 q273
                     cases e273
                     replace hx273_0:=yC HB.out hx273_0
                     replace p273:=eq_true p273
                     replace q273:=eq_true q273
                     obtain ⟨Ao34,co34,eo34⟩:=Kd.R_slice HO_7.out
                     subst eo34
                     have p274:0≤((rd l1 x11_3):Int):=yD
                     have q274:(rd l1 x11_3)<(x7_2.length:Int):=yD
                     obtain ⟨ad274,e274,hx274_0⟩:=Kd.at_bool (Kd.R_reads' HO_7.out).2.2 (rd l1 x11_3) p274 q274
                     cases e274
                     replace p274:=eq_true p274
                     replace q274:=eq_true q274
                     go_wp2
                     repeat (go_quiet (fail); try go_wp2)
                     go_loopg [12,13] kj26 (fun kq v12 v13 w'=>∃(x12_5:Bool) (x13_5:Int),v12= .bool x12_5∧v13= .int .i64 x13_5∧Aside0 (AR.l2 kq l1 x6_2 x7_2 x8_2 x9_2 x10_3 x11_3 x12_5 x13_5 A8 l0_1=some (r1,r2))∧Aside0 (kq≤kj26)∧Aside0 (Kd.R k54 54 w' w.heap.size (fun _=>True) v265 x6_2)∧Aside0 (Kd.R Kd.bool 4 w' w.heap.size (fun _=>True) (.slice (some ad274) x7_2.length co34) x7_2)∧Aside0 (Kd.R (Kd.int .i64) 3 w' w.heap.size (fun _=>True) v271 x8_2)∧Aside0 (w'.heap[gb261]? =some (.cells #[.int .i64 A8,(.slice A0_1 l0_1.length c0_1)] 24 (0,0)))∧Aside0 (Below w.heap.size w w'))
                     case atStart=>exact ⟨(!(rdOf false x7_2 (rd l1 x11_3))),(0),zH,zH,H',⟨Nat.le_refl _⟩,⟨by (with_reducible repeat (first|apply Kd.R_alloc|apply Kd.R_drewN|apply Kd.R_drew)); exact HO_6.out⟩,⟨by (with_reducible repeat (first|apply Kd.R_alloc|apply Kd.R_drewN|apply Kd.R_drew)); exact HO_7.out⟩,⟨by (with_reducible repeat (first|apply Kd.R_alloc|apply Kd.R_drewN|apply Kd.R_drew)); exact HO_8.out⟩,⟨by (with_reducible repeat (first|refine AF ?_ _|refine AH ?_|refine AG ?_ _)); exact BK261.out⟩,⟨by repeat (first|(with_reducible first|exact HB.out|apply AE|apply AC|apply AD|refine AI ?_ GE261.out)|exact HB.out)⟩⟩
                     case round=>
                      clear H'
                      try clear c1
                      try clear c2
                      try clear p2
                      try clear q2
                      try clear hx2
                      try clear c3
                      try clear c6
                      try clear c13
                      try clear c14
                      try clear c14b0
                      try clear c14b1
                      try clear c15
                      try clear c15b0
                      try clear c15b1
                      try clear c16
                      try clear c16b0
                      try clear c16b1
                      try clear c17
                      try clear c17b0
                      try clear c17b1
                      try clear c18
                      try clear c18b0
                      try clear c18b1
                      try clear c21
                      try clear c26
                      try clear c26b0
                      try clear p27
                      try clear q27
                      try clear hx27
                      try clear c28
                      try clear c28b0
                      try clear c29
                      try clear c30
                      try clear c30b0
                      try clear c31
                      try clear c31b0
                      try clear c32
                      try clear c32b0
                      try clear c33
                      try clear c33b0
                      try clear hcz10_0
                      try clear hcz10_1
                      try clear hcz11_0
                      try clear hcz11_1
                      try clear hcz23_0
                      try clear hcz23_1
                      try clear hcz8_0
                      try clear hcz8_1
                      try clear hfz10_0
                      try clear hfz10_1
                      try clear hfz11_0
                      try clear hfz11_1
                      try clear hfz23_0
                      try clear hfz23_1
                      try clear hfz8_0
                      try clear hfz8_1
                      try clear hx273_0
                      try clear hx274_0
                      try clear p2
                      try clear p273
                      try clear p274
                      try clear q273
                      try clear q274
                      obtain ⟨x12_5,x13_5,rfl,rfl,HA,HK5,HO_6,HO_7,HO_8,BK261,HB⟩:=hrel
                      cases gk with
                      |zero=>exact absurd HA.out (by simp [AR.l2])
                      | succ k5 =>
                       have H:=HA.out
                       clear HA
                       simp only [AR.l2] at H
                       by_cases c35:0≤x11_3
                       ·rw [if_pos c35] at H
                        have c35b0:decide (0≤x11_3)=true:=decide_eq_true c35
                        clear c35
                        by_cases c36:x11_3<(l1.length:Int)
                        ·rw [if_pos c36] at H
                         have c36b0:decide (x11_3<(l1.length:Int))=true:=decide_eq_true c36
                         clear c36
                         by_cases c37:0≤(rd l1 x11_3)
                         ·rw [if_pos c37] at H
                          have c37b0:decide (0≤(rd l1 x11_3))=true:=decide_eq_true c37
                          clear c37
                          by_cases c38:(rd l1 x11_3)<(l0_1.length:Int)
                          ·rw [if_pos c38] at H
                           have c38b0:decide ((rd l1 x11_3)<(l0_1.length:Int))=true:=decide_eq_true c38
                           clear c38
                           by_cases c39:x13_5<(((AL l0_1 (rd l1 x11_3)).f3).length:Int)
                           ·rw [if_pos c39] at H
                            have c39b0:decide (x13_5<(((AL l0_1 (rd l1 x11_3)).f3).length:Int))=true:=decide_eq_true c39
                            clear c39
                            by_cases c40:x12_5=true
                            ·subst c40
                             have H1:(if 0≤x13_5 then (if 0≤(rd ((AL l0_1 (rd l1 x11_3)).f3) x13_5) then (if (rd ((AL l0_1 (rd l1 x11_3)).f3) x13_5)<(x7_2.length:Int) then (AR.l2 k5 l1 x6_2 x7_2 x8_2 x9_2 x10_3 x11_3 (rdOf false x7_2 (rd ((AL l0_1 (rd l1 x11_3)).f3) x13_5)) (wrap64 (x13_5+1)) A8 l0_1) else (none)) else (none)) else (none))=some (r1,r2):=by rw [if_pos rfl] at H; exact H
                             clear H
                             have H:=H1
                             clear H1
                             by_cases c41:0≤x13_5
                             ·rw [if_pos c41] at H
                              have c41b0:decide (0≤x13_5)=true:=decide_eq_true c41
                              clear c41
                              by_cases c42:0≤(rd ((AL l0_1 (rd l1 x11_3)).f3) x13_5)
                              ·rw [if_pos c42] at H
                               have c42b0:decide (0≤(rd ((AL l0_1 (rd l1 x11_3)).f3) x13_5))=true:=decide_eq_true c42
                               clear c42
                               by_cases c43:(rd ((AL l0_1 (rd l1 x11_3)).f3) x13_5)<(x7_2.length:Int)
                               ·rw [if_pos c43] at H
                                have c43b0:decide ((rd ((AL l0_1 (rd l1 x11_3)).f3) x13_5)<(x7_2.length:Int))=true:=decide_eq_true c43
                                clear c43
                                have H':=yA H
                                clear H
                                have hcz44_0:wr.cell? ⟨gb261,0,none⟩=some (.int .i64 A8):=(AK BK261.out 0).trans rfl
                                have hcz44_1:wr.cell? ⟨gb261,1,none⟩=some (.slice A0_1 l0_1.length c0_1):=(AK BK261.out 1).trans rfl
                                have hfz44_0:=AJ BK261.out 0
                                have hfz44_1:=AJ BK261.out 1
                                have p275:0≤(x11_3:Int):=yD
                                have q275:x11_3<(l1.length:Int):=yD
                                obtain ⟨ad275,e275,hx275_0⟩:=Kd.at_int HR1.out x11_3 p275 q275
                                obtain rfl:ad273=ad275:=(by injection e275)
                                replace hx275_0:=yC HB.out hx275_0
                                replace p275:=eq_true p275
                                replace q275:=eq_true q275
                                have p276:0≤((rd l1 x11_3):Int):=yD
                                have q276:(rd l1 x11_3)<(l0_1.length:Int):=yD
                                obtain ⟨ad276,A276_3,c276_3,e276,hx276_0,hx276_1,hx276_2,hx276_3,hl276_3,hi276_3⟩:=BZ HR0_1.out (rd l1 x11_3) p276 q276
                                cases e276
                                replace hx276_0:=yC HB.out hx276_0
                                replace hx276_1:=yC HB.out hx276_1
                                replace hx276_2:=yC HB.out hx276_2
                                replace hx276_3:=yC HB.out hx276_3
                                have HR276_3:=yA hi276_3
                                have HC276_3:=yA hl276_3
                                clear hi276_3 hl276_3
                                replace p276:=eq_true p276
                                replace q276:=eq_true q276
                                have p277:0≤(x11_3:Int):=yD
                                have q277:x11_3<(l1.length:Int):=yD
                                obtain ⟨ad277,e277,hx277_0⟩:=Kd.at_int HR1.out x11_3 p277 q277
                                obtain rfl:ad273=ad277:=(by injection e277)
                                replace hx277_0:=yC HB.out hx277_0
                                replace p277:=eq_true p277
                                replace q277:=eq_true q277
                                have p278:0≤((rd l1 x11_3):Int):=yD
                                have q278:(rd l1 x11_3)<(l0_1.length:Int):=yD
                                obtain ⟨ad278,A278_3,c278_3,e278,hx278_0,hx278_1,hx278_2,hx278_3,hl278_3,hi278_3⟩:=BZ HR0_1.out (rd l1 x11_3) p278 q278
                                obtain rfl:ad276=ad278:=(by injection e278)
                                replace hx278_0:=yC HB.out hx278_0
                                replace hx278_1:=yC HB.out hx278_1
                                replace hx278_2:=yC HB.out hx278_2
                                replace hx278_3:=yC HB.out hx278_3
                                have HR278_3:=yA hi278_3
                                have HC278_3:=yA hl278_3
                                clear hi278_3 hl278_3
                                replace p278:=eq_true p278
                                replace q278:=eq_true q278
                                have ea_:=Option.some.inj (hx276_3.symm.trans hx278_3)
                                injection ea_ with ea_ en_ ec_
                                subst ea_
                                subst ec_
                                clear en_
                                have p279:0≤(x13_5:Int):=yD
                                have q279:x13_5<(((AL l0_1 (rd l1 x11_3)).f3).length:Int):=yD
                                obtain ⟨ad279,e279,hx279_0⟩:=Kd.at_int HR278_3.out x13_5 p279 q279
                                cases e279
                                replace hx279_0:=yC HB.out hx279_0
                                replace p279:=eq_true p279
                                replace q279:=eq_true q279
                                have p280:0≤((rd ((AL l0_1 (rd l1 x11_3)).f3) x13_5):Int):=yD
                                have q280:(rd ((AL l0_1 (rd l1 x11_3)).f3) x13_5)<(x7_2.length:Int):=yD
                                obtain ⟨ad280,e280,hx280_0⟩:=Kd.at_bool (Kd.R_reads' HO_7.out).2.2 (rd ((AL l0_1 (rd l1 x11_3)).f3) x13_5) p280 q280
                                obtain rfl:ad274=ad280:=(by injection e280)
                                replace p280:=eq_true p280
                                replace q280:=eq_true q280
                                go_wp2
                                repeat (go_quiet (fail); try go_wp2)
                                go_roundg k5
                                case measure=>have:=HJ2.out; have:=HK2.out; have:=HK3.out; have:=HJ26.out; have:=HK5.out; omega
                                case rel=>exact ⟨(rdOf false x7_2 (rd ((AL l0_1 (rd l1 x11_3)).f3) x13_5)),(wrap64 (x13_5+1)),zH,zH,H',⟨by have:=HJ2.out; have:=HK2.out; have:=HK3.out; have:=HJ26.out; have:=HK5.out; omega⟩,⟨by (with_reducible repeat (first|apply Kd.R_alloc|apply Kd.R_drewN|apply Kd.R_drew)); exact HO_6.out⟩,⟨by (with_reducible repeat (first|apply Kd.R_alloc|apply Kd.R_drewN|apply Kd.R_drew)); exact HO_7.out⟩,⟨by (with_reducible repeat (first|apply Kd.R_alloc|apply Kd.R_drewN|apply Kd.R_drew)); exact HO_8.out⟩,⟨by (with_reducible repeat (first|refine AF ?_ _|refine AH ?_|refine AG ?_ _)); exact BK261.out⟩,⟨by repeat (first|(with_reducible first|exact HB.out|apply AE|apply AC|apply AD|refine AI ?_ GE261.out)|exact HB.out)⟩⟩
                               ·rw [if_neg c43] at H
                                exact absurd H zA5
                              ·rw [if_neg c42] at H
                               exact absurd H zA5
                             ·rw [if_neg c41] at H
                              exact absurd H zA5
                            ·replace c40:=Bool.eq_false_iff.mpr c40
                             subst c40
                             have H1:(AR.l2 k5 l1 x6_2 x7_2 x8_2 x9_2 x10_3 x11_3 false (wrap64 (x13_5+1)) A8 l0_1)=some (r1,r2):=by rw [if_neg (show ¬(false=true) by decide)] at H; exact H
                             clear H
                             have H:=H1
                             clear H1
                             have H':=yA H
                             clear H
                             have hcz45_0:wr.cell? ⟨gb261,0,none⟩=some (.int .i64 A8):=(AK BK261.out 0).trans rfl
                             have hcz45_1:wr.cell? ⟨gb261,1,none⟩=some (.slice A0_1 l0_1.length c0_1):=(AK BK261.out 1).trans rfl
                             have hfz45_0:=AJ BK261.out 0
                             have hfz45_1:=AJ BK261.out 1
                             have p275:0≤(x11_3:Int):=yD
                             have q275:x11_3<(l1.length:Int):=yD
                             obtain ⟨ad275,e275,hx275_0⟩:=Kd.at_int HR1.out x11_3 p275 q275
                             obtain rfl:ad273=ad275:=(by injection e275)
                             replace hx275_0:=yC HB.out hx275_0
                             replace p275:=eq_true p275
                             replace q275:=eq_true q275
                             have p276:0≤((rd l1 x11_3):Int):=yD
                             have q276:(rd l1 x11_3)<(l0_1.length:Int):=yD
                             obtain ⟨ad276,A276_3,c276_3,e276,hx276_0,hx276_1,hx276_2,hx276_3,hl276_3,hi276_3⟩:=BZ HR0_1.out (rd l1 x11_3) p276 q276
                             cases e276
                             replace hx276_0:=yC HB.out hx276_0
                             replace hx276_1:=yC HB.out hx276_1
                             replace hx276_2:=yC HB.out hx276_2
                             replace hx276_3:=yC HB.out hx276_3
                             have HR276_3:=yA hi276_3
                             have HC276_3:=yA hl276_3
                             clear hi276_3 hl276_3
                             replace p276:=eq_true p276
                             replace q276:=eq_true q276
                             go_wp2
                             repeat (go_quiet (fail); try go_wp2)
                             go_roundg k5
                             case measure=>have:=HJ2.out; have:=HK2.out; have:=HK3.out; have:=HJ26.out; have:=HK5.out; omega
                             case rel=>exact ⟨(false),(wrap64 (x13_5+1)),zH,zH,H',⟨by have:=HJ2.out; have:=HK2.out; have:=HK3.out; have:=HJ26.out; have:=HK5.out; omega⟩,⟨by (with_reducible repeat (first|apply Kd.R_alloc|apply Kd.R_drewN|apply Kd.R_drew)); exact HO_6.out⟩,⟨by (with_reducible repeat (first|apply Kd.R_alloc|apply Kd.R_drewN|apply Kd.R_drew)); exact HO_7.out⟩,⟨by (with_reducible repeat (first|apply Kd.R_alloc|apply Kd.R_drewN|apply Kd.R_drew)); exact HO_8.out⟩,⟨by (with_reducible repeat (first|refine AF ?_ _|refine AH ?_|refine AG ?_ _)); exact BK261.out⟩,⟨by repeat (first|(with_reducible first|exact HB.out|apply AE|apply AC|apply AD|refine AI ?_ GE261.out)|exact HB.out)⟩⟩
                           ·rw [if_neg c39] at H
                            have c39b0:decide (x13_5<(((AL l0_1 (rd l1 x11_3)).f3).length:Int))=false:=decide_eq_false c39
                            clear c39
                            by_cases c46:x12_5=true
                            ·subst c46
                             have H1:(AR.l1 k5 l1 x6_2 x7_2 x8_2 x9_2 (rd l1 x11_3) (wrap64 (x11_3+1)) A8 l0_1)=some (r1,r2):=by rw [if_pos rfl] at H; exact H
                             clear H
                             have H:=H1
                             clear H1
                             have H':=yA H
                             clear H
                             have hcz47_0:wr.cell? ⟨gb261,0,none⟩=some (.int .i64 A8):=(AK BK261.out 0).trans rfl
                             have hcz47_1:wr.cell? ⟨gb261,1,none⟩=some (.slice A0_1 l0_1.length c0_1):=(AK BK261.out 1).trans rfl
                             have hfz47_0:=AJ BK261.out 0
                             have hfz47_1:=AJ BK261.out 1
                             have p275:0≤(x11_3:Int):=yD
                             have q275:x11_3<(l1.length:Int):=yD
                             obtain ⟨ad275,e275,hx275_0⟩:=Kd.at_int HR1.out x11_3 p275 q275
                             obtain rfl:ad273=ad275:=(by injection e275)
                             replace hx275_0:=yC HB.out hx275_0
                             replace p275:=eq_true p275
                             replace q275:=eq_true q275
                             have p276:0≤((rd l1 x11_3):Int):=yD
                             have q276:(rd l1 x11_3)<(l0_1.length:Int):=yD
                             obtain ⟨ad276,A276_3,c276_3,e276,hx276_0,hx276_1,hx276_2,hx276_3,hl276_3,hi276_3⟩:=BZ HR0_1.out (rd l1 x11_3) p276 q276
                             cases e276
                             replace hx276_0:=yC HB.out hx276_0
                             replace hx276_1:=yC HB.out hx276_1
                             replace hx276_2:=yC HB.out hx276_2
                             replace hx276_3:=yC HB.out hx276_3
                             have HR276_3:=yA hi276_3
                             have HC276_3:=yA hl276_3
                             clear hi276_3 hl276_3
                             replace p276:=eq_true p276
                             replace q276:=eq_true q276
                             have p281:0≤(x11_3:Int):=yD
                             have q281:x11_3<(l1.length:Int):=yD
                             obtain ⟨ad281,e281,hx281_0⟩:=Kd.at_int HR1.out x11_3 p281 q281
                             obtain rfl:ad273=ad281:=(by injection e281)
                             replace hx281_0:=yC HB.out hx281_0
                             replace p281:=eq_true p281
                             replace q281:=eq_true q281
                             go_wp2
                             repeat (go_quiet (fail); try go_wp2)
                             go_roundg k5
                             case measure=>have:=HJ2.out; have:=HK2.out; have:=HK3.out; have:=HJ26.out; have:=HK5.out; omega
                             case rel=>exact ⟨(rd l1 x11_3),(wrap64 (x11_3+1)),zH,zH,H',⟨by have:=HJ2.out; have:=HK2.out; have:=HK3.out; have:=HJ26.out; have:=HK5.out; omega⟩,⟨by (with_reducible repeat (first|apply Kd.R_alloc|apply Kd.R_drewN|apply Kd.R_drew)); exact HO_6.out⟩,⟨by (with_reducible repeat (first|apply Kd.R_alloc|apply Kd.R_drewN|apply Kd.R_drew)); exact HO_7.out⟩,⟨by (with_reducible repeat (first|apply Kd.R_alloc|apply Kd.R_drewN|apply Kd.R_drew)); exact HO_8.out⟩,⟨by (with_reducible repeat (first|refine AF ?_ _|refine AH ?_|refine AG ?_ _)); exact BK261.out⟩,⟨by repeat (first|(with_reducible first|exact HB.out|apply AE|apply AC|apply AD|refine AI ?_ GE261.out)|exact HB.out)⟩⟩
                            ·replace c46:=Bool.eq_false_iff.mpr c46
                             subst c46
                             have H1:(AR.l1 k5 l1 x6_2 x7_2 x8_2 x9_2 x10_3 (wrap64 (x11_3+1)) A8 l0_1)=some (r1,r2):=by rw [if_neg (show ¬(false=true) by decide)] at H; exact H
                             clear H
                             have H:=H1
                             clear H1
                             have H':=yA H
                             clear H
                             have hcz48_0:wr.cell? ⟨gb261,0,none⟩=some (.int .i64 A8):=(AK BK261.out 0).trans rfl
                             have hcz48_1:wr.cell? ⟨gb261,1,none⟩=some (.slice A0_1 l0_1.length c0_1):=(AK BK261.out 1).trans rfl
                             have hfz48_0:=AJ BK261.out 0
                             have hfz48_1:=AJ BK261.out 1
                             have p275:0≤(x11_3:Int):=yD
                             have q275:x11_3<(l1.length:Int):=yD
                             obtain ⟨ad275,e275,hx275_0⟩:=Kd.at_int HR1.out x11_3 p275 q275
                             obtain rfl:ad273=ad275:=(by injection e275)
                             replace hx275_0:=yC HB.out hx275_0
                             replace p275:=eq_true p275
                             replace q275:=eq_true q275
                             have p276:0≤((rd l1 x11_3):Int):=yD
                             have q276:(rd l1 x11_3)<(l0_1.length:Int):=yD
                             obtain ⟨ad276,A276_3,c276_3,e276,hx276_0,hx276_1,hx276_2,hx276_3,hl276_3,hi276_3⟩:=BZ HR0_1.out (rd l1 x11_3) p276 q276
                             cases e276
                             replace hx276_0:=yC HB.out hx276_0
                             replace hx276_1:=yC HB.out hx276_1
                             replace hx276_2:=yC HB.out hx276_2
                             replace hx276_3:=yC HB.out hx276_3
                             have HR276_3:=yA hi276_3
                             have HC276_3:=yA hl276_3
                             clear hi276_3 hl276_3
                             replace p276:=eq_true p276
                             replace q276:=eq_true q276
                             go_wp2
                             repeat (go_quiet (fail); try go_wp2)
                             go_roundg k5
                             case measure=>have:=HJ2.out; have:=HK2.out; have:=HK3.out; have:=HJ26.out; have:=HK5.out; omega
                             case rel=>exact ⟨(x10_3),(wrap64 (x11_3+1)),zH,zH,H',⟨by have:=HJ2.out; have:=HK2.out; have:=HK3.out; have:=HJ26.out; have:=HK5.out; omega⟩,⟨by (with_reducible repeat (first|apply Kd.R_alloc|apply Kd.R_drewN|apply Kd.R_drew)); exact HO_6.out⟩,⟨by (with_reducible repeat (first|apply Kd.R_alloc|apply Kd.R_drewN|apply Kd.R_drew)); exact HO_7.out⟩,⟨by (with_reducible repeat (first|apply Kd.R_alloc|apply Kd.R_drewN|apply Kd.R_drew)); exact HO_8.out⟩,⟨by (with_reducible repeat (first|refine AF ?_ _|refine AH ?_|refine AG ?_ _)); exact BK261.out⟩,⟨by repeat (first|(with_reducible first|exact HB.out|apply AE|apply AC|apply AD|refine AI ?_ GE261.out)|exact HB.out)⟩⟩
                          ·rw [if_neg c38] at H
                           exact absurd H zA5
                         ·rw [if_neg c37] at H
                          exact absurd H zA5
                        ·rw [if_neg c36] at H
                         exact absurd H zA5
                       ·rw [if_neg c35] at H
                        exact absurd H zA5
                    ·rw [if_neg c33] at H
                     exact absurd H zA5
                   ·rw [if_neg c32] at H
                    exact absurd H zA5
                  ·rw [if_neg c31] at H
                   exact absurd H zA5
                 ·rw [if_neg c30] at H
                  exact absurd H zA5
                ·replace c29 :=Bool.eq_false_iff.mpr c29
                 subst c29
                 have H1:(AR.l3 kj26 l1 x6_2 x7_2 x8_2 x9_2 x10_3 0 1 A8 l0_1)=some (r1,r2):=by rw [if_neg (show ¬(false=true) by decide)] at H; exact H
                 clear H
                 have H:=H1
                 clear H1
                 have H':=yA H
                 clear H
                 go_wp2
                 repeat (go_quiet (fail); try go_wp2)
                 go_loopg [14,15] kj26 (fun kq v14 v15 w'=>∃(x14_5:Int) (x15_5:Int),v14= .int .i64 x14_5∧v15= .int .i64 x15_5∧Aside0 (AR.l3 kq l1 x6_2 x7_2 x8_2 x9_2 x10_3 x14_5 x15_5 A8 l0_1=some (r1,r2))∧Aside0 (kq≤kj26)∧Aside0 (Kd.R k54 54 w' w.heap.size (fun _=>True) v265 x6_2)∧Aside0 (Kd.R Kd.bool 4 w' w.heap.size (fun _=>True) v268 x7_2)∧Aside0 (Kd.R (Kd.int .i64) 3 w' w.heap.size (fun _=>True) v271 x8_2)∧Aside0 (w'.heap[gb261]? =some (.cells #[.int .i64 A8,(.slice A0_1 l0_1.length c0_1)] 24 (0,0)))∧Aside0 (Below w.heap.size w w'))
                 case atStart=>exact ⟨(0),(1),zH,zH,H',⟨Nat.le_refl _⟩,⟨by (with_reducible repeat (first|apply Kd.R_alloc|apply Kd.R_drewN|apply Kd.R_drew)); exact HO_6.out⟩,⟨by (with_reducible repeat (first|apply Kd.R_alloc|apply Kd.R_drewN|apply Kd.R_drew)); exact HO_7.out⟩,⟨by (with_reducible repeat (first|apply Kd.R_alloc|apply Kd.R_drewN|apply Kd.R_drew)); exact HO_8.out⟩,⟨by (with_reducible repeat (first|refine AF ?_ _|refine AH ?_|refine AG ?_ _)); exact BK261.out⟩,⟨by repeat (first|(with_reducible first|exact HB.out|apply AE|apply AC|apply AD|refine AI ?_ GE261.out)|exact HB.out)⟩⟩
                 case round=>
                  clear H'
                  try clear c1
                  try clear c2
                  try clear p2
                  try clear q2
                  try clear hx2
                  try clear c3
                  try clear c4
                  try clear c6
                  try clear p6
                  try clear c13
                  try clear c14
                  try clear c14b0
                  try clear c14b1
                  try clear c15
                  try clear c15b0
                  try clear c15b1
                  try clear c16
                  try clear c16b0
                  try clear c16b1
                  try clear c17
                  try clear c17b0
                  try clear c17b1
                  try clear c18
                  try clear c18b0
                  try clear c18b1
                  try clear c21
                  try clear c26
                  try clear c26b0
                  try clear c27
                  try clear p27
                  try clear q27
                  try clear hx27
                  try clear c28
                  try clear c28b0
                  try clear p28
                  try clear q28
                  try clear hx28
                  try clear c29
                  try clear c30
                  try clear c30b0
                  try clear c31
                  try clear c31b0
                  try clear c32
                  try clear c32b0
                  try clear c33
                  try clear c33b0
                  try clear c35
                  try clear c35b0
                  try clear c36
                  try clear c36b0
                  try clear c37
                  try clear c37b0
                  try clear c38
                  try clear c38b0
                  try clear c39
                  try clear c39b0
                  try clear c40
                  try clear c41
                  try clear c41b0
                  try clear c42
                  try clear c42b0
                  try clear c43
                  try clear c43b0
                  try clear c46
                  try clear hcz10_0
                  try clear hcz10_1
                  try clear hcz11_0
                  try clear hcz11_1
                  try clear hcz23_0
                  try clear hcz23_1
                  try clear hcz44_0
                  try clear hcz44_1
                  try clear hcz45_0
                  try clear hcz45_1
                  try clear hcz47_0
                  try clear hcz47_1
                  try clear hcz48_0
                  try clear hcz48_1
                  try clear hcz8_0
                  try clear hcz8_1
                  try clear hfz10_0
                  try clear hfz10_1
                  try clear hfz11_0
                  try clear hfz11_1
                  try clear hfz23_0
                  try clear hfz23_1
                  try clear hfz44_0
                  try clear hfz44_1
                  try clear hfz45_0
                  try clear hfz45_1
                  try clear hfz47_0
                  try clear hfz47_1
                  try clear hfz48_0
                  try clear hfz48_1
                  try clear hfz8_0
                  try clear hfz8_1
                  try clear hx273_0
                  try clear hx274_0
                  try clear hx275_0
                  try clear hx276_0
                  try clear hx276_1
                  try clear hx276_2
                  try clear hx276_3
                  try clear hx277_0
                  try clear hx278_0
                  try clear hx278_1
                  try clear hx278_2
                  try clear hx278_3
                  try clear hx279_0
                  try clear hx280_0
                  try clear hx281_0
                  try clear p2
                  try clear p27
                  try clear p273
                  try clear p274
                  try clear p275
                  try clear p276
                  try clear p277
                  try clear p278
                  try clear p279
                  try clear p280
                  try clear p281
                  try clear q2
                  try clear q27
                  try clear q273
                  try clear q274
                  try clear q275
                  try clear q276
                  try clear q277
                  try clear q278
                  try clear q279
                  try clear q280
                  try clear q281
                  obtain ⟨x14_5,x15_5,rfl,rfl,HA,HK5,HO_6,HO_7,HO_8,BK261,HB⟩:=hrel
                  cases gk with
                  |zero=>exact absurd HA.out (by simp [AR.l3])
                  | succ k5 =>
                   have H:=HA.out
                   clear HA
                   simp only [AR.l3] at H
                   by_cases c49:x15_5<A8
                   ·rw [if_pos c49] at H
                    have c49b0:decide (x15_5<A8)=true:=decide_eq_true c49
                    clear c49
                    by_cases c50:0≤x15_5
                    ·rw [if_pos c50] at H
                     have c50b0:decide (0≤x15_5)=true:=decide_eq_true c50
                     clear c50
                     by_cases c51:x15_5<(x8_2.length:Int)
                     ·rw [if_pos c51] at H
                      have c51b0:decide (x15_5<(x8_2.length:Int))=true:=decide_eq_true c51
                      clear c51
                      by_cases c52:0≤x14_5
                      ·rw [if_pos c52] at H
                       have c52b0:decide (0≤x14_5)=true:=decide_eq_true c52
                       clear c52
                       by_cases c53:x14_5<(x8_2.length:Int)
                       ·rw [if_pos c53] at H
                        have c53b0:decide (x14_5<(x8_2.length:Int))=true:=decide_eq_true c53
                        clear c53
                        by_cases c54:(rd x8_2 x15_5)<(rd x8_2 x14_5)
                        ·rw [if_pos c54] at H
                         have c54b0:decide ((rd x8_2 x15_5)<(rd x8_2 x14_5))=true:=decide_eq_true c54
                         clear c54
                         have H':=yA H
                         clear H
                         have hcz55_0:wr.cell? ⟨gb261,0,none⟩=some (.int .i64 A8):=(AK BK261.out 0).trans rfl
                         have hcz55_1:wr.cell? ⟨gb261,1,none⟩=some (.slice A0_1 l0_1.length c0_1):=(AK BK261.out 1).trans rfl
                         have hfz55_0:=AJ BK261.out 0
                         have hfz55_1:=AJ BK261.out 1
                         obtain ⟨Ao56,co56,eo56⟩:=Kd.R_slice HO_8.out
                         subst eo56
                         have p282:0≤(x15_5:Int):=yD
                         have q282:x15_5<(x8_2.length:Int):=yD
                         obtain ⟨ad282,e282,hx282_0⟩:=Kd.at_int (Kd.R_reads' HO_8.out).2.2 x15_5 p282 q282
                         cases e282
                         replace p282:=eq_true p282
                         replace q282:=eq_true q282
                         have p283:0≤(x14_5:Int):=yD
                         have q283:x14_5<(x8_2.length:Int):=yD
                         obtain ⟨ad283,e283,hx283_0⟩:=Kd.at_int (Kd.R_reads' HO_8.out).2.2 x14_5 p283 q283
                         obtain rfl:ad282=ad283:=(by injection e283)
                         replace p283:=eq_true p283
                         replace q283:=eq_true q283
                         go_wp2
                         repeat (go_quiet (fail); try go_wp2)
                         go_roundg k5
                         case measure=>have:=HJ2.out; have:=HK2.out; have:=HK3.out; have:=HJ26.out; have:=HK5.out; omega
                         case rel=>exact ⟨(x15_5),(wrap64 (x15_5+1)),zH,zH,H',⟨by have:=HJ2.out; have:=HK2.out; have:=HK3.out; have:=HJ26.out; have:=HK5.out; omega⟩,⟨by (with_reducible repeat (first|apply Kd.R_alloc|apply Kd.R_drewN|apply Kd.R_drew)); exact HO_6.out⟩,⟨by (with_reducible repeat (first|apply Kd.R_alloc|apply Kd.R_drewN|apply Kd.R_drew)); exact HO_7.out⟩,⟨by (with_reducible repeat (first|apply Kd.R_alloc|apply Kd.R_drewN|apply Kd.R_drew)); exact HO_8.out⟩,⟨by (with_reducible repeat (first|refine AF ?_ _|refine AH ?_|refine AG ?_ _)); exact BK261.out⟩,⟨by repeat (first|(with_reducible first|exact HB.out|apply AE|apply AC|apply AD|refine AI ?_ GE261.out)|exact HB.out)⟩⟩
                        ·rw [if_neg c54] at H
                         have c54b0:decide ((rd x8_2 x15_5)<(rd x8_2 x14_5))=false:=decide_eq_false c54
                         clear c54
                         have H':=yA H
                         clear H
                         have hcz57_0:wr.cell? ⟨gb261,0,none⟩=some (.int .i64 A8):=(AK BK261.out 0).trans rfl
                         have hcz57_1:wr.cell? ⟨gb261,1,none⟩=some (.slice A0_1 l0_1.length c0_1):=(AK BK261.out 1).trans rfl
                         have hfz57_0:=AJ BK261.out 0
                         have hfz57_1:=AJ BK261.out 1
                         obtain ⟨Ao58,co58,eo58⟩:=Kd.R_slice HO_8.out
                         subst eo58
                         have p282:0≤(x15_5:Int):=yD
                         have q282:x15_5<(x8_2.length:Int):=yD
                         obtain ⟨ad282,e282,hx282_0⟩:=Kd.at_int (Kd.R_reads' HO_8.out).2.2 x15_5 p282 q282
                         cases e282
                         replace p282:=eq_true p282
                         replace q282:=eq_true q282
                         have p283:0≤(x14_5:Int):=yD
                         have q283:x14_5<(x8_2.length:Int):=yD
                         obtain ⟨ad283,e283,hx283_0⟩:=Kd.at_int (Kd.R_reads' HO_8.out).2.2 x14_5 p283 q283
                         obtain rfl:ad282=ad283:=(by injection e283)
                         replace p283:=eq_true p283
                         replace q283:=eq_true q283
                         go_wp2
                         repeat (go_quiet (fail); try go_wp2)
                         go_roundg k5
                         case measure=>have:=HJ2.out; have:=HK2.out; have:=HK3.out; have:=HJ26.out; have:=HK5.out; omega
                         case rel=>exact ⟨(x14_5),(wrap64 (x15_5+1)),zH,zH,H',⟨by have:=HJ2.out; have:=HK2.out; have:=HK3.out; have:=HJ26.out; have:=HK5.out; omega⟩,⟨by (with_reducible repeat (first|apply Kd.R_alloc|apply Kd.R_drewN|apply Kd.R_drew)); exact HO_6.out⟩,⟨by (with_reducible repeat (first|apply Kd.R_alloc|apply Kd.R_drewN|apply Kd.R_drew)); exact HO_7.out⟩,⟨by (with_reducible repeat (first|apply Kd.R_alloc|apply Kd.R_drewN|apply Kd.R_drew)); exact HO_8.out⟩,⟨by (with_reducible repeat (first|refine AF ?_ _|refine AH ?_|refine AG ?_ _)); exact BK261.out⟩,⟨by repeat (first|(with_reducible first|exact HB.out|apply AE|apply AC|apply AD|refine AI ?_ GE261.out)|exact HB.out)⟩⟩
                       ·rw [if_neg c53] at H
                        exact absurd H zA5
                      ·rw [if_neg c52] at H
                       exact absurd H zA5
                     ·rw [if_neg c51] at H
                      exact absurd H zA5
                    ·rw [if_neg c50] at H
                     exact absurd H zA5
                   ·rw [if_neg c49] at H
                    have c49b0:decide (x15_5<A8)=false:=decide_eq_false c49
                    clear c49
                    by_cases c59:0≤x14_5
                    ·rw [if_pos c59] at H
                     have c59b0:decide (0≤x14_5)=true:=decide_eq_true c59
                     clear c59
                     by_cases c60:x14_5<(x8_2.length:Int)
                     ·rw [if_pos c60] at H
                      have c60b0:decide (x14_5<(x8_2.length:Int))=true:=decide_eq_true c60
                      clear c60
                      have H':=yA H
                      clear H
                      have hcz61_0:wr.cell? ⟨gb261,0,none⟩=some (.int .i64 A8):=(AK BK261.out 0).trans rfl
                      have hcz61_1:wr.cell? ⟨gb261,1,none⟩=some (.slice A0_1 l0_1.length c0_1):=(AK BK261.out 1).trans rfl
                      have hfz61_0:=AJ BK261.out 0
                      have hfz61_1:=AJ BK261.out 1
                      obtain ⟨Ao62,co62,eo62⟩:=Kd.R_slice HO_8.out
                      subst eo62
                      have p284:0≤(x14_5:Int):=yD
                      have q284:x14_5<(x8_2.length:Int):=yD
                      obtain ⟨ad284,e284,hx284_0⟩:=Kd.at_int (Kd.R_reads' HO_8.out).2.2 x14_5 p284 q284
                      cases e284
                      replace p284:=eq_true p284
                      replace q284:=eq_true q284
                      go_wp2
                      repeat (go_quiet (fail); try go_wp2)
                      go_loopg [16,17] k5 (fun kq v16 v17 w'=>∃(x16_6:Int) (x17_6:Int),v16= .int .i64 x16_6∧v17= .int .i64 x17_6∧Aside0 (AR.l4 kq l1 x6_2 x7_2 x8_2 x9_2 x10_3 x14_5 x16_6 x17_6 A8 l0_1=some (r1,r2))∧Aside0 (kq≤k5)∧Aside0 (Kd.R k54 54 w' w.heap.size (fun _=>True) v265 x6_2)∧Aside0 (Kd.R Kd.bool 4 w' w.heap.size (fun _=>True) v268 x7_2)∧Aside0 (Kd.R (Kd.int .i64) 3 w' w.heap.size (fun _=>True) (.slice (some ad284) x8_2.length co62) x8_2)∧Aside0 (w'.heap[gb261]? =some (.cells #[.int .i64 A8,(.slice A0_1 l0_1.length c0_1)] 24 (0,0)))∧Aside0 (Below w.heap.size w w'))
                      case atStart=>exact ⟨(rd x8_2 x14_5),(0),zH,zH,H',⟨Nat.le_refl _⟩,⟨by (with_reducible repeat (first|apply Kd.R_alloc|apply Kd.R_drewN|apply Kd.R_drew)); exact HO_6.out⟩,⟨by (with_reducible repeat (first|apply Kd.R_alloc|apply Kd.R_drewN|apply Kd.R_drew)); exact HO_7.out⟩,⟨by (with_reducible repeat (first|apply Kd.R_alloc|apply Kd.R_drewN|apply Kd.R_drew)); exact HO_8.out⟩,⟨by (with_reducible repeat (first|refine AF ?_ _|refine AH ?_|refine AG ?_ _)); exact BK261.out⟩,⟨by repeat (first|(with_reducible first|exact HB.out|apply AE|apply AC|apply AD|refine AI ?_ GE261.out)|exact HB.out)⟩⟩
                      case round=>
                       clear H'
                       try clear c1
                       try clear c2
                       try clear p2
                       try clear q2
                       try clear hx2
                       try clear c3
                       try clear c4
                       try clear c5
                       try clear c6
                       try clear p6
                       try clear c13
                       try clear c14
                       try clear c14b0
                       try clear c14b1
                       try clear c15
                       try clear c15b0
                       try clear c15b1
                       try clear c16
                       try clear c16b0
                       try clear c16b1
                       try clear c17
                       try clear c17b0
                       try clear c17b1
                       try clear c18
                       try clear c18b0
                       try clear c18b1
                       try clear c21
                       try clear c26
                       try clear c26b0
                       try clear c27
                       try clear p27
                       try clear q27
                       try clear hx27
                       try clear c28
                       try clear c28b0
                       try clear p28
                       try clear q28
                       try clear hx28
                       try clear c29
                       try clear c30
                       try clear c30b0
                       try clear c31
                       try clear c31b0
                       try clear c32
                       try clear c32b0
                       try clear c33
                       try clear c33b0
                       try clear c35
                       try clear c35b0
                       try clear c36
                       try clear c36b0
                       try clear c37
                       try clear c37b0
                       try clear c38
                       try clear c38b0
                       try clear c39
                       try clear c39b0
                       try clear c40
                       try clear c41
                       try clear c41b0
                       try clear c42
                       try clear c42b0
                       try clear c43
                       try clear c43b0
                       try clear c46
                       try clear c49
                       try clear c49b0
                       try clear c50
                       try clear c50b0
                       try clear c51
                       try clear c51b0
                       try clear c52
                       try clear c52b0
                       try clear c53
                       try clear c53b0
                       try clear c54
                       try clear c54b0
                       try clear c59
                       try clear c59b0
                       try clear c60
                       try clear c60b0
                       try clear hcz10_0
                       try clear hcz10_1
                       try clear hcz11_0
                       try clear hcz11_1
                       try clear hcz23_0
                       try clear hcz23_1
                       try clear hcz44_0
                       try clear hcz44_1
                       try clear hcz45_0
                       try clear hcz45_1
                       try clear hcz47_0
                       try clear hcz47_1
                       try clear hcz48_0
                       try clear hcz48_1
                       try clear hcz55_0
                       try clear hcz55_1
                       try clear hcz57_0
                       try clear hcz57_1
                       try clear hcz61_0
                       try clear hcz61_1
                       try clear hcz8_0
                       try clear hcz8_1
                       try clear hfz10_0
                       try clear hfz10_1
                       try clear hfz11_0
                       try clear hfz11_1
                       try clear hfz23_0
                       try clear hfz23_1
                       try clear hfz44_0
                       try clear hfz44_1
                       try clear hfz45_0
                       try clear hfz45_1
                       try clear hfz47_0
                       try clear hfz47_1
                       try clear hfz48_0
                       try clear hfz48_1
                       try clear hfz55_0
                       try clear hfz55_1
                       try clear hfz57_0
                       try clear hfz57_1
                       try clear hfz61_0
                       try clear hfz61_1
                       try clear hfz8_0
                       try clear hfz8_1
                       try clear hx273_0
                       try clear hx274_0
                       try clear hx275_0
                       try clear hx276_0
                       try clear hx276_1
                       try clear hx276_2
                       try clear hx276_3
                       try clear hx277_0
                       try clear hx278_0
                       try clear hx278_1
                       try clear hx278_2
                       try clear hx278_3
                       try clear hx279_0
                       try clear hx280_0
                       try clear hx281_0
                       try clear hx282_0
                       try clear hx283_0
                       try clear hx284_0
                       try clear p2
                       try clear p27
                       try clear p273
                       try clear p274
                       try clear p275
                       try clear p276
                       try clear p277
                       try clear p278
                       try clear p279
                       try clear p28
                       try clear p280
                       try clear p281
                       try clear p282
                       try clear p283
                       try clear p284
                       try clear p6
                       try clear q2
                       try clear q27
                       try clear q273
                       try clear q274
                       try clear q275
                       try clear q276
                       try clear q277
                       try clear q278
                       try clear q279
                       try clear q28
                       try clear q280
                       try clear q281
                       try clear q282
                       try clear q283
                       try clear q284
                       obtain ⟨x16_6,x17_6,rfl,rfl,HA,HK6,HO_6,HO_7,HO_8,BK261,HB⟩:=hrel
                       cases gk with
                       |zero=>exact absurd HA.out (by simp [AR.l4])
                       | succ k6 =>
                        have H:=HA.out
                        clear HA
                        simp only [AR.l4] at H
                        by_cases c63:0≤x10_3
                        ·rw [if_pos c63] at H
                         have c63b0:decide (0≤x10_3)=true:=decide_eq_true c63
                         clear c63
                         by_cases c64:x10_3<(l0_1.length:Int)
                         ·rw [if_pos c64] at H
                          have c64b0:decide (x10_3<(l0_1.length:Int))=true:=decide_eq_true c64
                          clear c64
                          by_cases c65:x17_6<(((AL l0_1 x10_3).f3).length:Int)
                          ·rw [if_pos c65] at H
                           have c65b0:decide (x17_6<(((AL l0_1 x10_3).f3).length:Int))=true:=decide_eq_true c65
                           clear c65
                           by_cases c66:0≤x17_6
                           ·rw [if_pos c66] at H
                            have c66b0:decide (0≤x17_6)=true:=decide_eq_true c66
                            clear c66
                            by_cases c67:0≤(rd ((AL l0_1 x10_3).f3) x17_6)
                            ·rw [if_pos c67] at H
                             have c67b0:decide (0≤(rd ((AL l0_1 x10_3).f3) x17_6))=true:=decide_eq_true c67
                             clear c67
                             by_cases c68:(rd ((AL l0_1 x10_3).f3) x17_6)<(x6_2.length:Int)
                             ·rw [if_pos c68] at H
                              have c68b0:decide ((rd ((AL l0_1 x10_3).f3) x17_6)<(x6_2.length:Int))=true:=decide_eq_true c68
                              clear c68
                              by_cases c69:(rd ((AL l0_1 x10_3).f3) x17_6)<(l0_1.length:Int)
                              ·rw [if_pos c69] at H
                               have c69b0:decide ((rd ((AL l0_1 x10_3).f3) x17_6)<(l0_1.length:Int))=true:=decide_eq_true c69
                               clear c69
                               obtain ⟨ji70,hji70⟩:∃j_:Int,(mx x16_6 (wrap64 (((Be x6_2 (rd ((AL l0_1 x10_3).f3) x17_6)).f1)+((AL l0_1 (rd ((AL l0_1 x10_3).f3) x17_6)).f1))))=j_:=⟨_,rfl⟩
                               replace H:(AR.l4 k6 l1 x6_2 x7_2 x8_2 x9_2 x10_3 x14_5 ji70 (wrap64 (x17_6+1)) A8 l0_1)=some (r1,r2):=by first|(rw [hji70] at H; exact H)|(simp only [hji70] at H ⊢; exact H)
                               have hji70_:(if x16_6<(wrap64 (((Be x6_2 (rd ((AL l0_1 x10_3).f3) x17_6)).f1)+((AL l0_1 (rd ((AL l0_1 x10_3).f3) x17_6)).f1))) then (wrap64 (((Be x6_2 (rd ((AL l0_1 x10_3).f3) x17_6)).f1)+((AL l0_1 (rd ((AL l0_1 x10_3).f3) x17_6)).f1))) else x16_6)=ji70:=hji70
                               have H':=yA H
                               clear H
                               have hcz71_0:wr.cell? ⟨gb261,0,none⟩=some (.int .i64 A8):=(AK BK261.out 0).trans rfl
                               have hcz71_1:wr.cell? ⟨gb261,1,none⟩=some (.slice A0_1 l0_1.length c0_1):=(AK BK261.out 1).trans rfl
                               have hfz71_0:=AJ BK261.out 0
                               have hfz71_1:=AJ BK261.out 1
                               have p285:0≤(x10_3:Int):=yD
                               have q285:x10_3<(l0_1.length:Int):=yD
                               obtain ⟨ad285,A285_3,c285_3,e285,hx285_0,hx285_1,hx285_2,hx285_3,hl285_3,hi285_3⟩:=BZ HR0_1.out x10_3 p285 q285
                               cases e285
                               replace hx285_0:=yC HB.out hx285_0
                               replace hx285_1:=yC HB.out hx285_1
                               replace hx285_2:=yC HB.out hx285_2
                               replace hx285_3:=yC HB.out hx285_3
                               have HR285_3:=yA hi285_3
                               have HC285_3:=yA hl285_3
                               clear hi285_3 hl285_3
                               replace p285:=eq_true p285
                               replace q285:=eq_true q285
                               have p286:0≤(x10_3:Int):=yD
                               have q286:x10_3<(l0_1.length:Int):=yD
                               obtain ⟨ad286,A286_3,c286_3,e286,hx286_0,hx286_1,hx286_2,hx286_3,hl286_3,hi286_3⟩:=BZ HR0_1.out x10_3 p286 q286
                               obtain rfl:ad285=ad286:=(by injection e286)
                               replace hx286_0:=yC HB.out hx286_0
                               replace hx286_1:=yC HB.out hx286_1
                               replace hx286_2:=yC HB.out hx286_2
                               replace hx286_3:=yC HB.out hx286_3
                               have HR286_3:=yA hi286_3
                               have HC286_3:=yA hl286_3
                               clear hi286_3 hl286_3
                               replace p286:=eq_true p286
                               replace q286:=eq_true q286
                               have ea_:=Option.some.inj (hx285_3.symm.trans hx286_3)
                               injection ea_ with ea_ en_ ec_
                               subst ea_
                               subst ec_
                               clear en_
                               have p287:0≤(x17_6:Int):=yD
                               have q287:x17_6<(((AL l0_1 x10_3).f3).length:Int):=yD
                               obtain ⟨ad287,e287,hx287_0⟩:=Kd.at_int HR286_3.out x17_6 p287 q287
                               cases e287
                               replace hx287_0:=yC HB.out hx287_0
                               replace p287:=eq_true p287
                               replace q287:=eq_true q287
                               obtain ⟨Ao72,co72,eo72⟩:=Kd.R_slice HO_6.out
                               subst eo72
                               have p288:0≤((rd ((AL l0_1 x10_3).f3) x17_6):Int):=yD
                               have q288:(rd ((AL l0_1 x10_3).f3) x17_6)<(x6_2.length:Int):=yD
                               obtain ⟨ad288,e288,hx288_0,hx288_1⟩:=Dv (Kd.R_reads' HO_6.out).2.2 (rd ((AL l0_1 x10_3).f3) x17_6) p288 q288
                               cases e288
                               replace p288:=eq_true p288
                               replace q288:=eq_true q288
                               have p289:0≤((rd ((AL l0_1 x10_3).f3) x17_6):Int):=yD
                               have q289:(rd ((AL l0_1 x10_3).f3) x17_6)<(l0_1.length:Int):=yD
                               obtain ⟨ad289,A289_3,c289_3,e289,hx289_0,hx289_1,hx289_2,hx289_3,hl289_3,hi289_3⟩:=BZ HR0_1.out (rd ((AL l0_1 x10_3).f3) x17_6) p289 q289
                               obtain rfl:ad285=ad289:=(by injection e289)
                               replace hx289_0:=yC HB.out hx289_0
                               replace hx289_1:=yC HB.out hx289_1
                               replace hx289_2:=yC HB.out hx289_2
                               replace hx289_3:=yC HB.out hx289_3
                               have HR289_3:=yA hi289_3
                               have HC289_3:=yA hl289_3
                               clear hi289_3 hl289_3
                               replace p289:=eq_true p289
                               replace q289:=eq_true q289
                               go_wp2
                               repeat (go_quiet (fail); try go_wp2)
                               go_roundg k6
                               case measure=>have:=HJ2.out; have:=HK2.out; have:=HK3.out; have:=HJ26.out; have:=HK5.out; have:=HK6.out; omega
                               case rel=>exact ⟨(ji70),(wrap64 (x17_6+1)),(by first|rfl|(simp; done)|(simp only [←hji70]<;>(first|rfl|simp))|(simp [*]; done)),zH,H',⟨by have:=HJ2.out; have:=HK2.out; have:=HK3.out; have:=HJ26.out; have:=HK5.out; have:=HK6.out; omega⟩,⟨by (with_reducible repeat (first|apply Kd.R_alloc|apply Kd.R_drewN|apply Kd.R_drew)); exact HO_6.out⟩,⟨by (with_reducible repeat (first|apply Kd.R_alloc|apply Kd.R_drewN|apply Kd.R_drew)); exact HO_7.out⟩,⟨by (with_reducible repeat (first|apply Kd.R_alloc|apply Kd.R_drewN|apply Kd.R_drew)); exact HO_8.out⟩,⟨by (with_reducible repeat (first|refine AF ?_ _|refine AH ?_|refine AG ?_ _)); exact BK261.out⟩,⟨by repeat (first|(with_reducible first|exact HB.out|apply AE|apply AC|apply AD|refine AI ?_ GE261.out)|exact HB.out)⟩⟩
                              ·rw [if_neg c69] at H
                               exact absurd H zA5
                             ·rw [if_neg c68] at H
                              exact absurd H zA5
                            ·rw [if_neg c67] at H
                             exact absurd H zA5
                           ·rw [if_neg c66] at H
                            exact absurd H zA5
                          ·rw [if_neg c65] at H
                           have c65b0:decide (x17_6<(((AL l0_1 x10_3).f3).length:Int))=false:=decide_eq_false c65
                           clear c65
                           by_cases c73:x10_3<(x6_2.length:Int)
                           ·rw [if_pos c73] at H
                            have c73b0:decide (x10_3<(x6_2.length:Int))=true:=decide_eq_true c73
                            clear c73
                            obtain ⟨y290,hy290⟩:∃y_:List (S54),y_=(x6_2.set (x10_3:Int).toNat (⟨x14_5,x16_6⟩:S54)):=⟨_,rfl⟩
                            replace H:(if x10_3<(x7_2.length:Int) then (if 0≤x14_5 then (if x14_5<(x8_2.length:Int) then (AR.l0 k6 l1 y290 (x7_2.set (x10_3:Int).toNat true) (x8_2.set (x14_5:Int).toNat (wrap64 (x16_6+((AL l0_1 x10_3).f1)))) (wrap64 (x9_2+1)) A8 l0_1) else (none)) else (none)) else (none))=some (r1,r2):=by first|(rw [hy290]; with_reducible exact H)|(have H2_:=(Option.bind_some _ _).symm.trans H; rw [hy290]; with_reducible exact H2_)|(have H2_:=(Option.bind_some _ _).symm.trans H; with_reducible exact H2_)|with_reducible exact H|(rw [hy290]; exact H)|exact H
                            have Ny290:=yA hy290
                            clear hy290
                            by_cases c75:x10_3<(x7_2.length:Int)
                            ·rw [if_pos c75] at H
                             have c75b0:decide (x10_3<(x7_2.length:Int))=true:=decide_eq_true c75
                             clear c75
                             obtain ⟨y291,hy291⟩:∃y_:List Bool,y_=(x7_2.set (x10_3:Int).toNat true):=⟨_,rfl⟩
                             replace H:(if 0≤x14_5 then (if x14_5<(x8_2.length:Int) then (AR.l0 k6 l1 y290 y291 (x8_2.set (x14_5:Int).toNat (wrap64 (x16_6+((AL l0_1 x10_3).f1)))) (wrap64 (x9_2+1)) A8 l0_1) else (none)) else (none))=some (r1,r2):=by first|(rw [hy291]; with_reducible exact H)|(have H2_:=(Option.bind_some _ _).symm.trans H; rw [hy291]; with_reducible exact H2_)|(have H2_:=(Option.bind_some _ _).symm.trans H; with_reducible exact H2_)|with_reducible exact H|(rw [hy291]; exact H)|exact H
                             have Ny291:=yA hy291
                             clear hy291
                             by_cases c77:0≤x14_5
                             ·rw [if_pos c77] at H
                              have c77b0:decide (0≤x14_5)=true:=decide_eq_true c77
                              clear c77
                              by_cases c78:x14_5<(x8_2.length:Int)
                              ·rw [if_pos c78] at H
                               have c78b0:decide (x14_5<(x8_2.length:Int))=true:=decide_eq_true c78
                               clear c78
                               obtain ⟨y293,hy293⟩:∃y_:List Int,y_=(x8_2.set (x14_5:Int).toNat (wrap64 (x16_6+((AL l0_1 x10_3).f1)))):=⟨_,rfl⟩
                               replace H:(AR.l0 k6 l1 y290 y291 y293 (wrap64 (x9_2+1)) A8 l0_1)=some (r1,r2):=by first|(rw [hy293]; with_reducible exact H)|(have H2_:=(Option.bind_some _ _).symm.trans H; rw [hy293]; with_reducible exact H2_)|(have H2_:=(Option.bind_some _ _).symm.trans H; with_reducible exact H2_)|with_reducible exact H|(rw [hy293]; exact H)|exact H
                               have Ny293:=yA hy293
                               clear hy293
                               have H':=yA H
                               clear H
                               have hcz80_0:wr.cell? ⟨gb261,0,none⟩=some (.int .i64 A8):=(AK BK261.out 0).trans rfl
                               have hcz80_1:wr.cell? ⟨gb261,1,none⟩=some (.slice A0_1 l0_1.length c0_1):=(AK BK261.out 1).trans rfl
                               have hfz80_0:=AJ BK261.out 0
                               have hfz80_1:=AJ BK261.out 1
                               have p285:0≤(x10_3:Int):=yD
                               have q285:x10_3<(l0_1.length:Int):=yD
                               obtain ⟨ad285,A285_3,c285_3,e285,hx285_0,hx285_1,hx285_2,hx285_3,hl285_3,hi285_3⟩:=BZ HR0_1.out x10_3 p285 q285
                               cases e285
                               replace hx285_0:=yC HB.out hx285_0
                               replace hx285_1:=yC HB.out hx285_1
                               replace hx285_2:=yC HB.out hx285_2
                               replace hx285_3:=yC HB.out hx285_3
                               have HR285_3:=yA hi285_3
                               have HC285_3:=yA hl285_3
                               clear hi285_3 hl285_3
                               replace p285:=eq_true p285
                               replace q285:=eq_true q285
                               have p74:0≤(x10_3:Int):=yD
                               have q74:(x10_3:Int)<((x6_2.length:Int):Int):=yD
                               obtain ⟨go74,co74,eo74,gb74,gl74,cl74,HG74⟩:=Kd.R_form HO_6.out zE
                               (first|cases eo74|(injection eo74 with ea_ en_ ec_; (first|subst ea_|(injection ea_ with ea_; subst ea_)); subst ec_; clear en_))
                               have GB74:=yA gb74
                               have GG74:=yA HG74
                               clear gb74 gl74 HG74
                               obtain ⟨ce74,hcl74,hM74,hcc74,hfr74⟩:=Kd.R_elem HO_6.out z54 (x10_3:Int) p74 q74
                               obtain rfl:=CZ hM74
                               have hx74_0:wr.cell? ⟨go74,(x10_3:Int).toNat*2,none⟩=some (.int .i64 ((Be x6_2 x10_3).f0)):=hcc74 0 _ rfl
                               have hx74_1:wr.cell? ⟨go74,(x10_3:Int).toNat*2+1,none⟩=some (.int .i64 ((Be x6_2 x10_3).f1)):=hcc74 1 _ rfl
                               have hf74_0:wr.frozen? ⟨go74,(x10_3:Int).toNat*2,none⟩=false:=hfr74 0
                               have hf74_1:wr.frozen? ⟨go74,(x10_3:Int).toNat*2+1,none⟩=false:=hfr74 1
                               clear hcl74 hcc74 hfr74 hM74
                               replace p74:=eq_true p74
                               replace q74:=eq_true q74
                               have HX81:=yA (show Kd.R k54 54 wr w.heap.size (fun _=>True) (.slice (some ⟨go74,0,none⟩) x6_2.length co74) x6_2 from zA9)
                               obtain ⟨ce81,hcl81,hM81,hcc81,hfr81⟩:=Kd.R_elem HX81.out z54 (x10_3:Int) (yD) (by have h_:(x10_3:Int)<((x6_2.length:Int):Int):=yD; first|exact h_|(have e_:=(Kd.R_reads' HO_6.out).1; omega)|simpa using h_)
                               obtain rfl:=CZ hM81
                               have HP81:=Kd.R_seg HX81.out (x10_3:Int) (yD) (by have h_:(x10_3:Int)<((x6_2.length:Int):Int):=yD; first|exact h_|(have e_:=(Kd.R_reads' HO_6.out).1; omega)|simpa using h_) (seg:=[.int .i64 x14_5,.int .i64 x16_6]) (j:=0) hcl81 hcc81 (show 2≤2 from by decide) (x':=(⟨x14_5,x16_6⟩:S54)) (CR _ _ _ (⟨x14_5,x16_6⟩:S54)) (fun _ hk=>hk)
                               have hx81_0:=hcc81 0 _ rfl
                               (try simp only [show (k54).sz=2 from rfl,Nat.mul_one,Nat.add_zero] at hx81_0)
                               have hf81_0:=hfr81 0
                               (try simp only [show (k54).sz=2 from rfl,Nat.mul_one,Nat.add_zero] at hf81_0)
                               have hx81_1:=hcc81 1 _ rfl
                               (try simp only [show (k54).sz=2 from rfl,Nat.mul_one,Nat.add_zero] at hx81_1)
                               have hf81_1:=hfr81 1
                               (try simp only [show (k54).sz=2 from rfl,Nat.mul_one,Nat.add_zero] at hf81_1)
                               clear hcl81 hcc81 hfr81 hM81
                               go_wp2_with (first|((with_reducible refine BS (t:=54) (p:=161) rfl ?_); (try (rw [Bs wr]; generalize hq_:World.drewN wr _=wr; have n0_:=yA (Kd.R_at hq_ HO_6.out); have n1_:=yA (Kd.R_at hq_ HO_7.out); have n2_:=yA (Kd.R_at hq_ HO_8.out); have n3_:=yA (Cf hq_ BK261.out); have n4_:=yA (CD hq_ HB.out); clear hq_ HO_6 HO_7 HO_8 BK261 HB; have HO_6:=n0_; have HO_7:=n1_; have HO_8:=n2_; have BK261:=n3_; have HB:=n4_; clear n0_ n1_ n2_ n3_ n4_; (try (have HX81:=yA (show Kd.R k54 54 wr w.heap.size (fun _=>True) (.slice (some ⟨go74,0,none⟩) x6_2.length co74) x6_2 from zA9))); (try (obtain ⟨ce81,hcl81,hM81,hcc81,hfr81⟩:=Kd.R_elem HX81.out z54 (x10_3:Int) (yD) (by have h_:(x10_3:Int)<((x6_2.length:Int):Int):=yD; first|exact h_|(have e_:=(Kd.R_reads' HO_6.out).1; omega)|simpa using h_))); (try (obtain rfl:=CZ hM81)); (try (have HP81:=Kd.R_seg HX81.out (x10_3:Int) (yD) (by have h_:(x10_3:Int)<((x6_2.length:Int):Int):=yD; first|exact h_|(have e_:=(Kd.R_reads' HO_6.out).1; omega)|simpa using h_) (seg:=[.int .i64 x14_5,.int .i64 x16_6]) (j:=0) hcl81 hcc81 (show 2≤2 from by decide) (x':=(⟨x14_5,x16_6⟩:S54)) (CR _ _ _ (⟨x14_5,x16_6⟩:S54)) (fun _ hk=>hk))); (try (have hx81_0:=hcc81 0 _ rfl)); (try (try simp only [show (k54).sz=2 from rfl,Nat.mul_one,Nat.add_zero] at hx81_0)); (try (have hf81_0:=hfr81 0)); (try (try simp only [show (k54).sz=2 from rfl,Nat.mul_one,Nat.add_zero] at hf81_0)); (try (have hx81_1:=hcc81 1 _ rfl)); (try (try simp only [show (k54).sz=2 from rfl,Nat.mul_one,Nat.add_zero] at hx81_1)); (try (have hf81_1:=hfr81 1)); (try (try simp only [show (k54).sz=2 from rfl,Nat.mul_one,Nat.add_zero] at hf81_1)); (try (clear hcl81 hcc81 hfr81 hM81)))); refine BP (t:=54) (p:=161) (v:= ?vo_w82) (w1:=((wr.setCell ⟨go74,(x10_3:Int).toNat*2,none⟩ (.int .i64 x14_5)).setCell ⟨go74,(x10_3:Int).toNat*2+1,none⟩ (.int .i64 x16_6))) ?hg ?ho ?hn ?hr ?_; (case ho=>rfl); (case hg=>rfl); (case hn=>rfl); (case hr=>first|(go_simp; done)|(go_simp; rfl)); intro w82 hw; have hg:wr.grownBy w82 (some go74):=(by rw [hw]; exact HP81.2); have hp_:Kd.R k54 54 w82 w.heap.size (fun _=>True) (.slice (some ⟨go74,0,none⟩) x6_2.length co74) y290:=(by rw [hw,Ny290.out]; exact HP81.1); clear HP81; have n0_:=yA (hp_); have n1_:=yA (Kd.R_over' (v:=(.slice (some ⟨go74,0,none⟩) x6_2.length co74)) zA8 (Kd.R_typed HO_6.out) zA0 hg); have n2_:=yA (Kd.R_over' (v:=(.slice (some ⟨go74,0,none⟩) x6_2.length co74)) zD1 (Kd.R_typed HO_6.out) zA0 hg); have n3_:=yA (BJ (g:=gb261) (o:= .cells #[.int .i64 A8,.slice (some ad285) l0_1.length c0_1] 24 (0,0)) zO hg (Kd.R_ne HO_6.out BK261.out zA0)); have n4_:=yA ((by rw [hw]; exact AI (AI (HB.out) GB74.out) GB74.out:Below w.heap.size w w82)); clear HO_6; clear HO_7; clear HO_8; clear BK261; clear HB; have HO_6:=n0_; have HO_7:=n1_; have HO_8:=n2_; have BK261:=n3_; have HB:=n4_; clear n0_ n1_ n2_ n3_ n4_; clear hg hw hp_; have p76:0≤(x10_3:Int):=yD; have q76:(x10_3:Int)<((x7_2.length:Int):Int):=yD; obtain ⟨go76,co76,eo76,gb76,gl76,cl76,HG76⟩:=Kd.R_form HO_7.out zE; (first|cases eo76|(injection eo76 with ea_ en_ ec_; (first|subst ea_|(injection ea_ with ea_; subst ea_)); subst ec_; clear en_)); have GB76:=yA gb76; have GG76:=yA HG76; clear gb76 gl76 HG76; obtain ⟨hx76_0,hf76_0⟩:=Kd.R_celln false HO_7.out (x10_3:Int) p76 q76; replace p76:=eq_true p76; replace q76:=eq_true q76; obtain ⟨hy83_,hz83_⟩:=Kd.R_celln false HO_7.out (x10_3:Int) (yD) (yD); have HP83:=Kd.R_putg HO_7.out (x10_3:Int) true)|((with_reducible refine BS (t:=4) (p:=162) rfl ?_); (try (rw [Bs w82]; generalize hq_:World.drewN w82 _=w82; have n0_:=yA (Kd.R_at hq_ HO_6.out); have n1_:=yA (Kd.R_at hq_ HO_7.out); have n2_:=yA (Kd.R_at hq_ HO_8.out); have n3_:=yA (Cf hq_ BK261.out); have n4_:=yA (CD hq_ HB.out); clear hq_ HO_6 HO_7 HO_8 BK261 HB; have HO_6:=n0_; have HO_7:=n1_; have HO_8:=n2_; have BK261:=n3_; have HB:=n4_; clear n0_ n1_ n2_ n3_ n4_; (try (obtain ⟨hy83_,hz83_⟩:=Kd.R_celln false HO_7.out (x10_3:Int) (yD) (yD))); (try (have HP83:=Kd.R_putg HO_7.out (x10_3:Int) true)))); refine BP (t:=4) (p:=162) (v:= ?vo_w84) (w1:=(w82.setCell ⟨go76,(x10_3:Int).toNat,none⟩ (.bool true))) ?hg ?ho ?hn ?hr ?_; (case ho=>rfl); (case hg=>rfl); (case hn=>rfl); (case hr=>first|(go_simp; done)|(go_simp; rfl)); intro w84 hw; have hg:w82.grownBy w84 (some go76):=(by rw [hw]; exact HP83.2); have hp_:Kd.R Kd.bool 4 w84 w.heap.size (fun _=>True) (.slice (some ⟨go76,0,none⟩) x7_2.length co76) y291:=(by rw [hw,Ny291.out]; exact HP83.1); clear HP83; have n0_:=yA (Kd.R_over' (v:=(.slice (some ⟨go76,0,none⟩) x7_2.length co76)) zA9 (Kd.R_typed HO_7.out) zA0 hg); have n1_:=yA (hp_); have n2_:=yA (Kd.R_over' (v:=(.slice (some ⟨go76,0,none⟩) x7_2.length co76)) zD1 (Kd.R_typed HO_7.out) zA0 hg); have n3_:=yA (BJ (g:=gb261) (o:= .cells #[.int .i64 A8,.slice (some ad285) l0_1.length c0_1] 24 (0,0)) zO hg (Kd.R_ne HO_7.out BK261.out zA0)); have n4_:=yA ((by rw [hw]; exact AI (HB.out) GB76.out:Below w.heap.size w w84)); clear HO_6; clear HO_7; clear HO_8; clear BK261; clear HB; have HO_6:=n0_; have HO_7:=n1_; have HO_8:=n2_; have BK261:=n3_; have HB:=n4_; clear n0_ n1_ n2_ n3_ n4_; clear hg hw hp_; have hcz85_0:w84.cell? ⟨gb261,0,none⟩=some (.int .i64 A8):=(AK BK261.out 0).trans rfl; have hcz85_1:w84.cell? ⟨gb261,1,none⟩=some (.slice (some ad285) l0_1.length c0_1):=(AK BK261.out 1).trans rfl; have hfz85_0:=AJ BK261.out 0; have hfz85_1:=AJ BK261.out 1; have p292:0≤(x10_3:Int):=yD; have q292:x10_3<(l0_1.length:Int):=yD; obtain ⟨ad292,A292_3,c292_3,e292,hx292_0,hx292_1,hx292_2,hx292_3,hl292_3,hi292_3⟩:=BZ HR0_1.out x10_3 p292 q292; obtain rfl:ad285=ad292:=(by injection e292); replace hx292_0:=yC HB.out hx292_0; replace hx292_1:=yC HB.out hx292_1; replace hx292_2:=yC HB.out hx292_2; replace hx292_3:=yC HB.out hx292_3; have HR292_3:=yA hi292_3; have HC292_3:=yA hl292_3; clear hi292_3 hl292_3; replace p292:=eq_true p292; replace q292:=eq_true q292; have p79:0≤(x14_5:Int):=yD; have q79:(x14_5:Int)<((x8_2.length:Int):Int):=yD; obtain ⟨go79,co79,eo79,gb79,gl79,cl79,HG79⟩:=Kd.R_form HO_8.out zE; (first|cases eo79|(injection eo79 with ea_ en_ ec_; (first|subst ea_|(injection ea_ with ea_; subst ea_)); subst ec_; clear en_)); have GB79:=yA gb79; have GG79:=yA HG79; clear gb79 gl79 HG79; (first|simp only [Bq] at hx284_0|skip); obtain ⟨hx79_0,hf79_0⟩:=Kd.R_celln 0 HO_8.out (x14_5:Int) p79 q79; replace p79:=eq_true p79; replace q79:=eq_true q79; obtain ⟨hy86_,hz86_⟩:=Kd.R_celln 0 HO_8.out (x14_5:Int) (yD) (yD); have HP86:=Kd.R_putg HO_8.out (x14_5:Int) (wrap64 (x16_6+((AL l0_1 x10_3).f1))))|((with_reducible refine BS (t:=3) (p:=173) rfl ?_); (try (rw [Bs w84]; generalize hq_:World.drewN w84 _=w84; have n0_:=yA (Kd.R_at hq_ HO_6.out); have n1_:=yA (Kd.R_at hq_ HO_7.out); have n2_:=yA (Kd.R_at hq_ HO_8.out); have n3_:=yA (Cf hq_ BK261.out); have n4_:=yA (CD hq_ HB.out); clear hq_ HO_6 HO_7 HO_8 BK261 HB; have HO_6:=n0_; have HO_7:=n1_; have HO_8:=n2_; have BK261:=n3_; have HB:=n4_; clear n0_ n1_ n2_ n3_ n4_; (try (obtain ⟨hy86_,hz86_⟩:=Kd.R_celln 0 HO_8.out (x14_5:Int) (yD) (yD))); (try (have HP86:=Kd.R_putg HO_8.out (x14_5:Int) (wrap64 (x16_6+((AL l0_1 x10_3).f1))))))); refine BP (t:=3) (p:=173) (v:= ?vo_w87) (w1:=(w84.setCell ⟨go79,(x14_5:Int).toNat,none⟩ (.int .i64 (wrap64 (x16_6+((AL l0_1 x10_3).f1)))))) ?hg ?ho ?hn ?hr ?_; (case ho=>rfl); (case hg=>rfl); (case hn=>rfl); (case hr=>first|(go_simp; done)|(go_simp; rfl)); intro w87 hw; have hg:w84.grownBy w87 (some go79):=(by rw [hw]; exact HP86.2); have hp_:Kd.R (Kd.int .i64) 3 w87 w.heap.size (fun _=>True) (.slice (some ⟨go79,0,none⟩) x8_2.length co62) y293:=(by rw [hw,Ny293.out]; exact HP86.1); clear HP86; have n0_:=yA (Kd.R_over' (v:=(.slice (some ⟨go79,0,none⟩) x8_2.length co62)) zA9 (Kd.R_typed HO_8.out) zA0 hg); have n1_:=yA (Kd.R_over' (v:=(.slice (some ⟨go79,0,none⟩) x8_2.length co62)) zA8 (Kd.R_typed HO_8.out) zA0 hg); have n2_:=yA (hp_); have n3_:=yA (BJ (g:=gb261) (o:= .cells #[.int .i64 A8,.slice (some ad285) l0_1.length c0_1] 24 (0,0)) zO hg (Kd.R_ne HO_8.out BK261.out zA0)); have n4_:=yA ((by rw [hw]; exact AI (HB.out) GB79.out:Below w.heap.size w w87)); clear HO_6; clear HO_7; clear HO_8; clear BK261; clear HB; have HO_6:=n0_; have HO_7:=n1_; have HO_8:=n2_; have BK261:=n3_; have HB:=n4_; clear n0_ n1_ n2_ n3_ n4_; clear hg hw hp_))
                               repeat (go_quiet (first|((with_reducible refine BS (t:=54) (p:=161) rfl ?_); (try (rw [Bs wr]; generalize hq_:World.drewN wr _=wr; have n0_:=yA (Kd.R_at hq_ HO_6.out); have n1_:=yA (Kd.R_at hq_ HO_7.out); have n2_:=yA (Kd.R_at hq_ HO_8.out); have n3_:=yA (Cf hq_ BK261.out); have n4_:=yA (CD hq_ HB.out); clear hq_ HO_6 HO_7 HO_8 BK261 HB; have HO_6:=n0_; have HO_7:=n1_; have HO_8:=n2_; have BK261:=n3_; have HB:=n4_; clear n0_ n1_ n2_ n3_ n4_; (try (have HX81:=yA (show Kd.R k54 54 wr w.heap.size (fun _=>True) (.slice (some ⟨go74,0,none⟩) x6_2.length co74) x6_2 from zA9))); (try (obtain ⟨ce81,hcl81,hM81,hcc81,hfr81⟩:=Kd.R_elem HX81.out z54 (x10_3:Int) (yD) (by have h_:(x10_3:Int)<((x6_2.length:Int):Int):=yD; first|exact h_|(have e_:=(Kd.R_reads' HO_6.out).1; omega)|simpa using h_))); (try (obtain rfl:=CZ hM81)); (try (have HP81:=Kd.R_seg HX81.out (x10_3:Int) (yD) (by have h_:(x10_3:Int)<((x6_2.length:Int):Int):=yD; first|exact h_|(have e_:=(Kd.R_reads' HO_6.out).1; omega)|simpa using h_) (seg:=[.int .i64 x14_5,.int .i64 x16_6]) (j:=0) hcl81 hcc81 (show 2≤2 from by decide) (x':=(⟨x14_5,x16_6⟩:S54)) (CR _ _ _ (⟨x14_5,x16_6⟩:S54)) (fun _ hk=>hk))); (try (have hx81_0:=hcc81 0 _ rfl)); (try (try simp only [show (k54).sz=2 from rfl,Nat.mul_one,Nat.add_zero] at hx81_0)); (try (have hf81_0:=hfr81 0)); (try (try simp only [show (k54).sz=2 from rfl,Nat.mul_one,Nat.add_zero] at hf81_0)); (try (have hx81_1:=hcc81 1 _ rfl)); (try (try simp only [show (k54).sz=2 from rfl,Nat.mul_one,Nat.add_zero] at hx81_1)); (try (have hf81_1:=hfr81 1)); (try (try simp only [show (k54).sz=2 from rfl,Nat.mul_one,Nat.add_zero] at hf81_1)); (try (clear hcl81 hcc81 hfr81 hM81)))); refine BP (t:=54) (p:=161) (v:= ?vo_w82) (w1:=((wr.setCell ⟨go74,(x10_3:Int).toNat*2,none⟩ (.int .i64 x14_5)).setCell ⟨go74,(x10_3:Int).toNat*2+1,none⟩ (.int .i64 x16_6))) ?hg ?ho ?hn ?hr ?_; (case ho=>rfl); (case hg=>rfl); (case hn=>rfl); (case hr=>first|(go_simp; done)|(go_simp; rfl)); intro w82 hw; have hg:wr.grownBy w82 (some go74):=(by rw [hw]; exact HP81.2); have hp_:Kd.R k54 54 w82 w.heap.size (fun _=>True) (.slice (some ⟨go74,0,none⟩) x6_2.length co74) y290:=(by rw [hw,Ny290.out]; exact HP81.1); clear HP81; have n0_:=yA (hp_); have n1_:=yA (Kd.R_over' (v:=(.slice (some ⟨go74,0,none⟩) x6_2.length co74)) zA8 (Kd.R_typed HO_6.out) zA0 hg); have n2_:=yA (Kd.R_over' (v:=(.slice (some ⟨go74,0,none⟩) x6_2.length co74)) zD1 (Kd.R_typed HO_6.out) zA0 hg); have n3_:=yA (BJ (g:=gb261) (o:= .cells #[.int .i64 A8,.slice (some ad285) l0_1.length c0_1] 24 (0,0)) zO hg (Kd.R_ne HO_6.out BK261.out zA0)); have n4_:=yA ((by rw [hw]; exact AI (AI (HB.out) GB74.out) GB74.out:Below w.heap.size w w82)); clear HO_6; clear HO_7; clear HO_8; clear BK261; clear HB; have HO_6:=n0_; have HO_7:=n1_; have HO_8:=n2_; have BK261:=n3_; have HB:=n4_; clear n0_ n1_ n2_ n3_ n4_; clear hg hw hp_; have p76:0≤(x10_3:Int):=yD; have q76:(x10_3:Int)<((x7_2.length:Int):Int):=yD; obtain ⟨go76,co76,eo76,gb76,gl76,cl76,HG76⟩:=Kd.R_form HO_7.out zE; (first|cases eo76|(injection eo76 with ea_ en_ ec_; (first|subst ea_|(injection ea_ with ea_; subst ea_)); subst ec_; clear en_)); have GB76:=yA gb76; have GG76:=yA HG76; clear gb76 gl76 HG76; obtain ⟨hx76_0,hf76_0⟩:=Kd.R_celln false HO_7.out (x10_3:Int) p76 q76; replace p76:=eq_true p76; replace q76:=eq_true q76; obtain ⟨hy83_,hz83_⟩:=Kd.R_celln false HO_7.out (x10_3:Int) (yD) (yD); have HP83:=Kd.R_putg HO_7.out (x10_3:Int) true)|((with_reducible refine BS (t:=4) (p:=162) rfl ?_); (try (rw [Bs w82]; generalize hq_:World.drewN w82 _=w82; have n0_:=yA (Kd.R_at hq_ HO_6.out); have n1_:=yA (Kd.R_at hq_ HO_7.out); have n2_:=yA (Kd.R_at hq_ HO_8.out); have n3_:=yA (Cf hq_ BK261.out); have n4_:=yA (CD hq_ HB.out); clear hq_ HO_6 HO_7 HO_8 BK261 HB; have HO_6:=n0_; have HO_7:=n1_; have HO_8:=n2_; have BK261:=n3_; have HB:=n4_; clear n0_ n1_ n2_ n3_ n4_; (try (obtain ⟨hy83_,hz83_⟩:=Kd.R_celln false HO_7.out (x10_3:Int) (yD) (yD))); (try (have HP83:=Kd.R_putg HO_7.out (x10_3:Int) true)))); refine BP (t:=4) (p:=162) (v:= ?vo_w84) (w1:=(w82.setCell ⟨go76,(x10_3:Int).toNat,none⟩ (.bool true))) ?hg ?ho ?hn ?hr ?_; (case ho=>rfl); (case hg=>rfl); (case hn=>rfl); (case hr=>first|(go_simp; done)|(go_simp; rfl)); intro w84 hw; have hg:w82.grownBy w84 (some go76):=(by rw [hw]; exact HP83.2); have hp_:Kd.R Kd.bool 4 w84 w.heap.size (fun _=>True) (.slice (some ⟨go76,0,none⟩) x7_2.length co76) y291:=(by rw [hw,Ny291.out]; exact HP83.1); clear HP83; have n0_:=yA (Kd.R_over' (v:=(.slice (some ⟨go76,0,none⟩) x7_2.length co76)) zA9 (Kd.R_typed HO_7.out) zA0 hg); have n1_:=yA (hp_); have n2_:=yA (Kd.R_over' (v:=(.slice (some ⟨go76,0,none⟩) x7_2.length co76)) zD1 (Kd.R_typed HO_7.out) zA0 hg); have n3_:=yA (BJ (g:=gb261) (o:= .cells #[.int .i64 A8,.slice (some ad285) l0_1.length c0_1] 24 (0,0)) zO hg (Kd.R_ne HO_7.out BK261.out zA0)); have n4_:=yA ((by rw [hw]; exact AI (HB.out) GB76.out:Below w.heap.size w w84)); clear HO_6; clear HO_7; clear HO_8; clear BK261; clear HB; have HO_6:=n0_; have HO_7:=n1_; have HO_8:=n2_; have BK261:=n3_; have HB:=n4_; clear n0_ n1_ n2_ n3_ n4_; clear hg hw hp_; have hcz85_0:w84.cell? ⟨gb261,0,none⟩=some (.int .i64 A8):=(AK BK261.out 0).trans rfl; have hcz85_1:w84.cell? ⟨gb261,1,none⟩=some (.slice (some ad285) l0_1.length c0_1):=(AK BK261.out 1).trans rfl; have hfz85_0:=AJ BK261.out 0; have hfz85_1:=AJ BK261.out 1; have p292:0≤(x10_3:Int):=yD; have q292:x10_3<(l0_1.length:Int):=yD; obtain ⟨ad292,A292_3,c292_3,e292,hx292_0,hx292_1,hx292_2,hx292_3,hl292_3,hi292_3⟩:=BZ HR0_1.out x10_3 p292 q292; obtain rfl:ad285=ad292:=(by injection e292); replace hx292_0:=yC HB.out hx292_0; replace hx292_1:=yC HB.out hx292_1; replace hx292_2:=yC HB.out hx292_2; replace hx292_3:=yC HB.out hx292_3; have HR292_3:=yA hi292_3; have HC292_3:=yA hl292_3; clear hi292_3 hl292_3; replace p292:=eq_true p292; replace q292:=eq_true q292; have p79:0≤(x14_5:Int):=yD; have q79:(x14_5:Int)<((x8_2.length:Int):Int):=yD; obtain ⟨go79,co79,eo79,gb79,gl79,cl79,HG79⟩:=Kd.R_form HO_8.out zE; (first|cases eo79|(injection eo79 with ea_ en_ ec_; (first|subst ea_|(injection ea_ with ea_; subst ea_)); subst ec_; clear en_)); have GB79:=yA gb79; have GG79:=yA HG79; clear gb79 gl79 HG79; (first|simp only [Bq] at hx284_0|skip); obtain ⟨hx79_0,hf79_0⟩:=Kd.R_celln 0 HO_8.out (x14_5:Int) p79 q79; replace p79:=eq_true p79; replace q79:=eq_true q79; obtain ⟨hy86_,hz86_⟩:=Kd.R_celln 0 HO_8.out (x14_5:Int) (yD) (yD); have HP86:=Kd.R_putg HO_8.out (x14_5:Int) (wrap64 (x16_6+((AL l0_1 x10_3).f1))))|((with_reducible refine BS (t:=3) (p:=173) rfl ?_); (try (rw [Bs w84]; generalize hq_:World.drewN w84 _=w84; have n0_:=yA (Kd.R_at hq_ HO_6.out); have n1_:=yA (Kd.R_at hq_ HO_7.out); have n2_:=yA (Kd.R_at hq_ HO_8.out); have n3_:=yA (Cf hq_ BK261.out); have n4_:=yA (CD hq_ HB.out); clear hq_ HO_6 HO_7 HO_8 BK261 HB; have HO_6:=n0_; have HO_7:=n1_; have HO_8:=n2_; have BK261:=n3_; have HB:=n4_; clear n0_ n1_ n2_ n3_ n4_; (try (obtain ⟨hy86_,hz86_⟩:=Kd.R_celln 0 HO_8.out (x14_5:Int) (yD) (yD))); (try (have HP86:=Kd.R_putg HO_8.out (x14_5:Int) (wrap64 (x16_6+((AL l0_1 x10_3).f1))))))); refine BP (t:=3) (p:=173) (v:= ?vo_w87) (w1:=(w84.setCell ⟨go79,(x14_5:Int).toNat,none⟩ (.int .i64 (wrap64 (x16_6+((AL l0_1 x10_3).f1)))))) ?hg ?ho ?hn ?hr ?_; (case ho=>rfl); (case hg=>rfl); (case hn=>rfl); (case hr=>first|(go_simp; done)|(go_simp; rfl)); intro w87 hw; have hg:w84.grownBy w87 (some go79):=(by rw [hw]; exact HP86.2); have hp_:Kd.R (Kd.int .i64) 3 w87 w.heap.size (fun _=>True) (.slice (some ⟨go79,0,none⟩) x8_2.length co62) y293:=(by rw [hw,Ny293.out]; exact HP86.1); clear HP86; have n0_:=yA (Kd.R_over' (v:=(.slice (some ⟨go79,0,none⟩) x8_2.length co62)) zA9 (Kd.R_typed HO_8.out) zA0 hg); have n1_:=yA (Kd.R_over' (v:=(.slice (some ⟨go79,0,none⟩) x8_2.length co62)) zA8 (Kd.R_typed HO_8.out) zA0 hg); have n2_:=yA (hp_); have n3_:=yA (BJ (g:=gb261) (o:= .cells #[.int .i64 A8,.slice (some ad285) l0_1.length c0_1] 24 (0,0)) zO hg (Kd.R_ne HO_8.out BK261.out zA0)); have n4_:=yA ((by rw [hw]; exact AI (HB.out) GB79.out:Below w.heap.size w w87)); clear HO_6; clear HO_7; clear HO_8; clear BK261; clear HB; have HO_6:=n0_; have HO_7:=n1_; have HO_8:=n2_; have BK261:=n3_; have HB:=n4_; clear n0_ n1_ n2_ n3_ n4_; clear hg hw hp_)); try go_wp2_with (first|((with_reducible refine BS (t:=54) (p:=161) rfl ?_); (try (rw [Bs wr]; generalize hq_:World.drewN wr _=wr; have n0_:=yA (Kd.R_at hq_ HO_6.out); have n1_:=yA (Kd.R_at hq_ HO_7.out); have n2_:=yA (Kd.R_at hq_ HO_8.out); have n3_:=yA (Cf hq_ BK261.out); have n4_:=yA (CD hq_ HB.out); clear hq_ HO_6 HO_7 HO_8 BK261 HB; have HO_6:=n0_; have HO_7:=n1_; have HO_8:=n2_; have BK261:=n3_; have HB:=n4_; clear n0_ n1_ n2_ n3_ n4_; (try (have HX81:=yA (show Kd.R k54 54 wr w.heap.size (fun _=>True) (.slice (some ⟨go74,0,none⟩) x6_2.length co74) x6_2 from zA9))); (try (obtain ⟨ce81,hcl81,hM81,hcc81,hfr81⟩:=Kd.R_elem HX81.out z54 (x10_3:Int) (yD) (by have h_:(x10_3:Int)<((x6_2.length:Int):Int):=yD; first|exact h_|(have e_:=(Kd.R_reads' HO_6.out).1; omega)|simpa using h_))); (try (obtain rfl:=CZ hM81)); (try (have HP81:=Kd.R_seg HX81.out (x10_3:Int) (yD) (by have h_:(x10_3:Int)<((x6_2.length:Int):Int):=yD; first|exact h_|(have e_:=(Kd.R_reads' HO_6.out).1; omega)|simpa using h_) (seg:=[.int .i64 x14_5,.int .i64 x16_6]) (j:=0) hcl81 hcc81 (show 2≤2 from by decide) (x':=(⟨x14_5,x16_6⟩:S54)) (CR _ _ _ (⟨x14_5,x16_6⟩:S54)) (fun _ hk=>hk))); (try (have hx81_0:=hcc81 0 _ rfl)); (try (try simp only [show (k54).sz=2 from rfl,Nat.mul_one,Nat.add_zero] at hx81_0)); (try (have hf81_0:=hfr81 0)); (try (try simp only [show (k54).sz=2 from rfl,Nat.mul_one,Nat.add_zero] at hf81_0)); (try (have hx81_1:=hcc81 1 _ rfl)); (try (try simp only [show (k54).sz=2 from rfl,Nat.mul_one,Nat.add_zero] at hx81_1)); (try (have hf81_1:=hfr81 1)); (try (try simp only [show (k54).sz=2 from rfl,Nat.mul_one,Nat.add_zero] at hf81_1)); (try (clear hcl81 hcc81 hfr81 hM81)))); refine BP (t:=54) (p:=161) (v:= ?vo_w82) (w1:=((wr.setCell ⟨go74,(x10_3:Int).toNat*2,none⟩ (.int .i64 x14_5)).setCell ⟨go74,(x10_3:Int).toNat*2+1,none⟩ (.int .i64 x16_6))) ?hg ?ho ?hn ?hr ?_; (case ho=>rfl); (case hg=>rfl); (case hn=>rfl); (case hr=>first|(go_simp; done)|(go_simp; rfl)); intro w82 hw; have hg:wr.grownBy w82 (some go74):=(by rw [hw]; exact HP81.2); have hp_:Kd.R k54 54 w82 w.heap.size (fun _=>True) (.slice (some ⟨go74,0,none⟩) x6_2.length co74) y290:=(by rw [hw,Ny290.out]; exact HP81.1); clear HP81; have n0_:=yA (hp_); have n1_:=yA (Kd.R_over' (v:=(.slice (some ⟨go74,0,none⟩) x6_2.length co74)) zA8 (Kd.R_typed HO_6.out) zA0 hg); have n2_:=yA (Kd.R_over' (v:=(.slice (some ⟨go74,0,none⟩) x6_2.length co74)) zD1 (Kd.R_typed HO_6.out) zA0 hg); have n3_:=yA (BJ (g:=gb261) (o:= .cells #[.int .i64 A8,.slice (some ad285) l0_1.length c0_1] 24 (0,0)) zO hg (Kd.R_ne HO_6.out BK261.out zA0)); have n4_:=yA ((by rw [hw]; exact AI (AI (HB.out) GB74.out) GB74.out:Below w.heap.size w w82)); clear HO_6; clear HO_7; clear HO_8; clear BK261; clear HB; have HO_6:=n0_; have HO_7:=n1_; have HO_8:=n2_; have BK261:=n3_; have HB:=n4_; clear n0_ n1_ n2_ n3_ n4_; clear hg hw hp_; have p76:0≤(x10_3:Int):=yD; have q76:(x10_3:Int)<((x7_2.length:Int):Int):=yD; obtain ⟨go76,co76,eo76,gb76,gl76,cl76,HG76⟩:=Kd.R_form HO_7.out zE; (first|cases eo76|(injection eo76 with ea_ en_ ec_; (first|subst ea_|(injection ea_ with ea_; subst ea_)); subst ec_; clear en_)); have GB76:=yA gb76; have GG76:=yA HG76; clear gb76 gl76 HG76; obtain ⟨hx76_0,hf76_0⟩:=Kd.R_celln false HO_7.out (x10_3:Int) p76 q76; replace p76:=eq_true p76; replace q76:=eq_true q76; obtain ⟨hy83_,hz83_⟩:=Kd.R_celln false HO_7.out (x10_3:Int) (yD) (yD); have HP83:=Kd.R_putg HO_7.out (x10_3:Int) true)|((with_reducible refine BS (t:=4) (p:=162) rfl ?_); (try (rw [Bs w82]; generalize hq_:World.drewN w82 _=w82; have n0_:=yA (Kd.R_at hq_ HO_6.out); have n1_:=yA (Kd.R_at hq_ HO_7.out); have n2_:=yA (Kd.R_at hq_ HO_8.out); have n3_:=yA (Cf hq_ BK261.out); have n4_:=yA (CD hq_ HB.out); clear hq_ HO_6 HO_7 HO_8 BK261 HB; have HO_6:=n0_; have HO_7:=n1_; have HO_8:=n2_; have BK261:=n3_; have HB:=n4_; clear n0_ n1_ n2_ n3_ n4_; (try (obtain ⟨hy83_,hz83_⟩:=Kd.R_celln false HO_7.out (x10_3:Int) (yD) (yD))); (try (have HP83:=Kd.R_putg HO_7.out (x10_3:Int) true)))); refine BP (t:=4) (p:=162) (v:= ?vo_w84) (w1:=(w82.setCell ⟨go76,(x10_3:Int).toNat,none⟩ (.bool true))) ?hg ?ho ?hn ?hr ?_; (case ho=>rfl); (case hg=>rfl); (case hn=>rfl); (case hr=>first|(go_simp; done)|(go_simp; rfl)); intro w84 hw; have hg:w82.grownBy w84 (some go76):=(by rw [hw]; exact HP83.2); have hp_:Kd.R Kd.bool 4 w84 w.heap.size (fun _=>True) (.slice (some ⟨go76,0,none⟩) x7_2.length co76) y291:=(by rw [hw,Ny291.out]; exact HP83.1); clear HP83; have n0_:=yA (Kd.R_over' (v:=(.slice (some ⟨go76,0,none⟩) x7_2.length co76)) zA9 (Kd.R_typed HO_7.out) zA0 hg); have n1_:=yA (hp_); have n2_:=yA (Kd.R_over' (v:=(.slice (some ⟨go76,0,none⟩) x7_2.length co76)) zD1 (Kd.R_typed HO_7.out) zA0 hg); have n3_:=yA (BJ (g:=gb261) (o:= .cells #[.int .i64 A8,.slice (some ad285) l0_1.length c0_1] 24 (0,0)) zO hg (Kd.R_ne HO_7.out BK261.out zA0)); have n4_:=yA ((by rw [hw]; exact AI (HB.out) GB76.out:Below w.heap.size w w84)); clear HO_6; clear HO_7; clear HO_8; clear BK261; clear HB; have HO_6:=n0_; have HO_7:=n1_; have HO_8:=n2_; have BK261:=n3_; have HB:=n4_; clear n0_ n1_ n2_ n3_ n4_; clear hg hw hp_; have hcz85_0:w84.cell? ⟨gb261,0,none⟩=some (.int .i64 A8):=(AK BK261.out 0).trans rfl; have hcz85_1:w84.cell? ⟨gb261,1,none⟩=some (.slice (some ad285) l0_1.length c0_1):=(AK BK261.out 1).trans rfl; have hfz85_0:=AJ BK261.out 0; have hfz85_1:=AJ BK261.out 1; have p292:0≤(x10_3:Int):=yD; have q292:x10_3<(l0_1.length:Int):=yD; obtain ⟨ad292,A292_3,c292_3,e292,hx292_0,hx292_1,hx292_2,hx292_3,hl292_3,hi292_3⟩:=BZ HR0_1.out x10_3 p292 q292; obtain rfl:ad285=ad292:=(by injection e292); replace hx292_0:=yC HB.out hx292_0; replace hx292_1:=yC HB.out hx292_1; replace hx292_2:=yC HB.out hx292_2; replace hx292_3:=yC HB.out hx292_3; have HR292_3:=yA hi292_3; have HC292_3:=yA hl292_3; clear hi292_3 hl292_3; replace p292:=eq_true p292; replace q292:=eq_true q292; have p79:0≤(x14_5:Int):=yD; have q79:(x14_5:Int)<((x8_2.length:Int):Int):=yD; obtain ⟨go79,co79,eo79,gb79,gl79,cl79,HG79⟩:=Kd.R_form HO_8.out zE; (first|cases eo79|(injection eo79 with ea_ en_ ec_; (first|subst ea_|(injection ea_ with ea_; subst ea_)); subst ec_; clear en_)); have GB79:=yA gb79; have GG79:=yA HG79; clear gb79 gl79 HG79; (first|simp only [Bq] at hx284_0|skip); obtain ⟨hx79_0,hf79_0⟩:=Kd.R_celln 0 HO_8.out (x14_5:Int) p79 q79; replace p79:=eq_true p79; replace q79:=eq_true q79; obtain ⟨hy86_,hz86_⟩:=Kd.R_celln 0 HO_8.out (x14_5:Int) (yD) (yD); have HP86:=Kd.R_putg HO_8.out (x14_5:Int) (wrap64 (x16_6+((AL l0_1 x10_3).f1))))|((with_reducible refine BS (t:=3) (p:=173) rfl ?_); (try (rw [Bs w84]; generalize hq_:World.drewN w84 _=w84; have n0_:=yA (Kd.R_at hq_ HO_6.out); have n1_:=yA (Kd.R_at hq_ HO_7.out); have n2_:=yA (Kd.R_at hq_ HO_8.out); have n3_:=yA (Cf hq_ BK261.out); have n4_:=yA (CD hq_ HB.out); clear hq_ HO_6 HO_7 HO_8 BK261 HB; have HO_6:=n0_; have HO_7:=n1_; have HO_8:=n2_; have BK261:=n3_; have HB:=n4_; clear n0_ n1_ n2_ n3_ n4_; (try (obtain ⟨hy86_,hz86_⟩:=Kd.R_celln 0 HO_8.out (x14_5:Int) (yD) (yD))); (try (have HP86:=Kd.R_putg HO_8.out (x14_5:Int) (wrap64 (x16_6+((AL l0_1 x10_3).f1))))))); refine BP (t:=3) (p:=173) (v:= ?vo_w87) (w1:=(w84.setCell ⟨go79,(x14_5:Int).toNat,none⟩ (.int .i64 (wrap64 (x16_6+((AL l0_1 x10_3).f1)))))) ?hg ?ho ?hn ?hr ?_; (case ho=>rfl); (case hg=>rfl); (case hn=>rfl); (case hr=>first|(go_simp; done)|(go_simp; rfl)); intro w87 hw; have hg:w84.grownBy w87 (some go79):=(by rw [hw]; exact HP86.2); have hp_:Kd.R (Kd.int .i64) 3 w87 w.heap.size (fun _=>True) (.slice (some ⟨go79,0,none⟩) x8_2.length co62) y293:=(by rw [hw,Ny293.out]; exact HP86.1); clear HP86; have n0_:=yA (Kd.R_over' (v:=(.slice (some ⟨go79,0,none⟩) x8_2.length co62)) zA9 (Kd.R_typed HO_8.out) zA0 hg); have n1_:=yA (Kd.R_over' (v:=(.slice (some ⟨go79,0,none⟩) x8_2.length co62)) zA8 (Kd.R_typed HO_8.out) zA0 hg); have n2_:=yA (hp_); have n3_:=yA (BJ (g:=gb261) (o:= .cells #[.int .i64 A8,.slice (some ad285) l0_1.length c0_1] 24 (0,0)) zO hg (Kd.R_ne HO_8.out BK261.out zA0)); have n4_:=yA ((by rw [hw]; exact AI (HB.out) GB79.out:Below w.heap.size w w87)); clear HO_6; clear HO_7; clear HO_8; clear BK261; clear HB; have HO_6:=n0_; have HO_7:=n1_; have HO_8:=n2_; have BK261:=n3_; have HB:=n4_; clear n0_ n1_ n2_ n3_ n4_; clear hg hw hp_)))
                               go_roundg k6
                               case measure=>have:=HJ2.out; have:=HK2.out; have:=HK3.out; have:=HJ26.out; have:=HK5.out; have:=HK6.out; omega
                               case rel=>exact ⟨(y290),(y291),(y293),(wrap64 (x9_2+1)),zH,H',⟨by have:=HJ2.out; have:=HK2.out; have:=HK3.out; have:=HJ26.out; have:=HK5.out; have:=HK6.out; omega⟩,⟨by (with_reducible repeat (first|apply Kd.R_alloc|apply Kd.R_drewN|apply Kd.R_drew)); exact HO_6.out⟩,⟨by (with_reducible repeat (first|apply Kd.R_alloc|apply Kd.R_drewN|apply Kd.R_drew)); exact HO_7.out⟩,⟨by (with_reducible repeat (first|apply Kd.R_alloc|apply Kd.R_drewN|apply Kd.R_drew)); exact HO_8.out⟩,⟨by (with_reducible repeat (first|refine AF ?_ _|refine AH ?_|refine AG ?_ _)); exact BK261.out⟩,⟨by repeat (first|(with_reducible first|exact HB.out|apply AE|apply AC|apply AD|refine AI ?_ GE261.out)|exact HB.out)⟩⟩
                              ·rw [if_neg c78] at H
                               exact absurd H zA5
                             ·rw [if_neg c77] at H
                              exact absurd H zA5
                            ·rw [if_neg c75] at H
                             exact absurd H zA5
                           ·rw [if_neg c73] at H
                            exact absurd H zA5
                         ·rw [if_neg c64] at H
                          exact absurd H zA5
                        ·rw [if_neg c63] at H
                         exact absurd H zA5
                     ·rw [if_neg c60] at H
                      exact absurd H zA5
                    ·rw [if_neg c59] at H
                     exact absurd H zA5
           ·rw [if_neg c26] at H
            have c26b0:decide (x9_2<(l1.length:Int))=false:=decide_eq_false c26
            clear c26
            simp only [Option.some.injEq,Prod.mk.injEq] at H
            obtain ⟨rfl,rfl⟩:=H
            go_wp2
            repeat (go_quiet (fail); try go_wp2)
            go_ret2
            exact ⟨_,by first|rfl|(simp [AY,AX]<;>rfl)|(simp [*,AY,AX]<;>rfl),by (with_reducible repeat (first|apply Kd.R_alloc|apply Kd.R_drewN|apply Kd.R_drew)); exact HO_6.out,by repeat (first|(with_reducible first|exact HB.out|apply AE|apply AC|apply AD|refine AI ?_ GE261.out)|exact HB.out)⟩
        ·rw [if_neg c18] at H
         exact absurd H zA5
       ·rw [if_neg c17] at H
        exact absurd H zA5
      ·rw [if_neg c16] at H
       exact absurd H zA5
     ·rw [if_neg c15] at H
      exact absurd H zA5
    ·rw [if_neg c14] at H
     exact absurd H zA5
end Go.Proofs.Ytdadecjefafflaa.PLst
end
section
namespace Go.Proofs.Ytdadecjefafflaa.PLst
set_option maxRecDepth 100000
open Go.RowKit Go.Proofs.YtdadecjefafflaaW.PrintWords Go.Proofs.YtdadecjefafflaaW.PrintLast Go.Proofs.YtdadecjefafflaaW.PrintMore
attribute [local go_sem] Bd Bb Bm Bk BU BT Bc Ba
mutual
def AZ.l0:Nat→List Int→Int→Int→List (S42)→Option (List Int×Int)
 |0,_,_,_,_=>none
 |k+1,x4,x5,x295000,x295001=>if x5<(x295001.length:Int) then (AZ.l1 k x4 x5 0 x295000 x295001) else (some (x4,0))
def AZ.l1:Nat→List Int→Int→Int→Int→List (S42)→Option (List Int×Int)
 |0,_,_,_,_,_=>none
 |k+1,x4,x5,x6,x295000,x295001=>if 0≤x5 then (if x5<(x295001.length:Int) then (if x6<(((AL x295001 x5).f3).length:Int) then (if x5<(x4.length:Int) then (if 0≤x6 then (if 0≤(rd ((AL x295001 x5).f3) x6) then (if (rd ((AL x295001 x5).f3) x6)<(x4.length:Int) then (AZ.l1 k (x4.set (x5:Int).toNat (mx (rd x4 x5) (rd x4 (rd ((AL x295001 x5).f3) x6)))) x5 (wrap64 (x6+1)) x295000 x295001) else (none)) else (none)) else (none)) else (none)) else (if x5<(x4.length:Int) then (AZ.l0 k (x4.set (x5:Int).toNat (wrap64 ((rd x4 x5)+((AL x295001 x5).f1)))) (wrap64 (x5+1)) x295000 x295001) else (none))) else (none)) else (none)
end
def AZ.f (k:Nat) (A8:Int) (l0_1:List (S42)):Option (List Int×Int):=(AS.f k A8 l0_1).bind fun t295=>(if t295=true then (if 0≤(l0_1.length:Int) then (if ((l0_1.length:Int):Int).toNat≤35184372088832 then (AZ.l0 k (List.replicate ((l0_1.length:Int):Int).toNat 0) 0 A8 l0_1) else (none)) else (none)) else (some (([]:List Int),1)))
def AZ.T10:Bool×List (List Nat×List Nat):=(true,[([],[]),([],[]),([],[]),([],[]),([2,3],[2,3]),([4],[4]),([],[]),([],[]),([7],[7]),([],[]),([8,9],[8,9]),([10],[10]),([11],[11]),([],[]),([12,13],[12,13]),([14],[14]),([6,15],[6,15]),([16],[16]),([5,17],[5,17]),([0,1,0,1,2,3,4,5,6,7,8,9,10,11,12,13,14,15,16,17,18],[0,1]),([19,18,0,1,2,3,4,5,6,7,8,9,10,11,12,13,14,15,16,17,18],[18,19])])
def AZ.B10:List Nat:=[0,0,0,0,12,28,0,0,128,0,896,1920,3968,0,16256,32640,65472,131008,262140,524287,1048575]
theorem AZ.tab10:rtab .any (Cx Try.f22 10)=AZ.T10:=by kernel_rfl
theorem AZ.bits10:C2 AZ.T10.2 AZ.B10=true:=by kernel_rfl
def AZ.T11:Bool×List (List Nat×List Nat):=(true,[([],[]),([],[]),([0,1],[0,1]),([2],[2]),([],[]),([4],[4]),([],[]),([5,6],[5,6]),([7],[7]),([8],[8]),([3,9],[3,9]),([0,1,0,1,2,3,4,5,6,7,8,9,10],[0,1]),([11,10,0,1,2,3,4,5,6,7,8,9,10],[10,11])])
def AZ.B11:List Nat:=[0,0,3,7,0,16,0,112,240,496,1023,2047,4095]
theorem AZ.tab11:rtab .any (Cx Try.f22 11)=AZ.T11:=by kernel_rfl
theorem AZ.bits11:C2 AZ.T11.2 AZ.B11=true:=by kernel_rfl
set_option maxHeartbeats 8000000 in
theorem AZ.calls (k :Nat) (A8:Int) (A0_1:Option Addr) (c0_1:Nat) (l0_1:List (S42)) (r1:List Int) (r2:Int) (w:World) (hr0_1:Kd.C k42 w A0_1 l0_1.length l0_1) (hc0_1:l0_1.length≤c0_1) (h:AZ.f k A8 l0_1=some (r1,r2)):
  Calls Try.prog 22 #[.agg #[.int .i64 A8,.slice A0_1 l0_1.length c0_1]] w fun e w'=>∃v0_:Value,e= .returned (.tuple #[v0_,.int .i64 r2])∧Kd.R (Kd.int .i64) 3 w' w.heap.size (fun _=>True) v0_ r1∧Below w.heap.size w w':=by
 have hu24:=Try.underlying24
 have HR0_1:=yA hr0_1
 have HC0_1:=yA hc0_1
 clear hr0_1 hc0_1
 have HB:=yA (Below.refl w.heap.size w)
 have H:((AS.f k A8 l0_1).bind fun t295=>(if t295=true then (if 0≤(l0_1.length:Int) then (if ((l0_1.length:Int):Int).toNat≤35184372088832 then (AZ.l0 k (List.replicate ((l0_1.length:Int):Int).toNat 0) 0 A8 l0_1) else (none)) else (none)) else (some (([]:List Int),1))))=some (r1,r2):=h
 clear h
 replace H:=Option.bind_eq_some_iff.mp H
 obtain ⟨t295,A20,H⟩:=H
 replace H:(if t295=true then (if 0≤(l0_1.length:Int) then (if ((l0_1.length:Int):Int).toNat≤35184372088832 then (AZ.l0 k (List.replicate ((l0_1.length:Int):Int).toNat 0) 0 A8 l0_1) else (none)) else (none)) else (some (([]:List Int),1)))=some (r1,r2):=H
 have A2:=yA A20
 clear A20
 by_cases c3:t295=true
 ·subst c3
  have H1:(if 0≤(l0_1.length:Int) then (if ((l0_1.length:Int):Int).toNat≤35184372088832 then (AZ.l0 k (List.replicate ((l0_1.length:Int):Int).toNat 0) 0 A8 l0_1) else (none)) else (none))=some (r1,r2):=by rw [if_pos rfl] at H; exact H
  clear H
  have H:=H1
  clear H1
  by_cases c4:0≤(l0_1.length:Int)
  ·rw [if_pos c4] at H
   have c4b0:=eq_true c4
   have c4b1:decide (0≤(l0_1.length:Int))=true:=decide_eq_true c4
   clear c4
   by_cases c5:((l0_1.length:Int):Int).toNat≤35184372088832
   ·rw [if_pos c5] at H
    have c5b0:=eq_true c5
    have c5b1:decide (((l0_1.length:Int):Int).toNat≤35184372088832)=true:=decide_eq_true c5
    clear c5
    obtain ⟨y296,hy296⟩:∃y_:List Int,y_=(List.replicate ((l0_1.length:Int):Int).toNat 0):=⟨_,rfl⟩
    replace H:(AZ.l0 k y296 0 A8 l0_1)=some (r1,r2):=by first|(rw [hy296]; with_reducible exact H)|(have H2_:=(Option.bind_some _ _).symm.trans H; rw [hy296]; with_reducible exact H2_)|(have H2_:=(Option.bind_some _ _).symm.trans H; with_reducible exact H2_)|with_reducible exact H|(rw [hy296]; exact H)|exact H
    have Ny296:=yA hy296
    clear hy296
    have H':=yA H
    clear H
    go_enter Try.func22,Try.ntmps22
    go_wp2_with (first|((with_reducible refine Aq (N:=1) rfl ?_); refine Av ?hg (N:=1) ?hd (cs:= #[.int .i64 A8,.slice A0_1 l0_1.length c0_1]) (t:=24) ?hr ?_; (case hd=>rfl); (case hg=>rfl); (case hr=>first|(go_simp; done)|(go_simp; rfl)); intro gb294 hg w6 hbox hb; have n0_:=yA (AO zB hb); have n1_:=yA (hbox); have n2_:=yA ((by rw [hg]; exact (AQ zB):w.heap.size≤gb294)); have n3_:=yA ((by rw [hg]; exact (AQ zB):w.heap.size≤gb294)); clear HB; have HB:=n0_; have BK294:=n1_; have GW294:=n2_; have GE294:=n3_; clear n0_ n1_ n2_ n3_; clear hb hbox hg; have hcz7_0:w6.cell? ⟨gb294,0,none⟩=some (.int .i64 A8):=(AK BK294.out 0).trans rfl; have hcz7_1:w6.cell? ⟨gb294,1,none⟩=some (.slice A0_1 l0_1.length c0_1):=(AK BK294.out 1).trans rfl; have hfz7_0:=AJ BK294.out 0; have hfz7_1:=AJ BK294.out 1)|((with_reducible refine Ae (f:=36) rfl ?_); refine B6 (some 8) rfl rfl Try.func36 zI rfl #[.agg #[.int .i64 A8,.slice A0_1 l0_1.length c0_1]] rfl zD ?_; (with_reducible refine (AS.calls k A8 _ _ l0_1 true _ ?side1 ?side2 A2.out).mono ?_); (case side1=>repeat (first|exact (Kd.C_below HR0_1.out HB.out)|(with_reducible refine Kd.C_alloc ?_ _)|(with_reducible refine Kd.C_drewN ?_ _)|(with_reducible refine Kd.C_drew ?_))); (case side2=>exact HC0_1.out); rintro e w8 ⟨rfl,hb⟩; refine ⟨_,rfl,?_⟩; have n0_:=yA (AP (g:=gb294) (o:= .cells #[.int .i64 A8,.slice A0_1 l0_1.length c0_1] 24 (0,0)) (by (with_reducible repeat (first|refine AF ?_ _|refine AH ?_|refine AG ?_ _)); exact BK294.out) hb); have n1_:=yA (AO (by repeat (first|(with_reducible first|exact HB.out|apply AE|apply AC|apply AD|refine AI ?_ GE294.out)|exact HB.out)) hb); clear BK294; clear HB; have BK294:=n0_; have HB:=n1_; clear n0_ n1_; (try clear hb); (try clear hb2); (try clear hk); (try clear hi); have hcz9_0:w8.cell? ⟨gb294,0,none⟩=some (.int .i64 A8):=(AK BK294.out 0).trans rfl; have hcz9_1:w8.cell? ⟨gb294,1,none⟩=some (.slice A0_1 l0_1.length c0_1):=(AK BK294.out 1).trans rfl; have hfz9_0:=AJ BK294.out 0; have hfz9_1:=AJ BK294.out 1)|((with_reducible refine Aq (N:=13) rfl ?_); refine Kd.R_make (Kd.int .i64) _ 3 rfl (N:=13) rfl 26 _ _ rfl (l0_1.length:Int) rfl rfl Try.underlying26 (.int .i64 0) 8 info3 rfl zA0 zE 0 (ok:=fun _=>True) (okp:=fun _=>True) rfl (fun _ hk=>hk) trivial (yD) (Nat.le_trans (Nat.mul_le_mul_right _ (yD:(l0_1.length:Int).toNat≤35184372088832)) zE) (Below.refl _ _) (Nat.le_refl _) ?_; intro v297 w10 ho11 hb hg_ hnew_; clear hg_ hnew_; (first|rw [←Ny296.out] at ho11|(simp only [Int.reduceToNat] at ho11; rw [←Ny296.out] at ho11)); have n0_:=yA (Kd.R_lower ho11 (AQ (by repeat (first|(with_reducible first|exact HB.out|apply AE|apply AC|apply AD|refine AI ?_ GE294.out)|exact HB.out)))); have n1_:=yA (AP (g:=gb294) (o:= .cells #[.int .i64 A8,.slice A0_1 l0_1.length c0_1] 24 (0,0)) (by (with_reducible repeat (first|refine AF ?_ _|refine AH ?_|refine AG ?_ _)); exact BK294.out) hb); have n2_:=yA (AO (by repeat (first|(with_reducible first|exact HB.out|apply AE|apply AC|apply AD|refine AI ?_ GE294.out)|exact HB.out)) hb); clear BK294; clear HB; have HO298:=n0_; have BK294:=n1_; have HB:=n2_; clear n0_ n1_ n2_; clear hb ho11))
    go_loopg [5] k (fun kq v5 w'=>∃(x4_1:List Int) (x5_1:Int),v5= .int .i64 x5_1∧Aside0 (AZ.l0 kq x4_1 x5_1 A8 l0_1=some (r1,r2))∧Aside0 (kq≤k)∧Aside0 (Kd.R (Kd.int .i64) 3 w' w.heap.size (fun _=>True) v297 x4_1)∧Aside0 (w'.heap[gb294]? =some (.cells #[.int .i64 A8,(.slice A0_1 l0_1.length c0_1)] 24 (0,0)))∧Aside0 (Below w.heap.size w w'))
    case atStart=>exact ⟨(y296),(0),zH,H',⟨Nat.le_refl _⟩,⟨by (with_reducible repeat (first|apply Kd.R_alloc|apply Kd.R_drewN|apply Kd.R_drew)); exact HO298.out⟩,⟨by (with_reducible repeat (first|refine AF ?_ _|refine AH ?_|refine AG ?_ _)); exact BK294.out⟩,⟨by repeat (first|(with_reducible first|exact HB.out|apply AE|apply AC|apply AD|refine AI ?_ GE294.out)|exact HB.out)⟩⟩
    case round=>
     clear H'
     try clear c2
     try clear p2
     try clear c3
     try clear c4
     try clear c4b0
     try clear c4b1
     try clear c5
     try clear c5b0
     try clear c5b1
     try clear hcz7_0
     try clear hcz7_1
     try clear hcz9_0
     try clear hcz9_1
     try clear hfz7_0
     try clear hfz7_1
     try clear hfz9_0
     try clear hfz9_1
     obtain ⟨x4_1,x5_1,rfl,HA,HK1,HO_4,BK294,HB⟩:=hrel
     cases gk with
     |zero=>exact absurd HA.out (by simp [AZ.l0])
     | succ k1 =>
      have H:=HA.out
      clear HA
      simp only [AZ.l0] at H
      by_cases c12:x5_1<(l0_1.length:Int)
      ·rw [if_pos c12] at H
       have c12b0:decide (x5_1<(l0_1.length:Int))=true:=decide_eq_true c12
       clear c12
       have H':=yA H
       clear H
       have hcz13_0:wr.cell? ⟨gb294,0,none⟩=some (.int .i64 A8):=(AK BK294.out 0).trans rfl
       have hcz13_1:wr.cell? ⟨gb294,1,none⟩=some (.slice A0_1 l0_1.length c0_1):=(AK BK294.out 1).trans rfl
       have hfz13_0:=AJ BK294.out 0
       have hfz13_1:=AJ BK294.out 1
       go_wp2
       go_loopg [6] k1 (fun kq v6 w'=>∃(x4_2:List Int) (x6_2:Int),v6= .int .i64 x6_2∧Aside0 (AZ.l1 kq x4_2 x5_1 x6_2 A8 l0_1=some (r1,r2))∧Aside0 (kq≤k1)∧Aside0 (Kd.R (Kd.int .i64) 3 w' w.heap.size (fun _=>True) v297 x4_2)∧Aside0 (w'.heap[gb294]? =some (.cells #[.int .i64 A8,(.slice A0_1 l0_1.length c0_1)] 24 (0,0)))∧Aside0 (Below w.heap.size w w'))
       case atStart=>exact ⟨(x4_1),(0),zH,H',⟨Nat.le_refl _⟩,⟨by (with_reducible repeat (first|apply Kd.R_alloc|apply Kd.R_drewN|apply Kd.R_drew)); exact HO_4.out⟩,⟨by (with_reducible repeat (first|refine AF ?_ _|refine AH ?_|refine AG ?_ _)); exact BK294.out⟩,⟨by repeat (first|(with_reducible first|exact HB.out|apply AE|apply AC|apply AD|refine AI ?_ GE294.out)|exact HB.out)⟩⟩
       case round=>
        clear H'
        try clear c1
        try clear c2
        try clear p2
        try clear c3
        try clear c4
        try clear c4b0
        try clear c4b1
        try clear c5
        try clear c5b0
        try clear c5b1
        try clear c12
        try clear c12b0
        try clear hcz13_0
        try clear hcz13_1
        try clear hcz7_0
        try clear hcz7_1
        try clear hcz9_0
        try clear hcz9_1
        try clear hfz13_0
        try clear hfz13_1
        try clear hfz7_0
        try clear hfz7_1
        try clear hfz9_0
        try clear hfz9_1
        try clear p2
        obtain ⟨x4_2,x6_2,rfl,HA,HK2,HO_4,BK294,HB⟩:=hrel
        cases gk with
        |zero=>exact absurd HA.out (by simp [AZ.l1])
        | succ k2 =>
         have H:=HA.out
         clear HA
         simp only [AZ.l1] at H
         by_cases c14:0≤x5_1
         ·rw [if_pos c14] at H
          have c14b0:decide (0≤x5_1)=true:=decide_eq_true c14
          clear c14
          by_cases c15:x5_1<(l0_1.length:Int)
          ·rw [if_pos c15] at H
           have c15b0:decide (x5_1<(l0_1.length:Int))=true:=decide_eq_true c15
           clear c15
           by_cases c16:x6_2<(((AL l0_1 x5_1).f3).length:Int)
           ·rw [if_pos c16] at H
            have c16b0:decide (x6_2<(((AL l0_1 x5_1).f3).length:Int))=true:=decide_eq_true c16
            clear c16
            by_cases c17:x5_1<(x4_2.length:Int)
            ·rw [if_pos c17] at H
             have c17b0:decide (x5_1<(x4_2.length:Int))=true:=decide_eq_true c17
             clear c17
             by_cases c18:0≤x6_2
             ·rw [if_pos c18] at H
              have c18b0:decide (0≤x6_2)=true:=decide_eq_true c18
              clear c18
              by_cases c19:0≤(rd ((AL l0_1 x5_1).f3) x6_2)
              ·rw [if_pos c19] at H
               have c19b0:decide (0≤(rd ((AL l0_1 x5_1).f3) x6_2))=true:=decide_eq_true c19
               clear c19
               by_cases c20:(rd ((AL l0_1 x5_1).f3) x6_2)<(x4_2.length:Int)
               ·rw [if_pos c20] at H
                have c20b0:decide ((rd ((AL l0_1 x5_1).f3) x6_2)<(x4_2.length:Int))=true:=decide_eq_true c20
                clear c20
                obtain ⟨ji21,hji21⟩:∃j_:Int,(mx (rd x4_2 x5_1) (rd x4_2 (rd ((AL l0_1 x5_1).f3) x6_2)))=j_:=⟨_,rfl⟩
                replace H:(AZ.l1 k2 (x4_2.set (x5_1:Int).toNat (ji21)) x5_1 (wrap64 (x6_2+1)) A8 l0_1)=some (r1,r2):=by first|(rw [hji21] at H; exact H)|(simp only [hji21] at H ⊢; exact H)
                have hji21_:(if (rd x4_2 x5_1)<(rd x4_2 (rd ((AL l0_1 x5_1).f3) x6_2)) then (rd x4_2 (rd ((AL l0_1 x5_1).f3) x6_2)) else (rd x4_2 x5_1))=ji21:=hji21
                obtain ⟨y304,hy304⟩:∃y_:List Int,y_=(x4_2.set (x5_1:Int).toNat (ji21)):=⟨_,rfl⟩
                replace H:(AZ.l1 k2 y304 x5_1 (wrap64 (x6_2+1)) A8 l0_1)=some (r1,r2):=by first|(rw [hy304]; with_reducible exact H)|(have H2_:=(Option.bind_some _ _).symm.trans H; rw [hy304]; with_reducible exact H2_)|(have H2_:=(Option.bind_some _ _).symm.trans H; with_reducible exact H2_)|with_reducible exact H|(rw [hy304]; exact H)|exact H
                have Ny304:=yA hy304
                clear hy304
                have H':=yA H
                clear H
                have hcz23_0:wr.cell? ⟨gb294,0,none⟩=some (.int .i64 A8):=(AK BK294.out 0).trans rfl
                have hcz23_1:wr.cell? ⟨gb294,1,none⟩=some (.slice A0_1 l0_1.length c0_1):=(AK BK294.out 1).trans rfl
                have hfz23_0:=AJ BK294.out 0
                have hfz23_1:=AJ BK294.out 1
                have p299:0≤(x5_1:Int):=yD
                have q299:x5_1<(l0_1.length:Int):=yD
                obtain ⟨ad299,A299_3,c299_3,e299,hx299_0,hx299_1,hx299_2,hx299_3,hl299_3,hi299_3⟩:=BZ HR0_1.out x5_1 p299 q299
                cases e299
                replace hx299_0:=yC HB.out hx299_0
                replace hx299_1:=yC HB.out hx299_1
                replace hx299_2:=yC HB.out hx299_2
                replace hx299_3:=yC HB.out hx299_3
                have HR299_3:=yA hi299_3
                have HC299_3:=yA hl299_3
                clear hi299_3 hl299_3
                replace p299:=eq_true p299
                replace q299:=eq_true q299
                try go_wp2
                have n0_:=yA (Kd.R_drew HO_4.out)
                have n1_:=yA (AH BK294.out)
                have n2_:=yA (AD HB.out)
                clear HO_4
                clear BK294
                clear HB
                have HO_4:=n0_
                have BK294:=n1_
                have HB:=n2_
                clear n0_ n1_ n2_
                obtain ⟨Ao25,co25,eo25⟩:=Kd.R_slice HO_4.out
                (first|subst eo25|(injection eo25 with f1_ f2_ f3_; have f4_:=f1_.symm; have f5_:=f3_.symm; clear f1_ f2_ f3_; subst f4_; subst f5_))
                have p300:0≤(x5_1:Int):=yD
                have q300:x5_1<(x4_2.length:Int):=yD
                obtain ⟨ad300,e300,hx300_0⟩:=Kd.at_int (Kd.R_reads' HO_4.out).2.2 x5_1 p300 q300
                cases e300
                replace p300:=eq_true p300
                replace q300:=eq_true q300
                have p301:0≤(x5_1:Int):=yD
                have q301:x5_1<(l0_1.length:Int):=yD
                obtain ⟨ad301,A301_3,c301_3,e301,hx301_0,hx301_1,hx301_2,hx301_3,hl301_3,hi301_3⟩:=BZ HR0_1.out x5_1 p301 q301
                have hw301_3:=hx301_3
                have hw301_2:=hx301_2
                have hw301_1:=hx301_1
                have hw301_0:=hx301_0
                obtain rfl:ad299=ad301:=(by injection e301)
                replace hx301_0:=yC HB.out hx301_0
                replace hx301_1:=yC HB.out hx301_1
                replace hx301_2:=yC HB.out hx301_2
                replace hx301_3:=yC HB.out hx301_3
                have HR301_3:=yA hi301_3
                have HC301_3:=yA hl301_3
                clear hi301_3 hl301_3
                replace p301:=eq_true p301
                replace q301:=eq_true q301
                have p302:0≤(x6_2:Int):=yD
                have q302:x6_2<(((AL l0_1 x5_1).f3).length:Int):=yD
                obtain ⟨ad302,e302,hx302_0⟩:=Kd.at_int HR301_3.out x6_2 p302 q302
                have hw302_0:=hx302_0
                cases e302
                replace hx302_0:=yC HB.out hx302_0
                replace p302:=eq_true p302
                replace q302:=eq_true q302
                have p303:0≤((rd ((AL l0_1 x5_1).f3) x6_2):Int):=yD
                have q303:(rd ((AL l0_1 x5_1).f3) x6_2)<(x4_2.length:Int):=yD
                obtain ⟨ad303,e303,hx303_0⟩:=Kd.at_int (Kd.R_reads' HO_4.out).2.2 (rd ((AL l0_1 x5_1).f3) x6_2) p303 q303
                obtain rfl:ad300=ad303:=(by injection e303)
                replace p303:=eq_true p303
                replace q303:=eq_true q303
                have p22:0≤(x5_1:Int):=yD
                have q22:(x5_1:Int)<((x4_2.length:Int):Int):=yD
                obtain ⟨go22,co22,eo22,gb22,gl22,cl22,HG22⟩:=Kd.R_form HO_4.out zE
                (first|cases eo22|(injection eo22 with ea_ en_ ec_; (first|subst ea_|(injection ea_ with ea_; subst ea_)); subst ec_; clear en_))
                have GB22:=yA gb22
                have GG22:=yA HG22
                clear gb22 gl22 HG22
                (first|simp only [Bq] at hx300_0|skip)
                (first|simp only [Bq] at hx303_0|skip)
                obtain ⟨hx22_0,hf22_0⟩:=Kd.R_celln 0 HO_4.out (x5_1:Int) p22 q22
                replace p22:=eq_true p22
                replace q22:=eq_true q22
                have HP26:=Kd.R_putn HO_4.out (x5_1:Int) ji21
                rw [←Ny304.out] at HP26
                have HQ26:=yA HP26
                clear HP26
                refine C8 (n:=21) (S:=fun w'=>w'.cell? ⟨gb294,0,none⟩=some (.int .i64 A8)∧w'.cell? ⟨gb294,1,none⟩=some (.slice (some ad299) l0_1.length c0_1)∧w'.cell? ⟨go22,(x5_1).toNat,none⟩=some (.int .i64 (rd x4_2 x5_1))∧w'.cell? (ad299.add ((x5_1).toNat*4))=some (.string ((AL l0_1 x5_1).f0))∧w'.cell? ⟨(ad299.add ((x5_1).toNat*4)).block,(ad299.add ((x5_1).toNat*4)).off+1,none⟩=some (.int .i64 ((AL l0_1 x5_1).f1))∧w'.cell? ⟨(ad299.add ((x5_1).toNat*4)).block,(ad299.add ((x5_1).toNat*4)).off+2,none⟩=some (.int .i64 ((AL l0_1 x5_1).f2))∧w'.cell? ⟨(ad299.add ((x5_1).toNat*4)).block,(ad299.add ((x5_1).toNat*4)).off+3,none⟩=some (.slice (some ad302) ((AL l0_1 x5_1).f3).length c301_3)∧w'.cell? (ad302.add (x6_2).toNat)=some (.int .i64 (rd ((AL l0_1 x5_1).f3) x6_2))∧w'.cell? ⟨go22,((rd ((AL l0_1 x5_1).f3) x6_2)).toNat,none⟩=some (.int .i64 (rd x4_2 (rd ((AL l0_1 x5_1).f3) x6_2)))) (ds:=[20]) #[false,false,false,false,false,false,false,false,false,false,false,false,false,false,false,false,false,false,false,false,false] zI rfl rfl ⟨(AK BK294.out 0).trans rfl,(AK BK294.out 1).trans rfl,hx300_0,(yC HB.out hw301_0),(yC HB.out hw301_1),(yC HB.out hw301_2),(yC HB.out hw301_3),(yC HB.out hw302_0),hx303_0⟩ (fun hHeld=> ?_); refine Bn AZ.tab10 AZ.bits10 (fun HT_ HW_=> ?_)
                generalize wr.drew=w24 at HO_4 BK294 HB GG22 HQ26 HR301_3 hf22_0 hx22_0 hx300_0 hx301_0 hx301_1 hx301_2 hx301_3 hx302_0 hx303_0 hHeld ⊢
                refine At (i:=0) (N:=some 32) (v:= ?_) (a':= ?_) #[true,false,false,false,false,false,false,false,false,false,false,false,false,false,false,false,false,false,false,false,false] rfl rfl (Ai HT_.out zI) (fun _ _ _ h=>h) (Or.inl ⟨by rfl,?_⟩) ?_ ?_; rotate_left; intro w'; go_simp; with_reducible rfl; rotate_left; exact yB
                refine At (i:=1) (N:=some 33) (v:= ?_) (a':= ?_) #[true,true,false,false,false,false,false,false,false,false,false,false,false,false,false,false,false,false,false,false,false] rfl rfl (Ai HT_.out zI) (fun _ _ _ h=>h) (Or.inl ⟨by rfl,?_⟩) ?_ ?_; rotate_left; intro w'; go_simp; with_reducible rfl; rotate_left; exact yB
                refine At (i:=2) (N:=some 34) (v:= ?_) (a':= ?_) #[true,true,true,false,false,false,false,false,false,false,false,false,false,false,false,false,false,false,false,false,false] rfl rfl (Ai HT_.out zI) (fun _ _ _ h=>h) (Or.inl ⟨by rfl,?_⟩) ?_ ?_; rotate_left; intro w'; go_simp; with_reducible rfl; rotate_left; exact yB
                refine At (i:=3) (N:=some 35) (v:= ?_) (a':= ?_) #[true,true,true,true,false,false,false,false,false,false,false,false,false,false,false,false,false,false,false,false,false] rfl rfl (Ai HT_.out zI) (fun _ _ _ h=>h) (Or.inl ⟨by rfl,?_⟩) ?_ ?_; rotate_left; intro w'; go_simp; with_reducible rfl; rotate_left; exact yB
                refine At (i:=4) (N:=some 36) (v:= ?_) (a':= ?_) #[true,true,true,true,true,false,false,false,false,false,false,false,false,false,false,false,false,false,false,false,false] rfl rfl (Ai HT_.out zI) (fun _ _ _ h=>h) (Or.inl ⟨by rfl,?_⟩) ?_ ?_; rotate_left; intro w'; go_simp; with_reducible rfl; rotate_left; exact yB
                refine At (i:=6) (N:=some 38) (v:= ?_) (a':= ?_) #[true,true,true,true,true,false,true,false,false,false,false,false,false,false,false,false,false,false,false,false,false] rfl rfl (Ai HT_.out zI) (fun _ _ _ h=>h) (Or.inl ⟨by rfl,?_⟩) ?_ ?_; rotate_left; intro w'; go_simp; with_reducible rfl; rotate_left; exact yB
                refine At (i:=7) (N:=some 39) (v:= ?_) (a':= ?_) #[true,true,true,true,true,false,true,true,false,false,false,false,false,false,false,false,false,false,false,false,false] rfl rfl (Ai HT_.out zI) (fun _ _ _ h=>h) (Or.inl ⟨by rfl,?_⟩) ?_ ?_; rotate_left; intro w'; go_simp; with_reducible rfl; rotate_left; exact yB
                refine At (i:=9) (N:=some 41) (v:= ?_) (a':= ?_) #[true,true,true,true,true,false,true,true,false,true,false,false,false,false,false,false,false,false,false,false,false] rfl rfl (Ai HT_.out zI) (fun _ _ _ h=>h) (Or.inl ⟨by rfl,?_⟩) ?_ ?_; rotate_left; intro w'; go_simp; with_reducible rfl; rotate_left; exact yB
                refine At (i:=13) (N:=some 45) (v:= ?_) (a':= ?_) #[true,true,true,true,true,false,true,true,false,true,false,false,false,true,false,false,false,false,false,false,false] rfl rfl (Ai HT_.out zI) (fun _ _ _ h=>h) (Or.inl ⟨by rfl,?_⟩) ?_ ?_; rotate_left; intro w'; go_simp; with_reducible rfl; rotate_left; exact yB
                refine BV (i:=5) (N:=some 37) (v:= ?_) (a':= ?_) #[true,true,true,true,true,true,true,true,false,true,false,false,false,true,false,false,false,false,false,false,false] rfl rfl (BF HT_.out HW_.out zI) (fun _ _ _ h=>h) (Or.inl ⟨by rfl,?_⟩) hHeld ?_ ?_; rotate_left; rintro w' ⟨s0,s1,s2,s3,s4,s5,s6,s7,s8⟩; go_simp; with_reducible rfl; rotate_left; exact yB
                refine BV (i:=8) (N:=some 40) (v:= ?_) (a':= ?_) #[true,true,true,true,true,true,true,true,true,true,false,false,false,true,false,false,false,false,false,false,false] rfl rfl (BF HT_.out HW_.out zI) (fun _ _ _ h=>h) (Or.inl ⟨by rfl,?_⟩) hHeld ?_ ?_; rotate_left; rintro w' ⟨s0,s1,s2,s3,s4,s5,s6,s7,s8⟩; go_simp; with_reducible rfl; rotate_left; exact yB
                refine At (i:=10) (N:=some 42) (v:= ?_) (a':= ?_) #[true,true,true,true,true,true,true,true,true,true,true,false,false,true,false,false,false,false,false,false,false] rfl rfl (Ai HT_.out zI) (fun _ _ _ h=>h) (Or.inl ⟨by rfl,?_⟩) ?_ ?_; rotate_left; intro w'; go_simp; with_reducible rfl; rotate_left; exact yB
                refine At (i:=11) (N:=some 43) (v:= ?_) (a':= ?_) #[true,true,true,true,true,true,true,true,true,true,true,true,false,true,false,false,false,false,false,false,false] rfl rfl (Ai HT_.out zI) (fun _ _ _ h=>h) (Or.inl ⟨by rfl,?_⟩) ?_ ?_; rotate_left; intro w'; go_simp; with_reducible rfl; rotate_left; exact yB
                refine BV (i:=12) (N:=some 44) (v:= ?_) (a':= ?_) #[true,true,true,true,true,true,true,true,true,true,true,true,true,true,false,false,false,false,false,false,false] rfl rfl (BF HT_.out HW_.out zI) (fun _ _ _ h=>h) (Or.inl ⟨by rfl,?_⟩) hHeld ?_ ?_; rotate_left; rintro w' ⟨s0,s1,s2,s3,s4,s5,s6,s7,s8⟩; go_simp; with_reducible rfl; rotate_left; exact yB
                refine At (i:=14) (N:=some 46) (v:= ?_) (a':= ?_) #[true,true,true,true,true,true,true,true,true,true,true,true,true,true,true,false,false,false,false,false,false] rfl rfl (Ai HT_.out zI) (fun _ _ _ h=>h) (Or.inl ⟨by rfl,?_⟩) ?_ ?_; rotate_left; intro w'; go_simp; with_reducible rfl; rotate_left; exact yB
                refine BV (i:=15) (N:=some 47) (v:= ?_) (a':= ?_) #[true,true,true,true,true,true,true,true,true,true,true,true,true,true,true,true,false,false,false,false,false] rfl rfl (BF HT_.out HW_.out zI) (fun _ _ _ h=>h) (Or.inl ⟨by rfl,?_⟩) hHeld ?_ ?_; rotate_left; rintro w' ⟨s0,s1,s2,s3,s4,s5,s6,s7,s8⟩; go_simp; with_reducible rfl; rotate_left; exact yB
                refine At (i:=16) (N:=some 48) (v:= ?_) (a':= ?_) #[true,true,true,true,true,true,true,true,true,true,true,true,true,true,true,true,true,false,false,false,false] rfl rfl (Ai HT_.out zI) (fun _ _ _ h=>h) (Or.inl ⟨by rfl,?_⟩) ?_ ?_; rotate_left; intro w'; go_simp; with_reducible rfl; rotate_left; exact yB
                refine BV (i:=17) (N:=some 49) (v:= ?_) (a':= ?_) #[true,true,true,true,true,true,true,true,true,true,true,true,true,true,true,true,true,true,false,false,false] rfl rfl (BF HT_.out HW_.out zI) (fun _ _ _ h=>h) (Or.inl ⟨by rfl,?_⟩) hHeld ?_ ?_; rotate_left; rintro w' ⟨s0,s1,s2,s3,s4,s5,s6,s7,s8⟩; go_simp; with_reducible rfl; rotate_left; exact yB
                refine At (i:=18) (N:=some 50) (v:= ?_) (a':= ?_) #[true,true,true,true,true,true,true,true,true,true,true,true,true,true,true,true,true,true,true,false,false] rfl rfl (Ai HT_.out zI) (fun _ _ _ h=>h) (Or.inl ⟨by rfl,?_⟩) ?_ ?_; rotate_left; intro w'; go_simp; with_reducible rfl; rotate_left; exact yB
                refine At (i:=19) (N:=some 51) (v:= ?_) (a':= ?_) #[true,true,true,true,true,true,true,true,true,true,true,true,true,true,true,true,true,true,true,true,false] rfl rfl (Ai HT_.out zI) (fun _ _ _ h=>h) (Or.inl ⟨by rfl,?_⟩) ?_ ?_; rotate_left; intro w'; go_simp; with_reducible rfl; rotate_left; exact yB
                refine last_ (i:=20) (N:=none) #[true,true,true,true,true,true,true,true,true,true,true,true,true,true,true,true,true,true,true,true,true] rfl rfl (Bv HT_.out zI) zA0 (fun K hK=> ?_)
                refine E8 (w1:= ?_) (by rfl) rfl ?_ ?_
                rotate_left
                ·go_simp
                 rfl
                refine hK.out _ _ ?_
                clear hK K
                refine CS (CC HT_.out zI) ?_
                try go_wp2
                go_roundg k2
                case measure=>have:=HK1.out; have:=HK2.out; omega
                case rel=>exact ⟨(y304),(wrap64 (x6_2+1)),zH,H',⟨by have:=HK1.out; have:=HK2.out; omega⟩,⟨by (with_reducible repeat (first|apply Kd.R_alloc|apply Kd.R_drewN|apply Kd.R_drew)); exact HQ26.out⟩,⟨by (with_reducible repeat (first|refine AF ?_ _|refine AH ?_|refine AG ?_ _)); refine AV ?_ (by have h_:=Kd.R_ne HO_4.out BK294.out zA0; intro e_; exact h_ (by rw [e_]; rfl)) _; (with_reducible repeat (first|refine AF ?_ _|refine AH ?_|refine AG ?_ _)); exact BK294.out⟩,⟨by repeat (first|(with_reducible first|exact HB.out|apply AE|apply AC|apply AD|refine AI ?_ GB22.out|refine AI ?_ GE294.out)|exact HB.out)⟩⟩
               ·rw [if_neg c20] at H
                exact absurd H zA5
              ·rw [if_neg c19] at H
               exact absurd H zA5
             ·rw [if_neg c18] at H
              exact absurd H zA5
            ·rw [if_neg c17] at H
             exact absurd H zA5
           ·rw [if_neg c16] at H
            have c16b0:decide (x6_2<(((AL l0_1 x5_1).f3).length:Int))=false:=decide_eq_false c16
            clear c16
            by_cases c27:x5_1<(x4_2.length:Int)
            ·rw [if_pos c27] at H
             have c27b0:decide (x5_1<(x4_2.length:Int))=true:=decide_eq_true c27
             clear c27
             obtain ⟨y307,hy307⟩:∃y_:List Int,y_=(x4_2.set (x5_1:Int).toNat (wrap64 ((rd x4_2 x5_1)+((AL l0_1 x5_1).f1)))):=⟨_,rfl⟩
             replace H:(AZ.l0 k2 y307 (wrap64 (x5_1+1)) A8 l0_1)=some (r1,r2):=by first|(rw [hy307]; with_reducible exact H)|(have H2_:=(Option.bind_some _ _).symm.trans H; rw [hy307]; with_reducible exact H2_)|(have H2_:=(Option.bind_some _ _).symm.trans H; with_reducible exact H2_)|with_reducible exact H|(rw [hy307]; exact H)|exact H
             have Ny307:=yA hy307
             clear hy307
             have H':=yA H
             clear H
             have hcz29_0:wr.cell? ⟨gb294,0,none⟩=some (.int .i64 A8):=(AK BK294.out 0).trans rfl
             have hcz29_1:wr.cell? ⟨gb294,1,none⟩=some (.slice A0_1 l0_1.length c0_1):=(AK BK294.out 1).trans rfl
             have hfz29_0:=AJ BK294.out 0
             have hfz29_1:=AJ BK294.out 1
             have p299:0≤(x5_1:Int):=yD
             have q299:x5_1<(l0_1.length:Int):=yD
             obtain ⟨ad299,A299_3,c299_3,e299,hx299_0,hx299_1,hx299_2,hx299_3,hl299_3,hi299_3⟩:=BZ HR0_1.out x5_1 p299 q299
             cases e299
             replace hx299_0:=yC HB.out hx299_0
             replace hx299_1:=yC HB.out hx299_1
             replace hx299_2:=yC HB.out hx299_2
             replace hx299_3:=yC HB.out hx299_3
             have HR299_3:=yA hi299_3
             have HC299_3:=yA hl299_3
             clear hi299_3 hl299_3
             replace p299:=eq_true p299
             replace q299:=eq_true q299
             try go_wp2
             have n0_:=yA (Kd.R_drew HO_4.out)
             have n1_:=yA (AH BK294.out)
             have n2_:=yA (AD HB.out)
             clear HO_4
             clear BK294
             clear HB
             have HO_4:=n0_
             have BK294:=n1_
             have HB:=n2_
             clear n0_ n1_ n2_
             obtain ⟨Ao31,co31,eo31⟩:=Kd.R_slice HO_4.out
             (first|subst eo31|(injection eo31 with f1_ f2_ f3_; have f4_:=f1_.symm; have f5_:=f3_.symm; clear f1_ f2_ f3_; subst f4_; subst f5_))
             have p305:0≤(x5_1:Int):=yD
             have q305:x5_1<(x4_2.length:Int):=yD
             obtain ⟨ad305,e305,hx305_0⟩:=Kd.at_int (Kd.R_reads' HO_4.out).2.2 x5_1 p305 q305
             cases e305
             replace p305:=eq_true p305
             replace q305:=eq_true q305
             have p306:0≤(x5_1:Int):=yD
             have q306:x5_1<(l0_1.length:Int):=yD
             obtain ⟨ad306,A306_3,c306_3,e306,hx306_0,hx306_1,hx306_2,hx306_3,hl306_3,hi306_3⟩:=BZ HR0_1.out x5_1 p306 q306
             have hw306_3:=hx306_3
             have hw306_2:=hx306_2
             have hw306_1:=hx306_1
             have hw306_0:=hx306_0
             obtain rfl:ad299=ad306:=(by injection e306)
             replace hx306_0:=yC HB.out hx306_0
             replace hx306_1:=yC HB.out hx306_1
             replace hx306_2:=yC HB.out hx306_2
             replace hx306_3:=yC HB.out hx306_3
             have HR306_3:=yA hi306_3
             have HC306_3:=yA hl306_3
             clear hi306_3 hl306_3
             replace p306:=eq_true p306
             replace q306:=eq_true q306
             have p28:0≤(x5_1:Int):=yD
             have q28:(x5_1:Int)<((x4_2.length:Int):Int):=yD
             obtain ⟨go28,co28,eo28,gb28,gl28,cl28,HG28⟩:=Kd.R_form HO_4.out zE
             (first|cases eo28|(injection eo28 with ea_ en_ ec_; (first|subst ea_|(injection ea_ with ea_; subst ea_)); subst ec_; clear en_))
             have GB28:=yA gb28
             have GG28:=yA HG28
             clear gb28 gl28 HG28
             (first|simp only [Bq] at hx305_0|skip)
             obtain ⟨hx28_0,hf28_0⟩:=Kd.R_celln 0 HO_4.out (x5_1:Int) p28 q28
             replace p28:=eq_true p28
             replace q28:=eq_true q28
             have HP32:=Kd.R_putn HO_4.out (x5_1:Int) (wrap64 ((rd x4_2 x5_1)+((AL l0_1 x5_1).f1)))
             rw [←Ny307.out] at HP32
             have HQ32:=yA HP32
             clear HP32
             refine C8 (n:=13) (S:=fun w'=>w'.cell? ⟨gb294,0,none⟩=some (.int .i64 A8)∧w'.cell? ⟨gb294,1,none⟩=some (.slice (some ad299) l0_1.length c0_1)∧w'.cell? ⟨go28,(x5_1).toNat,none⟩=some (.int .i64 (rd x4_2 x5_1))∧w'.cell? (ad299.add ((x5_1).toNat*4))=some (.string ((AL l0_1 x5_1).f0))∧w'.cell? ⟨(ad299.add ((x5_1).toNat*4)).block,(ad299.add ((x5_1).toNat*4)).off+1,none⟩=some (.int .i64 ((AL l0_1 x5_1).f1))∧w'.cell? ⟨(ad299.add ((x5_1).toNat*4)).block,(ad299.add ((x5_1).toNat*4)).off+2,none⟩=some (.int .i64 ((AL l0_1 x5_1).f2))∧w'.cell? ⟨(ad299.add ((x5_1).toNat*4)).block,(ad299.add ((x5_1).toNat*4)).off+3,none⟩=some (.slice A306_3 ((AL l0_1 x5_1).f3).length c306_3)) (ds:=[12]) #[false,false,false,false,false,false,false,false,false,false,false,false,false] zI rfl rfl ⟨(AK BK294.out 0).trans rfl,(AK BK294.out 1).trans rfl,hx305_0,(yC HB.out hw306_0),(yC HB.out hw306_1),(yC HB.out hw306_2),(yC HB.out hw306_3)⟩ (fun hHeld=> ?_); refine Bn AZ.tab11 AZ.bits11 (fun HT_ HW_=> ?_)
             generalize wr.drew=w30 at HO_4 BK294 HB GG28 HQ32 HR306_3 hf28_0 hx28_0 hx305_0 hx306_0 hx306_1 hx306_2 hx306_3 hHeld ⊢
             refine At (i:=0) (N:=some 52) (v:= ?_) (a':= ?_) #[true,false,false,false,false,false,false,false,false,false,false,false,false] rfl rfl (Ai HT_.out zI) (fun _ _ _ h=>h) (Or.inl ⟨by rfl,?_⟩) ?_ ?_; rotate_left; intro w'; go_simp; with_reducible rfl; rotate_left; exact yB
             refine At (i:=1) (N:=some 53) (v:= ?_) (a':= ?_) #[true,true,false,false,false,false,false,false,false,false,false,false,false] rfl rfl (Ai HT_.out zI) (fun _ _ _ h=>h) (Or.inl ⟨by rfl,?_⟩) ?_ ?_; rotate_left; intro w'; go_simp; with_reducible rfl; rotate_left; exact yB
             refine At (i:=2) (N:=some 54) (v:= ?_) (a':= ?_) #[true,true,true,false,false,false,false,false,false,false,false,false,false] rfl rfl (Ai HT_.out zI) (fun _ _ _ h=>h) (Or.inl ⟨by rfl,?_⟩) ?_ ?_; rotate_left; intro w'; go_simp; with_reducible rfl; rotate_left; exact yB
             refine At (i:=4) (N:=some 56) (v:= ?_) (a':= ?_) #[true,true,true,false,true,false,false,false,false,false,false,false,false] rfl rfl (Ai HT_.out zI) (fun _ _ _ h=>h) (Or.inl ⟨by rfl,?_⟩) ?_ ?_; rotate_left; intro w'; go_simp; with_reducible rfl; rotate_left; exact yB
             refine At (i:=6) (N:=some 58) (v:= ?_) (a':= ?_) #[true,true,true,false,true,false,true,false,false,false,false,false,false] rfl rfl (Ai HT_.out zI) (fun _ _ _ h=>h) (Or.inl ⟨by rfl,?_⟩) ?_ ?_; rotate_left; intro w'; go_simp; with_reducible rfl; rotate_left; exact yB
             refine BV (i:=3) (N:=some 55) (v:= ?_) (a':= ?_) #[true,true,true,true,true,false,true,false,false,false,false,false,false] rfl rfl (BF HT_.out HW_.out zI) (fun _ _ _ h=>h) (Or.inl ⟨by rfl,?_⟩) hHeld ?_ ?_; rotate_left; rintro w' ⟨s0,s1,s2,s3,s4,s5,s6⟩; go_simp; with_reducible rfl; rotate_left; exact yB
             refine BV (i:=5) (N:=some 57) (v:= ?_) (a':= ?_) #[true,true,true,true,true,true,true,false,false,false,false,false,false] rfl rfl (BF HT_.out HW_.out zI) (fun _ _ _ h=>h) (Or.inl ⟨by rfl,?_⟩) hHeld ?_ ?_; rotate_left; rintro w' ⟨s0,s1,s2,s3,s4,s5,s6⟩; go_simp; with_reducible rfl; rotate_left; exact yB
             refine At (i:=7) (N:=some 59) (v:= ?_) (a':= ?_) #[true,true,true,true,true,true,true,true,false,false,false,false,false] rfl rfl (Ai HT_.out zI) (fun _ _ _ h=>h) (Or.inl ⟨by rfl,?_⟩) ?_ ?_; rotate_left; intro w'; go_simp; with_reducible rfl; rotate_left; exact yB
             refine At (i:=8) (N:=some 60) (v:= ?_) (a':= ?_) #[true,true,true,true,true,true,true,true,true,false,false,false,false] rfl rfl (Ai HT_.out zI) (fun _ _ _ h=>h) (Or.inl ⟨by rfl,?_⟩) ?_ ?_; rotate_left; intro w'; go_simp; with_reducible rfl; rotate_left; exact yB
             refine BV (i:=9) (N:=some 61) (v:= ?_) (a':= ?_) #[true,true,true,true,true,true,true,true,true,true,false,false,false] rfl rfl (BF HT_.out HW_.out zI) (fun _ _ _ h=>h) (Or.inl ⟨by rfl,?_⟩) hHeld ?_ ?_; rotate_left; rintro w' ⟨s0,s1,s2,s3,s4,s5,s6⟩; go_simp; with_reducible rfl; rotate_left; exact yB
             refine At (i:=10) (N:=some 62) (v:= ?_) (a':= ?_) #[true,true,true,true,true,true,true,true,true,true,true,false,false] rfl rfl (Ai HT_.out zI) (fun _ _ _ h=>h) (Or.inl ⟨by rfl,?_⟩) ?_ ?_; rotate_left; intro w'; go_simp; with_reducible rfl; rotate_left; exact yB
             refine At (i:=11) (N:=some 63) (v:= ?_) (a':= ?_) #[true,true,true,true,true,true,true,true,true,true,true,true,false] rfl rfl (Ai HT_.out zI) (fun _ _ _ h=>h) (Or.inl ⟨by rfl,?_⟩) ?_ ?_; rotate_left; intro w'; go_simp; with_reducible rfl; rotate_left; exact yB
             refine last_ (i:=12) (N:=none) #[true,true,true,true,true,true,true,true,true,true,true,true,true] rfl rfl (Bv HT_.out zI) zA0 (fun K hK=> ?_)
             refine E8 (w1:= ?_) (by rfl) rfl ?_ ?_
             rotate_left
             ·go_simp
              rfl
             refine hK.out _ _ ?_
             clear hK K
             refine CS (CC HT_.out zI) ?_
             try go_wp2
             go_roundg k2
             case measure=>have:=HK1.out; have:=HK2.out; omega
             case rel=>exact ⟨(y307),(wrap64 (x5_1+1)),zH,H',⟨by have:=HK1.out; have:=HK2.out; omega⟩,⟨by (with_reducible repeat (first|apply Kd.R_alloc|apply Kd.R_drewN|apply Kd.R_drew)); exact HQ32.out⟩,⟨by (with_reducible repeat (first|refine AF ?_ _|refine AH ?_|refine AG ?_ _)); refine AV ?_ (by have h_:=Kd.R_ne HO_4.out BK294.out zA0; intro e_; exact h_ (by rw [e_]; rfl)) _; (with_reducible repeat (first|refine AF ?_ _|refine AH ?_|refine AG ?_ _)); exact BK294.out⟩,⟨by repeat (first|(with_reducible first|exact HB.out|apply AE|apply AC|apply AD|refine AI ?_ GB28.out|refine AI ?_ GE294.out)|exact HB.out)⟩⟩
            ·rw [if_neg c27] at H
             exact absurd H zA5
          ·rw [if_neg c15] at H
           exact absurd H zA5
         ·rw [if_neg c14] at H
          exact absurd H zA5
      ·rw [if_neg c12] at H
       have c12b0:decide (x5_1<(l0_1.length:Int))=false:=decide_eq_false c12
       clear c12
       simp only [Option.some.injEq,Prod.mk.injEq] at H
       obtain ⟨rfl,rfl⟩:=H
       have hcz33_0:wr.cell? ⟨gb294,0,none⟩=some (.int .i64 A8):=(AK BK294.out 0).trans rfl
       have hcz33_1:wr.cell? ⟨gb294,1,none⟩=some (.slice A0_1 l0_1.length c0_1):=(AK BK294.out 1).trans rfl
       have hfz33_0:=AJ BK294.out 0
       have hfz33_1:=AJ BK294.out 1
       go_wp2
       go_ret2
       exact ⟨_,by first|rfl|(simp [AY,AX]<;>rfl)|(simp [*,AY,AX]<;>rfl),by (with_reducible repeat (first|apply Kd.R_alloc|apply Kd.R_drewN|apply Kd.R_drew)); exact HO_4.out,by repeat (first|(with_reducible first|exact HB.out|apply AE|apply AC|apply AD|refine AI ?_ GE294.out)|exact HB.out)⟩
   ·rw [if_neg c5] at H
    exact absurd H zA5
  ·rw [if_neg c4] at H
   exact absurd H zA5
 ·replace c3:=Bool.eq_false_iff.mpr c3
  subst c3
  have H1:(some (([]:List Int),1))=some (r1,r2):=by rw [if_neg (show ¬(false=true) by decide)] at H; exact H
  clear H
  have H:=H1
  clear H1
  simp only [Option.some.injEq,Prod.mk.injEq] at H
  obtain ⟨rfl,rfl⟩:=H
  go_enter Try.func22,Try.ntmps22
  go_wp2_with (first|((with_reducible refine Aq (N:=1) rfl ?_); refine Av ?hg (N:=1) ?hd (cs:= #[.int .i64 A8,.slice A0_1 l0_1.length c0_1]) (t:=24) ?hr ?_; (case hd=>rfl); (case hg=>rfl); (case hr=>first|(go_simp; done)|(go_simp; rfl)); intro gb294 hg w34 hbox hb; have n0_:=yA (AO zB hb); have n1_:=yA (hbox); have n2_:=yA ((by rw [hg]; exact (AQ zB):w.heap.size≤gb294)); have n3_:=yA ((by rw [hg]; exact (AQ zB):w.heap.size≤gb294)); clear HB; have HB:=n0_; have BK294:=n1_; have GW294:=n2_; have GE294:=n3_; clear n0_ n1_ n2_ n3_; clear hb hbox hg; have hcz35_0:w34.cell? ⟨gb294,0,none⟩=some (.int .i64 A8):=(AK BK294.out 0).trans rfl; have hcz35_1:w34.cell? ⟨gb294,1,none⟩=some (.slice A0_1 l0_1.length c0_1):=(AK BK294.out 1).trans rfl; have hfz35_0:=AJ BK294.out 0; have hfz35_1:=AJ BK294.out 1)|((with_reducible refine Ae (f:=36) rfl ?_); refine B6 (some 8) rfl rfl Try.func36 zI rfl #[.agg #[.int .i64 A8,.slice A0_1 l0_1.length c0_1]] rfl zD ?_; (with_reducible refine (AS.calls k A8 _ _ l0_1 false _ ?side1 ?side2 A2.out).mono ?_); (case side1=>repeat (first|exact (Kd.C_below HR0_1.out HB.out)|(with_reducible refine Kd.C_alloc ?_ _)|(with_reducible refine Kd.C_drewN ?_ _)|(with_reducible refine Kd.C_drew ?_))); (case side2=>exact HC0_1.out); rintro e w36 ⟨rfl,hb⟩; refine ⟨_,rfl,?_⟩; have n0_:=yA (AP (g:=gb294) (o:= .cells #[.int .i64 A8,.slice A0_1 l0_1.length c0_1] 24 (0,0)) (by (with_reducible repeat (first|refine AF ?_ _|refine AH ?_|refine AG ?_ _)); exact BK294.out) hb); have n1_:=yA (AO (by repeat (first|(with_reducible first|exact HB.out|apply AE|apply AC|apply AD|refine AI ?_ GE294.out)|exact HB.out)) hb); clear BK294; clear HB; have BK294:=n0_; have HB:=n1_; clear n0_ n1_; (try clear hb); (try clear hb2); (try clear hk); (try clear hi)))
  go_ret2
  exact ⟨_,by first|rfl|(simp [AY,AX]<;>rfl)|(simp [*,AY,AX]<;>rfl),by first|exact Kd.R_nil _ _ _ _ _|exact Kd.N_nil _ _ _ _ _|exact Kd.V_nil _ _ _ _ _|exact Kd.Q_nil _ _ _ _ _|exact Kd.S_nil _ _ _ _ _,by repeat (first|(with_reducible first|exact HB.out|apply AE|apply AC|apply AD|refine AI ?_ GE294.out)|exact HB.out)⟩
def B0.l0:Nat→List Int→Int→Int→Int→Int→List (S42)→Option (Int×Int)
 |0,_,_,_,_,_,_=>none
 |k+1,x4,x6,x7,x8,x309000,x309001=>if x8<(x4.length:Int) then (if 0≤x8 then (if x8<(x309001.length:Int) then (B0.l0 k x4 (mx x6 (rd x4 x8)) (wrap64 (x7+((AL x309001 x8).f1))) (wrap64 (x8+1)) x309000 x309001) else (none)) else (none)) else (if x309000=0 then (none) else (some (mx x6 (wrap64 (Int.tdiv (wrap64 ((wrap64 (x7+x309000))-1)) x309000)),0)))
def B0.f (k:Nat) (A8:Int) (l0_1:List (S42)):Option (Int×Int):=(AZ.f k A8 l0_1).bind fun bt309=>(if bt309.2=0 then (B0.l0 k bt309.1 0 0 0 A8 l0_1) else (some (0,bt309.2)))
set_option maxHeartbeats 8000000 in
theorem B0.calls (k:Nat) (A8:Int) (A0_1:Option Addr) (c0_1:Nat) (l0_1:List (S42)) (r1:Int) (r2:Int) (w:World) (hr0_1:Kd.C k42 w A0_1 l0_1.length l0_1) (hc0_1:l0_1.length≤c0_1) (h:B0.f k A8 l0_1=some (r1,r2)):
  Calls Try.prog 23 #[.agg #[.int .i64 A8,.slice A0_1 l0_1.length c0_1]] w fun e w'=>e= .returned (.tuple #[.int .i64 r1,.int .i64 r2])∧Below w.heap.size w w':=by
 have hu24:=Try.underlying24
 have HR0_1:=yA hr0_1
 have HC0_1:=yA hc0_1
 clear hr0_1 hc0_1
 have HB:=yA (Below.refl w.heap.size w)
 have H:((AZ.f k A8 l0_1).bind fun bt309=>(if bt309.2=0 then (B0.l0 k bt309.1 0 0 0 A8 l0_1) else (some (0,bt309.2))))=some (r1,r2):=h
 clear h
 replace H:=Option.bind_eq_some_iff.mp H
 obtain ⟨⟨t309,t312⟩,A20,H⟩:=H
 replace H:(if t312=0 then (B0.l0 k t309 0 0 0 A8 l0_1) else (some (0,t312)))=some (r1,r2):=H
 have A2:=yA A20
 clear A20
 by_cases c3:t312=0
 ·rw [if_pos c3] at H
  have c3b0:(t312==0)=true:=beq_iff_eq.mpr c3
  have c3b1:(t312 !=0)=false:=bne_eq_false_iff_eq.mpr c3
  clear c3
  have H':=yA H
  clear H
  go_enter Try.func23,Try.ntmps23
  go_wp2_with (first|((with_reducible refine Aq (N:=1) rfl ?_); refine Av ?hg (N:=1) ?hd (cs:= #[.int .i64 A8,.slice A0_1 l0_1.length c0_1]) (t:=24) ?hr ?_; (case hd=>rfl); (case hg=>rfl); (case hr=>first|(go_simp; done)|(go_simp; rfl)); intro gb308 hg w4 hbox hb; have n0_:=yA (AO zB hb); have n1_:=yA (hbox); have n2_:=yA ((by rw [hg]; exact (AQ zB):w.heap.size≤gb308)); have n3_:=yA ((by rw [hg]; exact (AQ zB):w.heap.size≤gb308)); clear HB; have HB:=n0_; have BK308:=n1_; have GW308:=n2_; have GE308:=n3_; clear n0_ n1_ n2_ n3_; clear hb hbox hg; have hcz5_0:w4.cell? ⟨gb308,0,none⟩=some (.int .i64 A8):=(AK BK308.out 0).trans rfl; have hcz5_1:w4.cell? ⟨gb308,1,none⟩=some (.slice A0_1 l0_1.length c0_1):=(AK BK308.out 1).trans rfl; have hfz5_0:=AJ BK308.out 0; have hfz5_1:=AJ BK308.out 1)|(go_at_call 22; (with_reducible refine (AZ.calls k A8 _ _ l0_1 t309 t312 _ ?side1 ?side2 A2.out).mono ?_); (case side1=>repeat (first|exact (Kd.C_below HR0_1.out HB.out)|(with_reducible refine Kd.C_alloc ?_ _)|(with_reducible refine Kd.C_drewN ?_ _)|(with_reducible refine Kd.C_drew ?_))); (case side2=>exact HC0_1.out); rintro e w6 ⟨v310,rfl,ho0,hb⟩; have n0_:=yA (Kd.R_lower ho0 (AQ zA4)); have n1_:=yA (AP (g:=gb308) (o:= .cells #[.int .i64 A8,.slice A0_1 l0_1.length c0_1] 24 (0,0)) zD4 hb); have n2_:=yA (AO zA4 hb); clear BK308; clear HB; have HO311:=n0_; have BK308:=n1_; have HB:=n2_; clear n0_ n1_ n2_; (try clear hb); (try clear hb2); (try clear hk); (try clear hi); (try clear ho0)))
  repeat (go_quiet (first|((with_reducible refine Aq (N:=1) rfl ?_); refine Av ?hg (N:=1) ?hd (cs:= #[.int .i64 A8,.slice A0_1 l0_1.length c0_1]) (t:=24) ?hr ?_; (case hd=>rfl); (case hg=>rfl); (case hr=>first|(go_simp; done)|(go_simp; rfl)); intro gb308 hg w4 hbox hb; have n0_:=yA (AO zB hb); have n1_:=yA (hbox); have n2_:=yA ((by rw [hg]; exact (AQ zB):w.heap.size≤gb308)); have n3_:=yA ((by rw [hg]; exact (AQ zB):w.heap.size≤gb308)); clear HB; have HB:=n0_; have BK308:=n1_; have GW308:=n2_; have GE308:=n3_; clear n0_ n1_ n2_ n3_; clear hb hbox hg; have hcz5_0:w4.cell? ⟨gb308,0,none⟩=some (.int .i64 A8):=(AK BK308.out 0).trans rfl; have hcz5_1:w4.cell? ⟨gb308,1,none⟩=some (.slice A0_1 l0_1.length c0_1):=(AK BK308.out 1).trans rfl; have hfz5_0:=AJ BK308.out 0; have hfz5_1:=AJ BK308.out 1)|(go_at_call 22; (with_reducible refine (AZ.calls k A8 _ _ l0_1 t309 t312 _ ?side1 ?side2 A2.out).mono ?_); (case side1=>repeat (first|exact (Kd.C_below HR0_1.out HB.out)|(with_reducible refine Kd.C_alloc ?_ _)|(with_reducible refine Kd.C_drewN ?_ _)|(with_reducible refine Kd.C_drew ?_))); (case side2=>exact HC0_1.out); rintro e w6 ⟨v310,rfl,ho0,hb⟩; have n0_:=yA (Kd.R_lower ho0 (AQ zA4)); have n1_:=yA (AP (g:=gb308) (o:= .cells #[.int .i64 A8,.slice A0_1 l0_1.length c0_1] 24 (0,0)) zD4 hb); have n2_:=yA (AO zA4 hb); clear BK308; clear HB; have HO311:=n0_; have BK308:=n1_; have HB:=n2_; clear n0_ n1_ n2_; (try clear hb); (try clear hb2); (try clear hk); (try clear hi); (try clear ho0); clear A2)); try go_wp2_with (first|((with_reducible refine Aq (N:=1) rfl ?_); refine Av ?hg (N:=1) ?hd (cs:= #[.int .i64 A8,.slice A0_1 l0_1.length c0_1]) (t:=24) ?hr ?_; (case hd=>rfl); (case hg=>rfl); (case hr=>first|(go_simp; done)|(go_simp; rfl)); intro gb308 hg w4 hbox hb; have n0_:=yA (AO zB hb); have n1_:=yA (hbox); have n2_:=yA ((by rw [hg]; exact (AQ zB):w.heap.size≤gb308)); have n3_:=yA ((by rw [hg]; exact (AQ zB):w.heap.size≤gb308)); clear HB; have HB:=n0_; have BK308:=n1_; have GW308:=n2_; have GE308:=n3_; clear n0_ n1_ n2_ n3_; clear hb hbox hg; have hcz5_0:w4.cell? ⟨gb308,0,none⟩=some (.int .i64 A8):=(AK BK308.out 0).trans rfl; have hcz5_1:w4.cell? ⟨gb308,1,none⟩=some (.slice A0_1 l0_1.length c0_1):=(AK BK308.out 1).trans rfl; have hfz5_0:=AJ BK308.out 0; have hfz5_1:=AJ BK308.out 1)|(go_at_call 22; (with_reducible refine (AZ.calls k A8 _ _ l0_1 t309 t312 _ ?side1 ?side2 A2.out).mono ?_); (case side1=>repeat (first|exact (Kd.C_below HR0_1.out HB.out)|(with_reducible refine Kd.C_alloc ?_ _)|(with_reducible refine Kd.C_drewN ?_ _)|(with_reducible refine Kd.C_drew ?_))); (case side2=>exact HC0_1.out); rintro e w6 ⟨v310,rfl,ho0,hb⟩; have n0_:=yA (Kd.R_lower ho0 (AQ zA4)); have n1_:=yA (AP (g:=gb308) (o:= .cells #[.int .i64 A8,.slice A0_1 l0_1.length c0_1] 24 (0,0)) zD4 hb); have n2_:=yA (AO zA4 hb); clear BK308; clear HB; have HO311:=n0_; have BK308:=n1_; have HB:=n2_; clear n0_ n1_ n2_; (try clear hb); (try clear hb2); (try clear hk); (try clear hi); (try clear ho0); clear A2)))
  go_loopg [6,7,8] k (fun kq v6 v7 v8 w'=>∃(x6_1:Int) (x7_1:Int) (x8_1:Int),v6= .int .i64 x6_1∧v7= .int .i64 x7_1∧v8= .int .i64 x8_1∧Aside0 (B0.l0 kq t309 x6_1 x7_1 x8_1 A8 l0_1=some (r1,r2))∧Aside0 (kq≤k)∧Aside0 (Kd.R (Kd.int .i64) 3 w' w.heap.size (fun _=>True) v310 t309)∧Aside0 (w'.heap[gb308]? =some (.cells #[.int .i64 A8,(.slice A0_1 l0_1.length c0_1)] 24 (0,0)))∧Aside0 (Below w.heap.size w w'))
  case atStart=>exact ⟨(0),(0),(0),zH,zH,zH,H',⟨Nat.le_refl _⟩,⟨by (with_reducible repeat (first|apply Kd.R_alloc|apply Kd.R_drewN|apply Kd.R_drew)); exact HO311.out⟩,⟨by (with_reducible repeat (first|refine AF ?_ _|refine AH ?_|refine AG ?_ _)); exact BK308.out⟩,⟨by repeat (first|(with_reducible first|exact HB.out|apply AE|apply AC|apply AD|refine AI ?_ GE308.out)|exact HB.out)⟩⟩
  case round=>
   clear H'
   try clear c2
   try clear p2
   try clear c3
   try clear c3b0
   try clear c3b1
   try clear hcz5_0
   try clear hcz5_1
   try clear hfz5_0
   try clear hfz5_1
   obtain ⟨x6_1,x7_1,x8_1,rfl,rfl,rfl,HA,HK1,HO_4,BK308,HB⟩:=hrel
   cases gk with
   |zero=>exact absurd HA.out (by simp [B0.l0])
   | succ k1=>
    have H:=HA.out
    clear HA
    simp only [B0.l0] at H
    by_cases c7:x8_1<(t309.length:Int)
    ·rw [if_pos c7] at H
     have c7b0:decide (x8_1<(t309.length:Int))=true:=decide_eq_true c7
     clear c7
     by_cases c8:0≤x8_1
     ·rw [if_pos c8] at H
      have c8b0:decide (0≤x8_1)=true:=decide_eq_true c8
      clear c8
      obtain ⟨ji9,hji9⟩:∃j_:Int,(mx x6_1 (rd t309 x8_1))=j_:=⟨_,rfl⟩
      replace H:(if x8_1<(l0_1.length:Int) then (B0.l0 k1 t309 ji9 (wrap64 (x7_1+((AL l0_1 x8_1).f1))) (wrap64 (x8_1+1)) A8 l0_1) else (none))=some (r1,r2):=by first|(rw [hji9] at H; exact H)|(simp only [hji9] at H ⊢; exact H)
      have hji9_:(if x6_1<(rd t309 x8_1) then (rd t309 x8_1) else x6_1)=ji9:=hji9
      by_cases c10:x8_1<(l0_1.length:Int)
      ·rw [if_pos c10] at H
       have c10b0:decide (x8_1<(l0_1.length:Int))=true:=decide_eq_true c10
       clear c10
       have H':=yA H
       clear H
       obtain ⟨Ao11,co11,eo11⟩:=Kd.R_slice HO_4.out
       subst eo11
       have p313:0≤(x8_1:Int):=yD
       have q313:x8_1<(t309.length:Int):=yD
       obtain ⟨ad313,e313,hx313_0⟩:=Kd.at_int (Kd.R_reads' HO_4.out).2.2 x8_1 p313 q313
       cases e313
       replace p313:=eq_true p313
       replace q313:=eq_true q313
       have hcz12_0:wr.cell? ⟨gb308,0,none⟩=some (.int .i64 A8):=(AK BK308.out 0).trans rfl
       have hcz12_1:wr.cell? ⟨gb308,1,none⟩=some (.slice A0_1 l0_1.length c0_1):=(AK BK308.out 1).trans rfl
       have hfz12_0:=AJ BK308.out 0
       have hfz12_1:=AJ BK308.out 1
       have p314:0≤(x8_1:Int):=yD
       have q314:x8_1<(l0_1.length:Int):=yD
       obtain ⟨ad314,A314_3,c314_3,e314,hx314_0,hx314_1,hx314_2,hx314_3,hl314_3,hi314_3⟩:=BZ HR0_1.out x8_1 p314 q314
       cases e314
       replace hx314_0:=yC HB.out hx314_0
       replace hx314_1:=yC HB.out hx314_1
       replace hx314_2:=yC HB.out hx314_2
       replace hx314_3:=yC HB.out hx314_3
       have HR314_3:=yA hi314_3
       have HC314_3:=yA hl314_3
       clear hi314_3 hl314_3
       replace p314:=eq_true p314
       replace q314:=eq_true q314
       go_wp2
       repeat (go_quiet (fail); try go_wp2)
       go_roundg k1
       case measure=>have:=HK1.out; omega
       case rel=>exact ⟨(ji9),(wrap64 (x7_1+((AL l0_1 x8_1).f1))),(wrap64 (x8_1+1)),(by first|rfl|(simp; done)|(simp only [←hji9]<;>(first|rfl|simp))|(simp [*]; done)),zH,zH,H',⟨by have:=HK1.out; omega⟩,⟨by (with_reducible repeat (first|apply Kd.R_alloc|apply Kd.R_drewN|apply Kd.R_drew)); exact HO_4.out⟩,⟨by (with_reducible repeat (first|refine AF ?_ _|refine AH ?_|refine AG ?_ _)); exact BK308.out⟩,⟨by repeat (first|(with_reducible first|exact HB.out|apply AE|apply AC|apply AD|refine AI ?_ GE308.out)|exact HB.out)⟩⟩
      ·rw [if_neg c10] at H
       exact absurd H zA5
     ·rw [if_neg c8] at H
      exact absurd H zA5
    ·rw [if_neg c7] at H
     have c7b0:decide (x8_1<(t309.length:Int))=false:=decide_eq_false c7
     clear c7
     by_cases c13:A8=0
     ·rw [if_pos c13] at H
      exact absurd H zA5
     ·rw [if_neg c13] at H
      have c13b0:(A8==0)=false:=beq_eq_false_iff_ne.mpr c13
      have c13b1:(A8 !=0)=true:=bne_iff_ne.mpr c13
      obtain ⟨ji14,hji14⟩:∃j_:Int,(mx x6_1 (wrap64 (Int.tdiv (wrap64 ((wrap64 (x7_1+A8))-1)) A8)))=j_:=⟨_,rfl⟩
      replace H:(some (ji14,0))=some (r1,r2):=by first|(rw [hji14] at H; exact H)|(simp only [hji14] at H ⊢; exact H)
      have hji14_:(if x6_1<(wrap64 (Int.tdiv (wrap64 ((wrap64 (x7_1+A8))-1)) A8)) then (wrap64 (Int.tdiv (wrap64 ((wrap64 (x7_1+A8))-1)) A8)) else x6_1)=ji14:=hji14
      simp only [Option.some.injEq,Prod.mk.injEq] at H
      obtain ⟨rfl,rfl⟩:=H
      obtain ⟨Ao15,co15,eo15⟩:=Kd.R_slice HO_4.out
      subst eo15
      have hcz16_0:wr.cell? ⟨gb308,0,none⟩=some (.int .i64 A8):=(AK BK308.out 0).trans rfl
      have hcz16_1:wr.cell? ⟨gb308,1,none⟩=some (.slice A0_1 l0_1.length c0_1):=(AK BK308.out 1).trans rfl
      have hfz16_0:=AJ BK308.out 0
      have hfz16_1:=AJ BK308.out 1
      go_wp2
      repeat (go_quiet (fail); try go_wp2)
      go_ret2
      exact ⟨by first|rfl|(simp [AY,AX]<;>rfl)|(simp only [←hji14]; first|rfl|(simp [AY,AX]<;>rfl))|(simp [*,AY,AX]<;>rfl),by repeat (first|(with_reducible first|exact HB.out|apply AE|apply AC|apply AD|refine AI ?_ GE308.out)|exact HB.out)⟩
 ·rw [if_neg c3] at H
  have c3b0:(t312==0)=false:=beq_eq_false_iff_ne.mpr c3
  have c3b1:(t312 !=0)=true:=bne_iff_ne.mpr c3
  simp only [Option.some.injEq,Prod.mk.injEq] at H
  obtain ⟨rfl,rfl⟩:=H
  go_enter Try.func23,Try.ntmps23
  go_wp2_with (first|((with_reducible refine Aq (N:=1) rfl ?_); refine Av ?hg (N:=1) ?hd (cs:= #[.int .i64 A8,.slice A0_1 l0_1.length c0_1]) (t:=24) ?hr ?_; (case hd=>rfl); (case hg=>rfl); (case hr=>first|(go_simp; done)|(go_simp; rfl)); intro gb308 hg w17 hbox hb; have n0_:=yA (AO zB hb); have n1_:=yA (hbox); have n2_:=yA ((by rw [hg]; exact (AQ zB):w.heap.size≤gb308)); have n3_:=yA ((by rw [hg]; exact (AQ zB):w.heap.size≤gb308)); clear HB; have HB:=n0_; have BK308:=n1_; have GW308:=n2_; have GE308:=n3_; clear n0_ n1_ n2_ n3_; clear hb hbox hg; have hcz18_0:w17.cell? ⟨gb308,0,none⟩=some (.int .i64 A8):=(AK BK308.out 0).trans rfl; have hcz18_1:w17.cell? ⟨gb308,1,none⟩=some (.slice A0_1 l0_1.length c0_1):=(AK BK308.out 1).trans rfl; have hfz18_0:=AJ BK308.out 0; have hfz18_1:=AJ BK308.out 1)|(go_at_call 22; (with_reducible refine (AZ.calls k A8 _ _ l0_1 t309 t312 _ ?side1 ?side2 A2.out).mono ?_); (case side1=>repeat (first|exact (Kd.C_below HR0_1.out HB.out)|(with_reducible refine Kd.C_alloc ?_ _)|(with_reducible refine Kd.C_drewN ?_ _)|(with_reducible refine Kd.C_drew ?_))); (case side2=>exact HC0_1.out); rintro e w19 ⟨v310,rfl,ho0,hb⟩; have n0_:=yA (Kd.R_lower ho0 (AQ zA4)); have n1_:=yA (AP (g:=gb308) (o:= .cells #[.int .i64 A8,.slice A0_1 l0_1.length c0_1] 24 (0,0)) zD4 hb); have n2_:=yA (AO zA4 hb); clear BK308; clear HB; have HO311:=n0_; have BK308:=n1_; have HB:=n2_; clear n0_ n1_ n2_; (try clear hb); (try clear hb2); (try clear hk); (try clear hi); (try clear ho0)))
  repeat (go_quiet (first|((with_reducible refine Aq (N:=1) rfl ?_); refine Av ?hg (N:=1) ?hd (cs:= #[.int .i64 A8,.slice A0_1 l0_1.length c0_1]) (t:=24) ?hr ?_; (case hd=>rfl); (case hg=>rfl); (case hr=>first|(go_simp; done)|(go_simp; rfl)); intro gb308 hg w17 hbox hb; have n0_:=yA (AO zB hb); have n1_:=yA (hbox); have n2_:=yA ((by rw [hg]; exact (AQ zB):w.heap.size≤gb308)); have n3_:=yA ((by rw [hg]; exact (AQ zB):w.heap.size≤gb308)); clear HB; have HB:=n0_; have BK308:=n1_; have GW308:=n2_; have GE308:=n3_; clear n0_ n1_ n2_ n3_; clear hb hbox hg; have hcz18_0:w17.cell? ⟨gb308,0,none⟩=some (.int .i64 A8):=(AK BK308.out 0).trans rfl; have hcz18_1:w17.cell? ⟨gb308,1,none⟩=some (.slice A0_1 l0_1.length c0_1):=(AK BK308.out 1).trans rfl; have hfz18_0:=AJ BK308.out 0; have hfz18_1:=AJ BK308.out 1)|(go_at_call 22; (with_reducible refine (AZ.calls k A8 _ _ l0_1 t309 t312 _ ?side1 ?side2 A2.out).mono ?_); (case side1=>repeat (first|exact (Kd.C_below HR0_1.out HB.out)|(with_reducible refine Kd.C_alloc ?_ _)|(with_reducible refine Kd.C_drewN ?_ _)|(with_reducible refine Kd.C_drew ?_))); (case side2=>exact HC0_1.out); rintro e w19 ⟨v310,rfl,ho0,hb⟩; have n0_:=yA (Kd.R_lower ho0 (AQ zA4)); have n1_:=yA (AP (g:=gb308) (o:= .cells #[.int .i64 A8,.slice A0_1 l0_1.length c0_1] 24 (0,0)) zD4 hb); have n2_:=yA (AO zA4 hb); clear BK308; clear HB; have HO311:=n0_; have BK308:=n1_; have HB:=n2_; clear n0_ n1_ n2_; (try clear hb); (try clear hb2); (try clear hk); (try clear hi); (try clear ho0); clear A2)); try go_wp2_with (first|((with_reducible refine Aq (N:=1) rfl ?_); refine Av ?hg (N:=1) ?hd (cs:= #[.int .i64 A8,.slice A0_1 l0_1.length c0_1]) (t:=24) ?hr ?_; (case hd=>rfl); (case hg=>rfl); (case hr=>first|(go_simp; done)|(go_simp; rfl)); intro gb308 hg w17 hbox hb; have n0_:=yA (AO zB hb); have n1_:=yA (hbox); have n2_:=yA ((by rw [hg]; exact (AQ zB):w.heap.size≤gb308)); have n3_:=yA ((by rw [hg]; exact (AQ zB):w.heap.size≤gb308)); clear HB; have HB:=n0_; have BK308:=n1_; have GW308:=n2_; have GE308:=n3_; clear n0_ n1_ n2_ n3_; clear hb hbox hg; have hcz18_0:w17.cell? ⟨gb308,0,none⟩=some (.int .i64 A8):=(AK BK308.out 0).trans rfl; have hcz18_1:w17.cell? ⟨gb308,1,none⟩=some (.slice A0_1 l0_1.length c0_1):=(AK BK308.out 1).trans rfl; have hfz18_0:=AJ BK308.out 0; have hfz18_1:=AJ BK308.out 1)|(go_at_call 22; (with_reducible refine (AZ.calls k A8 _ _ l0_1 t309 t312 _ ?side1 ?side2 A2.out).mono ?_); (case side1=>repeat (first|exact (Kd.C_below HR0_1.out HB.out)|(with_reducible refine Kd.C_alloc ?_ _)|(with_reducible refine Kd.C_drewN ?_ _)|(with_reducible refine Kd.C_drew ?_))); (case side2=>exact HC0_1.out); rintro e w19 ⟨v310,rfl,ho0,hb⟩; have n0_:=yA (Kd.R_lower ho0 (AQ zA4)); have n1_:=yA (AP (g:=gb308) (o:= .cells #[.int .i64 A8,.slice A0_1 l0_1.length c0_1] 24 (0,0)) zD4 hb); have n2_:=yA (AO zA4 hb); clear BK308; clear HB; have HO311:=n0_; have BK308:=n1_; have HB:=n2_; clear n0_ n1_ n2_; (try clear hb); (try clear hb2); (try clear hk); (try clear hi); (try clear ho0); clear A2)))
  go_ret2
  exact ⟨by first|rfl|(simp [AY,AX]<;>rfl)|(simp [*,AY,AX]<;>rfl),by repeat (first|(with_reducible first|exact HB.out|apply AE|apply AC|apply AD|refine AI ?_ GE308.out)|exact HB.out)⟩
end Go.Proofs.Ytdadecjefafflaa.PLst
end
