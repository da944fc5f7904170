/- A part of what the law's proof leans on. PACKED BY pack.py of this repo. -/
import Derived.Test.YtdadecjefafflaaL1
set_option linter.unusedVariables false
set_option linter.unusedSimpArgs false
set_option linter.defProp false
set_option linter.unusedSectionVars false
section
namespace Go.Proofs.Ytdadecjefafflaa.PLst
set_option maxRecDepth 100000
open Go.RowKit Go.Proofs.YtdadecjefafflaaW.PrintWords Go.Proofs.YtdadecjefafflaaW.PrintLast Go.Proofs.YtdadecjefafflaaW.PrintMore
attribute [local go_sem] Bd Bb Bm Bk BU BT Bc Ba
mutual
def AW.l0:Nat→List (S47)→Int→Int→Int→List (S64)→Option (Bool)
 |0,_,_,_,_,_=>none
 |k+1,x1,x8,x9,x135000,x135001=>if x9<x8 then (AW.l1 k x1 x9 x8 x9 x9 0 x135000 x135001) else (some false)
def AW.l1:Nat→List (S47)→Int→Int→Int→Int→Int→Int→List (S64)→Option (Bool)
 |0,_,_,_,_,_,_,_,_=>none
 |k+1,x1,x5,x8,x9,x12,x13,x135000,x135001=>if x13<x12 then (if 0≤x5 then (if x5<(x1.length:Int) then (if 0≤x13 then (if x13<(x1.length:Int) then (if ((Au x1 x5).f0)=((Au x1 x13).f0) then ((BB.f x135000 x135001 x1 x13).bind fun t138=>(if ((Au x1 x5).f1)<t138 then ((BB.f x135000 x135001 x1 x5).bind fun t140=>(if ((Au x1 x13).f1)<t140 then (some true) else (AW.l1 k x1 x5 x8 x9 x12 (wrap64 (x13+1)) x135000 x135001))) else (AW.l1 k x1 x5 x8 x9 x12 (wrap64 (x13+1)) x135000 x135001))) else (AW.l1 k x1 x5 x8 x9 x12 (wrap64 (x13+1)) x135000 x135001)) else (none)) else (none)) else (none)) else (none)) else (AW.l0 k x1 x8 (wrap64 (x9+1)) x135000 x135001)
end
def AW.f (k:Nat) (A8:Int) (l0_1:List (S64)) (l1:List (S47)):Option (Bool):=AW.l0 k l1 (l1.length:Int) 0 A8 l0_1
theorem AW.mono_l:∀k,(∀y0 y1 y2 y3 y4,LeO (AW.l0 k y0 y1 y2 y3 y4) (AW.l0 (k+1) y0 y1 y2 y3 y4))∧(∀y0 y1 y2 y3 y4 y5 y6 y7,LeO (AW.l1 k y0 y1 y2 y3 y4 y5 y6 y7) (AW.l1 (k+1) y0 y1 y2 y3 y4 y5 y6 y7))
 |0=>⟨fun _ _ _ _ _ r h=>by simp [AW.l0] at h,fun _ _ _ _ _ _ _ _ r h=>by simp [AW.l1] at h⟩
 | k +1=>by
  obtain ⟨ih0,ih1⟩:=AW.mono_l k
  refine ⟨?_,?_⟩
  ·intro y0 y1 y2 y3 y4
   unfold AW.l0
   repeat' first
   |(with_reducible exact ih0 _ _ _ _ _)
   |(with_reducible exact ih1 _ _ _ _ _ _ _ _)
   |(with_reducible exact LeO.refl _)
   |(with_reducible exact LeO.none _)
   |(with_reducible refine LeO.ite ?_ ?_)
   |(with_reducible refine LeO.bind ?_ (fun _=> ?_))
   |exact ih0 _ _ _ _ _
   |exact ih1 _ _ _ _ _ _ _ _
   |exact LeO.none _
   |refine LeO.ite ?_ ?_
   |refine LeO.bind ?_ (fun _=> ?_)
  ·intro y0 y1 y2 y3 y4 y5 y6 y7
   unfold AW.l1
   repeat' first
   |(with_reducible exact ih0 _ _ _ _ _)
   |(with_reducible exact ih1 _ _ _ _ _ _ _ _)
   |(with_reducible exact LeO.refl _)
   |(with_reducible exact LeO.none _)
   |(with_reducible refine LeO.ite ?_ ?_)
   |(with_reducible refine LeO.bind ?_ (fun _=> ?_))
   |exact ih0 _ _ _ _ _
   |exact ih1 _ _ _ _ _ _ _ _
   |exact LeO.none _
   |refine LeO.ite ?_ ?_
   |refine LeO.bind ?_ (fun _=> ?_)
theorem AW.mono:∀a0 a1 a2 k,LeO (AW.f k a0 a1 a2) (AW.f (k+1) a0 a1 a2):=by
 intro a0 a1 a2 k
 obtain ⟨ih0,ih1⟩:=AW.mono_l k
 unfold AW.f
 repeat' first
  |(with_reducible exact ih0 _ _ _ _ _)
  |(with_reducible exact ih1 _ _ _ _ _ _ _ _)
  |(with_reducible exact LeO.refl _)
  |(with_reducible exact LeO.none _)
  |(with_reducible refine LeO.ite ?_ ?_)
  |(with_reducible refine LeO.bind ?_ (fun _=> ?_))
  |exact ih0 _ _ _ _ _
  |exact ih1 _ _ _ _ _ _ _ _
  |exact LeO.none _
  |refine LeO.ite ?_ ?_
  |refine LeO.bind ?_ (fun _=> ?_)
def AW.T7:Bool×List (List Nat×List Nat):=(true,[([],[]),([],[]),([0,1],[0,1]),([2],[2]),([3],[3]),([],[]),([],[]),([5,6],[5,6]),([7],[7]),([8],[8]),([4,9],[4,9]),([10],[10]),([11],[11]),([11],[11]),([12,13,11],[11,12,13]),([14,11],[11,14]),([15,11],[11,15]),([11],[11]),([11],[11]),([11],[11]),([17,18,19,11,11],[11,17,18,19]),([16,20,11],[11,16,20]),([11,21],[11,21]),([22,20],[22]),([23],[23]),([23],[23]),([24,25,23],[23,24,25]),([26,23],[23,26]),([27,23],[23,27]),([23],[23]),([23],[23]),([23],[23]),([29,30,31,23,23],[23,29,30,31]),([28,32,23],[23,28,32]),([23,33],[23,33])])
def AW.B7:List Nat:=[0,0,3,7,15,0,0,96,224,480,1023,2047,4095,4095,16383,32767,65535,4095,4095,4095,921599,2097151,4194303,8388607,16777215,16777215,67108863,134217727,268435455,16777215,16777215,16777215,3774873599,8589934591,17179869183]
theorem AW.tab7:rtab .any (Cx Try.f44 7)=AW.T7:=by kernel_rfl
theorem AW.bits7:C2 AW.T7.2 AW.B7=true:=by kernel_rfl
set_option maxHeartbeats 8000000 in
theorem AW.calls (k:Nat) (A8:Int) (A0_1:Option Addr) (c0_1:Nat) (l0_1:List (S64)) (A1:Option Addr) (c1:Nat) (l1:List (S47)) (r:Bool) (w:World) (hr0_1:Kd.C k64 w A0_1 l0_1.length l0_1) (hc0_1:l0_1.length≤c0_1) (hr1:Kd.C k47 w A1 l1.length l1) (hc1:l1.length≤c1) (h:AW.f k A8 l0_1 l1=some r):
  Calls Try.prog 44 #[.agg #[.int .i64 A8,.slice A0_1 l0_1.length c0_1],.slice A1 l1.length c1] w fun e w'=>e= .returned (.bool r)∧Below w.heap.size w w':=by
 have hu34:=Try.underlying34
 have HR0_1:=yA hr0_1
 have HC0_1:=yA hc0_1
 clear hr0_1 hc0_1
 have HR1:=yA hr1
 have HC1:=yA hc1
 clear hr1 hc1
 have HB:=yA (Below.refl w.heap.size w)
 have H:(AW.l0 k l1 (l1.length:Int) 0 A8 l0_1)=some r:=h
 clear h
 have H':=yA H
 clear H
 go_enter Try.func44,Try.ntmps44
 go_wp2_with (first|((with_reducible refine Aq (N:=2) rfl ?_); refine Av ?hg (N:=2) ?hd (cs:= #[.int .i64 A8,.slice A0_1 l0_1.length c0_1]) (t:=34) ?hr ?_; (case hd=>rfl); (case hg=>rfl); (case hr=>first|(go_simp; done)|(go_simp; rfl)); intro gb134 hg w3 hbox hb; have n0_:=yA (AO zB hb); have n1_:=yA (hbox); have n2_:=yA ((by rw [hg]; exact (AQ zB):w.heap.size≤gb134)); have n3_:=yA ((by rw [hg]; exact (AQ zB):w.heap.size≤gb134)); clear HB; have HB:=n0_; have BK134:=n1_; have GW134:=n2_; have GE134:=n3_; clear n0_ n1_ n2_ n3_; clear hb hbox hg))
 go_loopg [9] k (fun kq v9 w'=>∃(x9_1:Int),v9= .int .i64 x9_1∧Aside0 (AW.l0 kq l1 (l1.length:Int) x9_1 A8 l0_1=some r)∧Aside0 (kq≤k)∧Aside0 (w'.heap[gb134]? =some (.cells #[.int .i64 A8,(.slice A0_1 l0_1.length c0_1)] 34 (0,0)))∧Aside0 (Below w.heap.size w w'))
 case atStart=>exact ⟨(0),zH,H',⟨Nat.le_refl _⟩,⟨by (with_reducible repeat (first|refine AF ?_ _|refine AH ?_|refine AG ?_ _)); exact BK134.out⟩,⟨by repeat (first|(with_reducible first|exact HB.out|apply AE|apply AC|apply AD|refine AI ?_ GE134.out)|exact HB.out)⟩⟩
 case round=>
  clear H'
  try clear c1
  try clear p2
  obtain ⟨x9_1,rfl,HA,HK1,BK134,HB⟩:=hrel
  cases gk with
  |zero=>exact absurd HA.out (by simp [AW.l0])
  | succ k1 =>
   have H:=HA.out
   clear HA
   simp only [AW.l0] at H
   by_cases c4:x9_1<(l1.length:Int)
   ·rw [if_pos c4] at H
    have c4b0:decide (x9_1<(l1.length:Int))=true:=decide_eq_true c4
    clear c4
    have H':=yA H
    clear H
    go_wp2
    go_loopg [13] k1 (fun kq v13 w'=>∃(x13_2:Int),v13= .int .i64 x13_2∧Aside0 (AW.l1 kq l1 x9_1 (l1.length:Int) x9_1 x9_1 x13_2 A8 l0_1=some r)∧Aside0 (kq≤k1)∧Aside0 (w'.heap[gb134]? =some (.cells #[.int .i64 A8,(.slice A0_1 l0_1.length c0_1)] 34 (0,0)))∧Aside0 (Below w.heap.size w w'))
    case atStart=>exact ⟨(0),zH,H',⟨Nat.le_refl _⟩,⟨by (with_reducible repeat (first|refine AF ?_ _|refine AH ?_|refine AG ?_ _)); exact BK134.out⟩,⟨by repeat (first|(with_reducible first|exact HB.out|apply AE|apply AC|apply AD|refine AI ?_ GE134.out)|exact HB.out)⟩⟩
    case round=>
     clear H'
     try clear c1
     try clear p2
     try clear c4
     try clear c4b0
     try clear p2
     obtain ⟨x13_2,rfl,HA,HK2,BK134,HB⟩:=hrel
     cases gk with
     |zero=>exact absurd HA.out (by simp [AW.l1])
     | succ k2 =>
      have H:=HA.out
      clear HA
      simp only [AW.l1] at H
      by_cases c5:x13_2<x9_1
      ·rw [if_pos c5] at H
       have c5b0:decide (x13_2<x9_1)=true:=decide_eq_true c5
       clear c5
       by_cases c6:0≤x9_1
       ·rw [if_pos c6] at H
        have c6b0:decide (0≤x9_1)=true:=decide_eq_true c6
        clear c6
        by_cases c7:x9_1<(l1.length:Int)
        ·rw [if_pos c7] at H
         have c7b0:decide (x9_1<(l1.length:Int))=true:=decide_eq_true c7
         clear c7
         by_cases c8:0≤x13_2
         ·rw [if_pos c8] at H
          have c8b0:decide (0≤x13_2)=true:=decide_eq_true c8
          clear c8
          by_cases c9:x13_2<(l1.length:Int)
          ·rw [if_pos c9] at H
           have c9b0:decide (x13_2<(l1.length:Int))=true:=decide_eq_true c9
           clear c9
           by_cases c10:((Au l1 x9_1).f0)=((Au l1 x13_2).f0)
           ·rw [if_pos c10] at H
            have c10b0:(((Au l1 x9_1).f0)==((Au l1 x13_2).f0))=true:=beq_iff_eq.mpr c10
            have c10b1:(((Au l1 x9_1).f0) !=((Au l1 x13_2).f0))=false:=bne_eq_false_iff_eq.mpr c10
            clear c10
            replace H:=Option.bind_eq_some_iff.mp H
            obtain ⟨t138,A110,H⟩:=H
            replace H:(if ((Au l1 x9_1).f1)<t138 then ((BB.f A8 l0_1 l1 x9_1).bind fun t140=>(if ((Au l1 x13_2).f1)<t140 then (some true) else (AW.l1 k2 l1 x9_1 (l1.length:Int) x9_1 x9_1 (wrap64 (x13_2+1)) A8 l0_1))) else (AW.l1 k2 l1 x9_1 (l1.length:Int) x9_1 x9_1 (wrap64 (x13_2+1)) A8 l0_1))=some r:=H
            have A11:=yA A110
            clear A110
            by_cases c12:((Au l1 x9_1).f1)<t138
            ·rw [if_pos c12] at H
             have c12b0:decide (((Au l1 x9_1).f1)<t138)=true:=decide_eq_true c12
             clear c12
             replace H:=Option.bind_eq_some_iff.mp H
             obtain ⟨t140,A130,H⟩:=H
             replace H:(if ((Au l1 x13_2).f1)<t140 then (some true) else (AW.l1 k2 l1 x9_1 (l1.length:Int) x9_1 x9_1 (wrap64 (x13_2+1)) A8 l0_1))=some r:=H
             have A13:=yA A130
             clear A130
             by_cases c14:((Au l1 x13_2).f1)<t140
             ·rw [if_pos c14] at H
              have c14b0:decide (((Au l1 x13_2).f1)<t140)=true:=decide_eq_true c14
              clear c14
              obtain rfl:=Option.some.inj H
              try go_wp2
              have n0_:=yA (AH BK134.out)
              have n1_:=yA (AD HB.out)
              clear BK134
              clear HB
              have BK134:=n0_
              have HB:=n1_
              clear n0_ n1_
              have p135:0≤(x9_1:Int):=yD
              have q135:x9_1<(l1.length:Int):=yD
              obtain ⟨ad135,e135,hx135_0,hx135_1⟩:=Bp HR1.out x9_1 p135 q135
              have hw135_1:=hx135_1
              have hw135_0:=hx135_0
              cases e135
              replace hx135_0:=yC HB.out hx135_0
              replace hx135_1:=yC HB.out hx135_1
              replace p135:=eq_true p135
              replace q135:=eq_true q135
              have p136:0≤(x13_2:Int):=yD
              have q136:x13_2<(l1.length:Int):=yD
              obtain ⟨ad136,e136,hx136_0,hx136_1⟩:=Bp HR1.out x13_2 p136 q136
              have hw136_1:=hx136_1
              have hw136_0:=hx136_0
              obtain rfl:ad135=ad136:=(by injection e136)
              replace hx136_0:=yC HB.out hx136_0
              replace hx136_1:=yC HB.out hx136_1
              replace p136:=eq_true p136
              replace q136:=eq_true q136
              have p137:0≤(x9_1:Int):=yD
              have q137:x9_1<(l1.length:Int):=yD
              obtain ⟨ad137,e137,hx137_0,hx137_1⟩:=Bp HR1.out x9_1 p137 q137
              have hw137_1:=hx137_1
              have hw137_0:=hx137_0
              obtain rfl:ad135=ad137:=(by injection e137)
              replace hx137_0:=yC HB.out hx137_0
              replace hx137_1:=yC HB.out hx137_1
              replace p137:=eq_true p137
              replace q137:=eq_true q137
              have p139:0≤(x13_2:Int):=yD
              have q139:x13_2<(l1.length:Int):=yD
              obtain ⟨ad139,e139,hx139_0,hx139_1⟩:=Bp HR1.out x13_2 p139 q139
              have hw139_1:=hx139_1
              have hw139_0:=hx139_0
              obtain rfl:ad135=ad139:=(by injection e139)
              replace hx139_0:=yC HB.out hx139_0
              replace hx139_1:=yC HB.out hx139_1
              replace p139:=eq_true p139
              replace q139:=eq_true q139
              refine C8 (n:=35) (S:=fun w'=>w'.cell? ⟨gb134,0,none⟩=some (.int .i64 A8)∧w'.cell? ⟨gb134,1,none⟩=some (.slice A0_1 l0_1.length c0_1)∧w'.cell? (ad135.add ((x9_1).toNat*2))=some (.int .i64 ((Au l1 x9_1).f0))∧w'.cell? ⟨(ad135.add ((x9_1).toNat*2)).block,(ad135.add ((x9_1).toNat*2)).off+1,none⟩=some (.int .i64 ((Au l1 x9_1).f1))∧w'.cell? (ad135.add ((x13_2).toNat*2))=some (.int .i64 ((Au l1 x13_2).f0))∧w'.cell? ⟨(ad135.add ((x13_2).toNat*2)).block,(ad135.add ((x13_2).toNat*2)).off+1,none⟩=some (.int .i64 ((Au l1 x13_2).f1))∧w'.cell? (ad135.add ((x9_1).toNat*2))=some (.int .i64 ((Au l1 x9_1).f0))∧w'.cell? ⟨(ad135.add ((x9_1).toNat*2)).block,(ad135.add ((x9_1).toNat*2)).off+1,none⟩=some (.int .i64 ((Au l1 x9_1).f1))∧w'.cell? (ad135.add ((x13_2).toNat*2))=some (.int .i64 ((Au l1 x13_2).f0))∧w'.cell? ⟨(ad135.add ((x13_2).toNat*2)).block,(ad135.add ((x13_2).toNat*2)).off+1,none⟩=some (.int .i64 ((Au l1 x13_2).f1))) (ds:=[]) #[false,false,false,false,false,false,false,false,false,false,false,false,false,false,false,false,false,false,false,false,false,false,false,false,false,false,false,false,false,false,false,false,false,false,false] zI rfl rfl ⟨(AK BK134.out 0).trans rfl,(AK BK134.out 1).trans rfl,(yC HB.out hw135_0),(yC HB.out hw135_1),(yC HB.out hw136_0),(yC HB.out hw136_1),(yC HB.out hw137_0),(yC HB.out hw137_1),(yC HB.out hw139_0),(yC HB.out hw139_1)⟩ (fun hHeld=> ?_); refine Bn AW.tab7 AW.bits7 (fun HT_ HW_=> ?_)
              generalize wr.drew=w15 at BK134 HB hx135_0 hx135_1 hx136_0 hx136_1 hx137_0 hx137_1 hx139_0 hx139_1 hHeld ⊢
              refine At (i:=0) (N:=some 16) (v:= ?_) (a':= ?_) #[true,false,false,false,false,false,false,false,false,false,false,false,false,false,false,false,false,false,false,false,false,false,false,false,false,false,false,false,false,false,false,false,false,false,false] rfl rfl (Ai HT_.out zI) (fun _ _ _ h=>h) (Or.inl ⟨by rfl,?_⟩) ?_ ?_; rotate_left; intro w'; go_simp; with_reducible rfl; rotate_left; exact yB
              refine At (i:=1) (N:=some 17) (v:= ?_) (a':= ?_) #[true,true,false,false,false,false,false,false,false,false,false,false,false,false,false,false,false,false,false,false,false,false,false,false,false,false,false,false,false,false,false,false,false,false,false] rfl rfl (Ai HT_.out zI) (fun _ _ _ h=>h) (Or.inl ⟨by rfl,?_⟩) ?_ ?_; rotate_left; intro w'; go_simp; with_reducible rfl; rotate_left; exact yB
              refine At (i:=2) (N:=some 18) (v:= ?_) (a':= ?_) #[true,true,true,false,false,false,false,false,false,false,false,false,false,false,false,false,false,false,false,false,false,false,false,false,false,false,false,false,false,false,false,false,false,false,false] rfl rfl (Ai HT_.out zI) (fun _ _ _ h=>h) (Or.inl ⟨by rfl,?_⟩) ?_ ?_; rotate_left; intro w'; go_simp; with_reducible rfl; rotate_left; exact yB
              refine At (i:=3) (N:=some 19) (v:= ?_) (a':= ?_) #[true,true,true,true,false,false,false,false,false,false,false,false,false,false,false,false,false,false,false,false,false,false,false,false,false,false,false,false,false,false,false,false,false,false,false] rfl rfl (Ai HT_.out zI) (fun _ _ _ h=>h) (Or.inl ⟨by rfl,?_⟩) ?_ ?_; rotate_left; intro w'; go_simp; with_reducible rfl; rotate_left; exact yB
              refine At (i:=5) (N:=some 21) (v:= ?_) (a':= ?_) #[true,true,true,true,false,true,false,false,false,false,false,false,false,false,false,false,false,false,false,false,false,false,false,false,false,false,false,false,false,false,false,false,false,false,false] rfl rfl (Ai HT_.out zI) (fun _ _ _ h=>h) (Or.inl ⟨by rfl,?_⟩) ?_ ?_; rotate_left; intro w'; go_simp; with_reducible rfl; rotate_left; exact yB
              refine At (i:=6) (N:=some 22) (v:= ?_) (a':= ?_) #[true,true,true,true,false,true,true,false,false,false,false,false,false,false,false,false,false,false,false,false,false,false,false,false,false,false,false,false,false,false,false,false,false,false,false] rfl rfl (Ai HT_.out zI) (fun _ _ _ h=>h) (Or.inl ⟨by rfl,?_⟩) ?_ ?_; rotate_left; intro w'; go_simp; with_reducible rfl; rotate_left; exact yB
              refine At (i:=7) (N:=some 23) (v:= ?_) (a':= ?_) #[true,true,true,true,false,true,true,true,false,false,false,false,false,false,false,false,false,false,false,false,false,false,false,false,false,false,false,false,false,false,false,false,false,false,false] rfl rfl (Ai HT_.out zI) (fun _ _ _ h=>h) (Or.inl ⟨by rfl,?_⟩) ?_ ?_; rotate_left; intro w'; go_simp; with_reducible rfl; rotate_left; exact yB
              refine At (i:=8) (N:=some 24) (v:= ?_) (a':= ?_) #[true,true,true,true,false,true,true,true,true,false,false,false,false,false,false,false,false,false,false,false,false,false,false,false,false,false,false,false,false,false,false,false,false,false,false] rfl rfl (Ai HT_.out zI) (fun _ _ _ h=>h) (Or.inl ⟨by rfl,?_⟩) ?_ ?_; rotate_left; intro w'; go_simp; with_reducible rfl; rotate_left; exact yB
              refine BV (i:=4) (N:=some 20) (v:= ?_) (a':= ?_) #[true,true,true,true,true,true,true,true,true,false,false,false,false,false,false,false,false,false,false,false,false,false,false,false,false,false,false,false,false,false,false,false,false,false,false] rfl rfl (BF HT_.out HW_.out zI) (fun _ _ _ h=>h) (Or.inl ⟨by rfl,?_⟩) hHeld ?_ ?_; rotate_left; rintro w' ⟨s0,s1,s2,s3,s4,s5,s6,s7,s8,s9⟩; go_simp; with_reducible rfl; rotate_left; exact yB
              refine BV (i:=9) (N:=some 25) (v:= ?_) (a':= ?_) #[true,true,true,true,true,true,true,true,true,true,false,false,false,false,false,false,false,false,false,false,false,false,false,false,false,false,false,false,false,false,false,false,false,false,false] rfl rfl (BF HT_.out HW_.out zI) (fun _ _ _ h=>h) (Or.inl ⟨by rfl,?_⟩) hHeld ?_ ?_; rotate_left; rintro w' ⟨s0,s1,s2,s3,s4,s5,s6,s7,s8,s9⟩; go_simp; with_reducible rfl; rotate_left; exact yB
              refine At (i:=10) (N:=some 26) (v:= ?_) (a':= ?_) #[true,true,true,true,true,true,true,true,true,true,true,false,false,false,false,false,false,false,false,false,false,false,false,false,false,false,false,false,false,false,false,false,false,false,false] rfl rfl (Ai HT_.out zI) (fun _ _ _ h=>h) (Or.inl ⟨by rfl,?_⟩) ?_ ?_; rotate_left; intro w'; go_simp; with_reducible rfl; rotate_left; exact yB
              refine At (i:=11) (N:=some 27) (v:= ?_) (a':= ?_) #[true,true,true,true,true,true,true,true,true,true,true,true,false,false,false,false,false,false,false,false,false,false,false,false,false,false,false,false,false,false,false,false,false,false,false] rfl rfl (Ai HT_.out zI) (fun _ _ _ h=>h) (Or.inl ⟨by rfl,?_⟩) ?_ ?_; rotate_left; intro w'; go_simp; with_reducible rfl; rotate_left; exact yB
              refine At (i:=12) (N:=some 28) (v:= ?_) (a':= ?_) #[true,true,true,true,true,true,true,true,true,true,true,true,true,false,false,false,false,false,false,false,false,false,false,false,false,false,false,false,false,false,false,false,false,false,false] rfl rfl (Ai HT_.out zI) (fun _ _ _ h=>h) (Or.inl ⟨by rfl,?_⟩) ?_ ?_; rotate_left; intro w'; go_simp; with_reducible rfl; rotate_left; exact yB
              refine At (i:=13) (N:=some 29) (v:= ?_) (a':= ?_) #[true,true,true,true,true,true,true,true,true,true,true,true,true,true,false,false,false,false,false,false,false,false,false,false,false,false,false,false,false,false,false,false,false,false,false] rfl rfl (Ai HT_.out zI) (fun _ _ _ h=>h) (Or.inl ⟨by rfl,?_⟩) ?_ ?_; rotate_left; intro w'; go_simp; with_reducible rfl; rotate_left; exact yB
              refine At (i:=14) (N:=some 30) (v:= ?_) (a':= ?_) #[true,true,true,true,true,true,true,true,true,true,true,true,true,true,true,false,false,false,false,false,false,false,false,false,false,false,false,false,false,false,false,false,false,false,false] rfl rfl (Ai HT_.out zI) (fun _ _ _ h=>h) (Or.inl ⟨by rfl,?_⟩) ?_ ?_; rotate_left; intro w'; go_simp; with_reducible rfl; rotate_left; exact yB
              refine At (i:=15) (N:=some 31) (v:= ?_) (a':= ?_) #[true,true,true,true,true,true,true,true,true,true,true,true,true,true,true,true,false,false,false,false,false,false,false,false,false,false,false,false,false,false,false,false,false,false,false] rfl rfl (Ai HT_.out zI) (fun _ _ _ h=>h) (Or.inl ⟨by rfl,?_⟩) ?_ ?_; rotate_left; intro w'; go_simp; with_reducible rfl; rotate_left; exact yB
              refine At (i:=18) (N:=some 34) (v:= ?_) (a':= ?_) #[true,true,true,true,true,true,true,true,true,true,true,true,true,true,true,true,false,false,true,false,false,false,false,false,false,false,false,false,false,false,false,false,false,false,false] rfl rfl (Ai HT_.out zI) (fun _ _ _ h=>h) (Or.inl ⟨by rfl,?_⟩) ?_ ?_; rotate_left; intro w'; go_simp; with_reducible rfl; rotate_left; exact yB
              refine At (i:=19) (N:=some 35) (v:= ?_) (a':= ?_) #[true,true,true,true,true,true,true,true,true,true,true,true,true,true,true,true,false,false,true,true,false,false,false,false,false,false,false,false,false,false,false,false,false,false,false] rfl rfl (Ai HT_.out zI) (fun _ _ _ h=>h) (Or.inl ⟨by rfl,?_⟩) ?_ ?_; rotate_left; intro w'; go_simp; with_reducible rfl; rotate_left; exact yB
              refine BV (i:=16) (N:=some 32) (v:= ?_) (a':= ?_) #[true,true,true,true,true,true,true,true,true,true,true,true,true,true,true,true,true,false,true,true,false,false,false,false,false,false,false,false,false,false,false,false,false,false,false] rfl rfl (BF HT_.out HW_.out zI) (fun _ _ _ h=>h) (Or.inl ⟨by rfl,?_⟩) hHeld ?_ ?_; rotate_left; rintro w' ⟨s0,s1,s2,s3,s4,s5,s6,s7,s8,s9⟩; go_simp; with_reducible rfl; rotate_left; exact yB
              refine BV (i:=17) (N:=some 33) (v:= ?_) (a':= ?_) #[true,true,true,true,true,true,true,true,true,true,true,true,true,true,true,true,true,true,true,true,false,false,false,false,false,false,false,false,false,false,false,false,false,false,false] rfl rfl (BF HT_.out HW_.out zI) (fun _ _ _ h=>h) (Or.inl ⟨by rfl,?_⟩) hHeld ?_ ?_; rotate_left; rintro w' ⟨s0,s1,s2,s3,s4,s5,s6,s7,s8,s9⟩; go_simp; with_reducible rfl; rotate_left; exact yB
              refine one_ (i:=20) (N:=some 36) #[true,true,true,true,true,true,true,true,true,true,true,true,true,true,true,true,true,true,true,true,true,false,false,false,false,false,false,false,false,false,false,false,false,false,false] rfl rfl (Bv HT_.out zI) zA0 (fun K hK=> ?_)
              refine Cy Try.func30 zI rfl #[.agg #[.int .i64 A8,.slice A0_1 l0_1.length c0_1],.slice (some ad135) l1.length c1,.int .i64 x13_2] (by rfl) rfl rfl zD ?_
              with_reducible refine (BB.calls A8 _ _ l0_1 _ _ l1 x13_2 t138 _ ?side1 ?side2 ?side3 ?side4 A11.out).mono ?_
              (case side1=>repeat (first|exact (Kd.C_below HR0_1.out HB.out)|(with_reducible refine Kd.C_alloc ?_ _)|(with_reducible refine Kd.C_drewN ?_ _)|(with_reducible refine Kd.C_drew ?_)))
              (case side2=>exact HC0_1.out)
              (case side3=>repeat (first|exact (Kd.C_below HR1.out HB.out)|(with_reducible refine Kd.C_alloc ?_ _)|(with_reducible refine Kd.C_drewN ?_ _)|(with_reducible refine Kd.C_drew ?_)))
              (case side4=>exact HC1.out)
              rintro e w16 ⟨rfl,hb⟩
              refine ⟨_,rfl,?_⟩
              have n0_:=yA (AP (g:=gb134) (o:= .cells #[.int .i64 A8,.slice A0_1 l0_1.length c0_1] 34 (0,0)) (by (with_reducible repeat (first|refine AF ?_ _|refine AH ?_|refine AG ?_ _)); exact BK134.out) hb)
              have n1_:=yA (AO zD6 hb)
              clear BK134
              clear HB
              have BK134:=n0_
              have HB:=n1_
              clear n0_ n1_
              (try clear hb)
              (try clear hb2)
              (try clear hk)
              (try clear hi)
              refine hK.out _ _ ⟨(AK BK134.out 0).trans rfl,(AK BK134.out 1).trans rfl,(yC HB.out hw135_0),(yC HB.out hw135_1),(yC HB.out hw136_0),(yC HB.out hw136_1),(yC HB.out hw137_0),(yC HB.out hw137_1),(yC HB.out hw139_0),(yC HB.out hw139_1)⟩ (fun hHeld=> ?_)
              clear hK K
              refine By (a':= ?_) ?_ ?_; rotate_left; show Act.put _ (some 36) _=_; exact yB
              refine At (i:=21) (N:=some 37) (v:= ?_) (a':= ?_) #[true,true,true,true,true,true,true,true,true,true,true,true,true,true,true,true,true,true,true,true,true,true,false,false,false,false,false,false,false,false,false,false,false,false,false] rfl rfl (Ai HT_.out zI) (fun _ _ _ h=>h) (Or.inl ⟨by rfl,?_⟩) ?_ ?_; rotate_left; intro w'; go_simp; with_reducible rfl; rotate_left; exact yB
              refine At (i:=22) (N:=some 38) (v:= ?_) (a':= ?_) #[true,true,true,true,true,true,true,true,true,true,true,true,true,true,true,true,true,true,true,true,true,true,true,false,false,false,false,false,false,false,false,false,false,false,false] rfl rfl (Ai HT_.out zI) (fun _ _ _ h=>h) (Or.inl ⟨by rfl,?_⟩) ?_ ?_; rotate_left; intro w'; go_simp; with_reducible rfl; rotate_left; exact yB
              refine At (i:=23) (N:=some 39) (v:= ?_) (a':= ?_) #[true,true,true,true,true,true,true,true,true,true,true,true,true,true,true,true,true,true,true,true,true,true,true,true,false,false,false,false,false,false,false,false,false,false,false] rfl rfl (Ai HT_.out zI) (fun _ _ _ h=>h) (Or.inl ⟨by rfl,?_⟩) ?_ ?_; rotate_left; intro w'; go_simp; with_reducible rfl; rotate_left; exact yB
              refine At (i:=24) (N:=some 40) (v:= ?_) (a':= ?_) #[true,true,true,true,true,true,true,true,true,true,true,true,true,true,true,true,true,true,true,true,true,true,true,true,true,false,false,false,false,false,false,false,false,false,false] rfl rfl (Ai HT_.out zI) (fun _ _ _ h=>h) (Or.inl ⟨by rfl,?_⟩) ?_ ?_; rotate_left; intro w'; go_simp; with_reducible rfl; rotate_left; exact yB
              refine At (i:=25) (N:=some 41) (v:= ?_) (a':= ?_) #[true,true,true,true,true,true,true,true,true,true,true,true,true,true,true,true,true,true,true,true,true,true,true,true,true,true,false,false,false,false,false,false,false,false,false] rfl rfl (Ai HT_.out zI) (fun _ _ _ h=>h) (Or.inl ⟨by rfl,?_⟩) ?_ ?_; rotate_left; intro w'; go_simp; with_reducible rfl; rotate_left; exact yB
              refine At (i:=26) (N:=some 42) (v:= ?_) (a':= ?_) #[true,true,true,true,true,true,true,true,true,true,true,true,true,true,true,true,true,true,true,true,true,true,true,true,true,true,true,false,false,false,false,false,false,false,false] rfl rfl (Ai HT_.out zI) (fun _ _ _ h=>h) (Or.inl ⟨by rfl,?_⟩) ?_ ?_; rotate_left; intro w'; go_simp; with_reducible rfl; rotate_left; exact yB
              refine At (i:=27) (N:=some 43) (v:= ?_) (a':= ?_) #[true,true,true,true,true,true,true,true,true,true,true,true,true,true,true,true,true,true,true,true,true,true,true,true,true,true,true,true,false,false,false,false,false,false,false] rfl rfl (Ai HT_.out zI) (fun _ _ _ h=>h) (Or.inl ⟨by rfl,?_⟩) ?_ ?_; rotate_left; intro w'; go_simp; with_reducible rfl; rotate_left; exact yB
              refine At (i:=30) (N:=some 46) (v:= ?_) (a':= ?_) #[true,true,true,true,true,true,true,true,true,true,true,true,true,true,true,true,true,true,true,true,true,true,true,true,true,true,true,true,false,false,true,false,false,false,false] rfl rfl (Ai HT_.out zI) (fun _ _ _ h=>h) (Or.inl ⟨by rfl,?_⟩) ?_ ?_; rotate_left; intro w'; go_simp; with_reducible rfl; rotate_left; exact yB
              refine At (i:=31) (N:=some 47) (v:= ?_) (a':= ?_) #[true,true,true,true,true,true,true,true,true,true,true,true,true,true,true,true,true,true,true,true,true,true,true,true,true,true,true,true,false,false,true,true,false,false,false] rfl rfl (Ai HT_.out zI) (fun _ _ _ h=>h) (Or.inl ⟨by rfl,?_⟩) ?_ ?_; rotate_left; intro w'; go_simp; with_reducible rfl; rotate_left; exact yB
              refine BV (i:=28) (N:=some 44) (v:= ?_) (a':= ?_) #[true,true,true,true,true,true,true,true,true,true,true,true,true,true,true,true,true,true,true,true,true,true,true,true,true,true,true,true,true,false,true,true,false,false,false] rfl rfl (BF HT_.out HW_.out zI) (fun _ _ _ h=>h) (Or.inl ⟨by rfl,?_⟩) hHeld ?_ ?_; rotate_left; rintro w' ⟨s0,s1,s2,s3,s4,s5,s6,s7,s8,s9⟩; go_simp; with_reducible rfl; rotate_left; exact yB
              refine BV (i:=29) (N:=some 45) (v:= ?_) (a':= ?_) #[true,true,true,true,true,true,true,true,true,true,true,true,true,true,true,true,true,true,true,true,true,true,true,true,true,true,true,true,true,true,true,true,false,false,false] rfl rfl (BF HT_.out HW_.out zI) (fun _ _ _ h=>h) (Or.inl ⟨by rfl,?_⟩) hHeld ?_ ?_; rotate_left; rintro w' ⟨s0,s1,s2,s3,s4,s5,s6,s7,s8,s9⟩; go_simp; with_reducible rfl; rotate_left; exact yB
              refine one_ (i:=32) (N:=some 48) #[true,true,true,true,true,true,true,true,true,true,true,true,true,true,true,true,true,true,true,true,true,true,true,true,true,true,true,true,true,true,true,true,true,false,false] rfl rfl (Bv HT_.out zI) zA0 (fun K hK=> ?_)
              refine Cy Try.func30 zI rfl #[.agg #[.int .i64 A8,.slice A0_1 l0_1.length c0_1],.slice (some ad135) l1.length c1,.int .i64 x9_1] (by rfl) rfl rfl zD ?_
              with_reducible refine (BB.calls A8 _ _ l0_1 _ _ l1 x9_1 t140 _ ?side1 ?side2 ?side3 ?side4 A13.out).mono ?_
              (case side1=>repeat (first|exact (Kd.C_below HR0_1.out HB.out)|(with_reducible refine Kd.C_alloc ?_ _)|(with_reducible refine Kd.C_drewN ?_ _)|(with_reducible refine Kd.C_drew ?_)))
              (case side2=>exact HC0_1.out)
              (case side3=>repeat (first|exact (Kd.C_below HR1.out HB.out)|(with_reducible refine Kd.C_alloc ?_ _)|(with_reducible refine Kd.C_drewN ?_ _)|(with_reducible refine Kd.C_drew ?_)))
              (case side4=>exact HC1.out)
              rintro e w17 ⟨rfl,hb⟩
              refine ⟨_,rfl,?_⟩
              have n0_:=yA (AP (g:=gb134) (o:= .cells #[.int .i64 A8,.slice A0_1 l0_1.length c0_1] 34 (0,0)) (by (with_reducible repeat (first|refine AF ?_ _|refine AH ?_|refine AG ?_ _)); exact BK134.out) hb)
              have n1_:=yA (AO zD6 hb)
              clear BK134
              clear HB
              have BK134:=n0_
              have HB:=n1_
              clear n0_ n1_
              (try clear hb)
              (try clear hb2)
              (try clear hk)
              (try clear hi)
              refine hK.out _ _ ⟨(AK BK134.out 0).trans rfl,(AK BK134.out 1).trans rfl,(yC HB.out hw135_0),(yC HB.out hw135_1),(yC HB.out hw136_0),(yC HB.out hw136_1),(yC HB.out hw137_0),(yC HB.out hw137_1),(yC HB.out hw139_0),(yC HB.out hw139_1)⟩ (fun hHeld=> ?_)
              clear hK K
              refine By (a':= ?_) ?_ ?_; rotate_left; show Act.put _ (some 48) _=_; exact yB
              refine At (i:=33) (N:=some 49) (v:= ?_) (a':= ?_) #[true,true,true,true,true,true,true,true,true,true,true,true,true,true,true,true,true,true,true,true,true,true,true,true,true,true,true,true,true,true,true,true,true,true,false] rfl rfl (Ai HT_.out zI) (fun _ _ _ h=>h) (Or.inl ⟨by rfl,?_⟩) ?_ ?_; rotate_left; intro w'; go_simp; with_reducible rfl; rotate_left; exact yB
              refine At (i:=34) (N:=some 50) (v:= ?_) (a':= ?_) #[true,true,true,true,true,true,true,true,true,true,true,true,true,true,true,true,true,true,true,true,true,true,true,true,true,true,true,true,true,true,true,true,true,true,true] rfl rfl (Ai HT_.out zI) (fun _ _ _ h=>h) (Or.inl ⟨by rfl,?_⟩) ?_ ?_; rotate_left; intro w'; go_simp; with_reducible rfl; rotate_left; exact yB
              refine CS (CC HT_.out zI) ?_
              try go_wp2
              go_ret
              exact ⟨by first|rfl|(simp [AY,AX]<;>rfl)|(simp [*,AY,AX]<;>rfl),by repeat (first|(with_reducible first|exact HB.out|apply AE|apply AC|apply AD|refine AI ?_ GE134.out)|exact HB.out)⟩
             ·rw [if_neg c14] at H
              have c14b0:decide (((Au l1 x13_2).f1)<t140)=false:=decide_eq_false c14
              clear c14
              have H':=yA H
              clear H
              try go_wp2
              have n0_:=yA (AH BK134.out)
              have n1_:=yA (AD HB.out)
              clear BK134
              clear HB
              have BK134:=n0_
              have HB:=n1_
              clear n0_ n1_
              have p135:0≤(x9_1:Int):=yD
              have q135:x9_1<(l1.length:Int):=yD
              obtain ⟨ad135,e135,hx135_0,hx135_1⟩:=Bp HR1.out x9_1 p135 q135
              have hw135_1:=hx135_1
              have hw135_0:=hx135_0
              cases e135
              replace hx135_0:=yC HB.out hx135_0
              replace hx135_1:=yC HB.out hx135_1
              replace p135:=eq_true p135
              replace q135:=eq_true q135
              have p136:0≤(x13_2:Int):=yD
              have q136:x13_2<(l1.length:Int):=yD
              obtain ⟨ad136,e136,hx136_0,hx136_1⟩:=Bp HR1.out x13_2 p136 q136
              have hw136_1:=hx136_1
              have hw136_0:=hx136_0
              obtain rfl:ad135=ad136:=(by injection e136)
              replace hx136_0:=yC HB.out hx136_0
              replace hx136_1:=yC HB.out hx136_1
              replace p136:=eq_true p136
              replace q136:=eq_true q136
              have p137:0≤(x9_1:Int):=yD
              have q137:x9_1<(l1.length:Int):=yD
              obtain ⟨ad137,e137,hx137_0,hx137_1⟩:=Bp HR1.out x9_1 p137 q137
              have hw137_1:=hx137_1
              have hw137_0:=hx137_0
              obtain rfl:ad135=ad137:=(by injection e137)
              replace hx137_0:=yC HB.out hx137_0
              replace hx137_1:=yC HB.out hx137_1
              replace p137:=eq_true p137
              replace q137:=eq_true q137
              have p139:0≤(x13_2:Int):=yD
              have q139:x13_2<(l1.length:Int):=yD
              obtain ⟨ad139,e139,hx139_0,hx139_1⟩:=Bp HR1.out x13_2 p139 q139
              have hw139_1:=hx139_1
              have hw139_0:=hx139_0
              obtain rfl:ad135=ad139:=(by injection e139)
              replace hx139_0:=yC HB.out hx139_0
              replace hx139_1:=yC HB.out hx139_1
              replace p139:=eq_true p139
              replace q139:=eq_true q139
              refine C8 (n:=35) (S:=fun w'=>w'.cell? ⟨gb134,0,none⟩=some (.int .i64 A8)∧w'.cell? ⟨gb134,1,none⟩=some (.slice A0_1 l0_1.length c0_1)∧w'.cell? (ad135.add ((x9_1).toNat*2))=some (.int .i64 ((Au l1 x9_1).f0))∧w'.cell? ⟨(ad135.add ((x9_1).toNat*2)).block,(ad135.add ((x9_1).toNat*2)).off+1,none⟩=some (.int .i64 ((Au l1 x9_1).f1))∧w'.cell? (ad135.add ((x13_2).toNat*2))=some (.int .i64 ((Au l1 x13_2).f0))∧w'.cell? ⟨(ad135.add ((x13_2).toNat*2)).block,(ad135.add ((x13_2).toNat*2)).off+1,none⟩=some (.int .i64 ((Au l1 x13_2).f1))∧w'.cell? (ad135.add ((x9_1).toNat*2))=some (.int .i64 ((Au l1 x9_1).f0))∧w'.cell? ⟨(ad135.add ((x9_1).toNat*2)).block,(ad135.add ((x9_1).toNat*2)).off+1,none⟩=some (.int .i64 ((Au l1 x9_1).f1))∧w'.cell? (ad135.add ((x13_2).toNat*2))=some (.int .i64 ((Au l1 x13_2).f0))∧w'.cell? ⟨(ad135.add ((x13_2).toNat*2)).block,(ad135.add ((x13_2).toNat*2)).off+1,none⟩=some (.int .i64 ((Au l1 x13_2).f1))) (ds:=[]) #[false,false,false,false,false,false,false,false,false,false,false,false,false,false,false,false,false,false,false,false,false,false,false,false,false,false,false,false,false,false,false,false,false,false,false] zI rfl rfl ⟨(AK BK134.out 0).trans rfl,(AK BK134.out 1).trans rfl,(yC HB.out hw135_0),(yC HB.out hw135_1),(yC HB.out hw136_0),(yC HB.out hw136_1),(yC HB.out hw137_0),(yC HB.out hw137_1),(yC HB.out hw139_0),(yC HB.out hw139_1)⟩ (fun hHeld=> ?_); refine Bn AW.tab7 AW.bits7 (fun HT_ HW_=> ?_)
              generalize wr.drew=w18 at BK134 HB hx135_0 hx135_1 hx136_0 hx136_1 hx137_0 hx137_1 hx139_0 hx139_1 hHeld ⊢
              refine At (i:=0) (N:=some 16) (v:= ?_) (a':= ?_) #[true,false,false,false,false,false,false,false,false,false,false,false,false,false,false,false,false,false,false,false,false,false,false,false,false,false,false,false,false,false,false,false,false,false,false] rfl rfl (Ai HT_.out zI) (fun _ _ _ h=>h) (Or.inl ⟨by rfl,?_⟩) ?_ ?_; rotate_left; intro w'; go_simp; with_reducible rfl; rotate_left; exact yB
              refine At (i:=1) (N:=some 17) (v:= ?_) (a':= ?_) #[true,true,false,false,false,false,false,false,false,false,false,false,false,false,false,false,false,false,false,false,false,false,false,false,false,false,false,false,false,false,false,false,false,false,false] rfl rfl (Ai HT_.out zI) (fun _ _ _ h=>h) (Or.inl ⟨by rfl,?_⟩) ?_ ?_; rotate_left; intro w'; go_simp; with_reducible rfl; rotate_left; exact yB
              refine At (i:=2) (N:=some 18) (v:= ?_) (a':= ?_) #[true,true,true,false,false,false,false,false,false,false,false,false,false,false,false,false,false,false,false,false,false,false,false,false,false,false,false,false,false,false,false,false,false,false,false] rfl rfl (Ai HT_.out zI) (fun _ _ _ h=>h) (Or.inl ⟨by rfl,?_⟩) ?_ ?_; rotate_left; intro w'; go_simp; with_reducible rfl; rotate_left; exact yB
              refine At (i:=3) (N:=some 19) (v:= ?_) (a':= ?_) #[true,true,true,true,false,false,false,false,false,false,false,false,false,false,false,false,false,false,false,false,false,false,false,false,false,false,false,false,false,false,false,false,false,false,false] rfl rfl (Ai HT_.out zI) (fun _ _ _ h=>h) (Or.inl ⟨by rfl,?_⟩) ?_ ?_; rotate_left; intro w'; go_simp; with_reducible rfl; rotate_left; exact yB
              refine At (i:=5) (N:=some 21) (v:= ?_) (a':= ?_) #[true,true,true,true,false,true,false,false,false,false,false,false,false,false,false,false,false,false,false,false,false,false,false,false,false,false,false,false,false,false,false,false,false,false,false] rfl rfl (Ai HT_.out zI) (fun _ _ _ h=>h) (Or.inl ⟨by rfl,?_⟩) ?_ ?_; rotate_left; intro w'; go_simp; with_reducible rfl; rotate_left; exact yB
              refine At (i:=6) (N:=some 22) (v:= ?_) (a':= ?_) #[true,true,true,true,false,true,true,false,false,false,false,false,false,false,false,false,false,false,false,false,false,false,false,false,false,false,false,false,false,false,false,false,false,false,false] rfl rfl (Ai HT_.out zI) (fun _ _ _ h=>h) (Or.inl ⟨by rfl,?_⟩) ?_ ?_; rotate_left; intro w'; go_simp; with_reducible rfl; rotate_left; exact yB
              refine At (i:=7) (N:=some 23) (v:= ?_) (a':= ?_) #[true,true,true,true,false,true,true,true,false,false,false,false,false,false,false,false,false,false,false,false,false,false,false,false,false,false,false,false,false,false,false,false,false,false,false] rfl rfl (Ai HT_.out zI) (fun _ _ _ h=>h) (Or.inl ⟨by rfl,?_⟩) ?_ ?_; rotate_left; intro w'; go_simp; with_reducible rfl; rotate_left; exact yB
              refine At (i:=8) (N:=some 24) (v:= ?_) (a':= ?_) #[true,true,true,true,false,true,true,true,true,false,false,false,false,false,false,false,false,false,false,false,false,false,false,false,false,false,false,false,false,false,false,false,false,false,false] rfl rfl (Ai HT_.out zI) (fun _ _ _ h=>h) (Or.inl ⟨by rfl,?_⟩) ?_ ?_; rotate_left; intro w'; go_simp; with_reducible rfl; rotate_left; exact yB
              refine BV (i:=4) (N:=some 20) (v:= ?_) (a':= ?_) #[true,true,true,true,true,true,true,true,true,false,false,false,false,false,false,false,false,false,false,false,false,false,false,false,false,false,false,false,false,false,false,false,false,false,false] rfl rfl (BF HT_.out HW_.out zI) (fun _ _ _ h=>h) (Or.inl ⟨by rfl,?_⟩) hHeld ?_ ?_; rotate_left; rintro w' ⟨s0,s1,s2,s3,s4,s5,s6,s7,s8,s9⟩; go_simp; with_reducible rfl; rotate_left; exact yB
              refine BV (i:=9) (N:=some 25) (v:= ?_) (a':= ?_) #[true,true,true,true,true,true,true,true,true,true,false,false,false,false,false,false,false,false,false,false,false,false,false,false,false,false,false,false,false,false,false,false,false,false,false] rfl rfl (BF HT_.out HW_.out zI) (fun _ _ _ h=>h) (Or.inl ⟨by rfl,?_⟩) hHeld ?_ ?_; rotate_left; rintro w' ⟨s0,s1,s2,s3,s4,s5,s6,s7,s8,s9⟩; go_simp; with_reducible rfl; rotate_left; exact yB
              refine At (i:=10) (N:=some 26) (v:= ?_) (a':= ?_) #[true,true,true,true,true,true,true,true,true,true,true,false,false,false,false,false,false,false,false,false,false,false,false,false,false,false,false,false,false,false,false,false,false,false,false] rfl rfl (Ai HT_.out zI) (fun _ _ _ h=>h) (Or.inl ⟨by rfl,?_⟩) ?_ ?_; rotate_left; intro w'; go_simp; with_reducible rfl; rotate_left; exact yB
              refine At (i:=11) (N:=some 27) (v:= ?_) (a':= ?_) #[true,true,true,true,true,true,true,true,true,true,true,true,false,false,false,false,false,false,false,false,false,false,false,false,false,false,false,false,false,false,false,false,false,false,false] rfl rfl (Ai HT_.out zI) (fun _ _ _ h=>h) (Or.inl ⟨by rfl,?_⟩) ?_ ?_; rotate_left; intro w'; go_simp; with_reducible rfl; rotate_left; exact yB
              refine At (i:=12) (N:=some 28) (v:= ?_) (a':= ?_) #[true,true,true,true,true,true,true,true,true,true,true,true,true,false,false,false,false,false,false,false,false,false,false,false,false,false,false,false,false,false,false,false,false,false,false] rfl rfl (Ai HT_.out zI) (fun _ _ _ h=>h) (Or.inl ⟨by rfl,?_⟩) ?_ ?_; rotate_left; intro w'; go_simp; with_reducible rfl; rotate_left; exact yB
              refine At (i:=13) (N:=some 29) (v:= ?_) (a':= ?_) #[true,true,true,true,true,true,true,true,true,true,true,true,true,true,false,false,false,false,false,false,false,false,false,false,false,false,false,false,false,false,false,false,false,false,false] rfl rfl (Ai HT_.out zI) (fun _ _ _ h=>h) (Or.inl ⟨by rfl,?_⟩) ?_ ?_; rotate_left; intro w'; go_simp; with_reducible rfl; rotate_left; exact yB
              refine At (i:=14) (N:=some 30) (v:= ?_) (a':= ?_) #[true,true,true,true,true,true,true,true,true,true,true,true,true,true,true,false,false,false,false,false,false,false,false,false,false,false,false,false,false,false,false,false,false,false,false] rfl rfl (Ai HT_.out zI) (fun _ _ _ h=>h) (Or.inl ⟨by rfl,?_⟩) ?_ ?_; rotate_left; intro w'; go_simp; with_reducible rfl; rotate_left; exact yB
              refine At (i:=15) (N:=some 31) (v:= ?_) (a':= ?_) #[true,true,true,true,true,true,true,true,true,true,true,true,true,true,true,true,false,false,false,false,false,false,false,false,false,false,false,false,false,false,false,false,false,false,false] rfl rfl (Ai HT_.out zI) (fun _ _ _ h=>h) (Or.inl ⟨by rfl,?_⟩) ?_ ?_; rotate_left; intro w'; go_simp; with_reducible rfl; rotate_left; exact yB
              refine At (i:=18) (N:=some 34) (v:= ?_) (a':= ?_) #[true,true,true,true,true,true,true,true,true,true,true,true,true,true,true,true,false,false,true,false,false,false,false,false,false,false,false,false,false,false,false,false,false,false,false] rfl rfl (Ai HT_.out zI) (fun _ _ _ h=>h) (Or.inl ⟨by rfl,?_⟩) ?_ ?_; rotate_left; intro w'; go_simp; with_reducible rfl; rotate_left; exact yB
              refine At (i:=19) (N:=some 35) (v:= ?_) (a':= ?_) #[true,true,true,true,true,true,true,true,true,true,true,true,true,true,true,true,false,false,true,true,false,false,false,false,false,false,false,false,false,false,false,false,false,false,false] rfl rfl (Ai HT_.out zI) (fun _ _ _ h=>h) (Or.inl ⟨by rfl,?_⟩) ?_ ?_; rotate_left; intro w'; go_simp; with_reducible rfl; rotate_left; exact yB
              refine BV (i:=16) (N:=some 32) (v:= ?_) (a':= ?_) #[true,true,true,true,true,true,true,true,true,true,true,true,true,true,true,true,true,false,true,true,false,false,false,false,false,false,false,false,false,false,false,false,false,false,false] rfl rfl (BF HT_.out HW_.out zI) (fun _ _ _ h=>h) (Or.inl ⟨by rfl,?_⟩) hHeld ?_ ?_; rotate_left; rintro w' ⟨s0,s1,s2,s3,s4,s5,s6,s7,s8,s9⟩; go_simp; with_reducible rfl; rotate_left; exact yB
              refine BV (i:=17) (N:=some 33) (v:= ?_) (a':= ?_) #[true,true,true,true,true,true,true,true,true,true,true,true,true,true,true,true,true,true,true,true,false,false,false,false,false,false,false,false,false,false,false,false,false,false,false] rfl rfl (BF HT_.out HW_.out zI) (fun _ _ _ h=>h) (Or.inl ⟨by rfl,?_⟩) hHeld ?_ ?_; rotate_left; rintro w' ⟨s0,s1,s2,s3,s4,s5,s6,s7,s8,s9⟩; go_simp; with_reducible rfl; rotate_left; exact yB
              refine one_ (i:=20) (N:=some 36) #[true,true,true,true,true,true,true,true,true,true,true,true,true,true,true,true,true,true,true,true,true,false,false,false,false,false,false,false,false,false,false,false,false,false,false] rfl rfl (Bv HT_.out zI) zA0 (fun K hK=> ?_)
              refine Cy Try.func30 zI rfl #[.agg #[.int .i64 A8,.slice A0_1 l0_1.length c0_1],.slice (some ad135) l1.length c1,.int .i64 x13_2] (by rfl) rfl rfl zD ?_
              with_reducible refine (BB.calls A8 _ _ l0_1 _ _ l1 x13_2 t138 _ ?side1 ?side2 ?side3 ?side4 A11.out).mono ?_
              (case side1=>repeat (first|exact (Kd.C_below HR0_1.out HB.out)|(with_reducible refine Kd.C_alloc ?_ _)|(with_reducible refine Kd.C_drewN ?_ _)|(with_reducible refine Kd.C_drew ?_)))
              (case side2=>exact HC0_1.out)
              (case side3=>repeat (first|exact (Kd.C_below HR1.out HB.out)|(with_reducible refine Kd.C_alloc ?_ _)|(with_reducible refine Kd.C_drewN ?_ _)|(with_reducible refine Kd.C_drew ?_)))
              (case side4=>exact HC1.out)
              rintro e w19 ⟨rfl,hb⟩
              refine ⟨_,rfl,?_⟩
              have n0_:=yA (AP (g:=gb134) (o:= .cells #[.int .i64 A8,.slice A0_1 l0_1.length c0_1] 34 (0,0)) (by (with_reducible repeat (first|refine AF ?_ _|refine AH ?_|refine AG ?_ _)); exact BK134.out) hb)
              have n1_:=yA (AO zD6 hb)
              clear BK134
              clear HB
              have BK134:=n0_
              have HB:=n1_
              clear n0_ n1_
              (try clear hb)
              (try clear hb2)
              (try clear hk)
              (try clear hi)
              refine hK.out _ _ ⟨(AK BK134.out 0).trans rfl,(AK BK134.out 1).trans rfl,(yC HB.out hw135_0),(yC HB.out hw135_1),(yC HB.out hw136_0),(yC HB.out hw136_1),(yC HB.out hw137_0),(yC HB.out hw137_1),(yC HB.out hw139_0),(yC HB.out hw139_1)⟩ (fun hHeld=> ?_)
              clear hK K
              refine By (a':= ?_) ?_ ?_; rotate_left; show Act.put _ (some 36) _=_; exact yB
              refine At (i:=21) (N:=some 37) (v:= ?_) (a':= ?_) #[true,true,true,true,true,true,true,true,true,true,true,true,true,true,true,true,true,true,true,true,true,true,false,false,false,false,false,false,false,false,false,false,false,false,false] rfl rfl (Ai HT_.out zI) (fun _ _ _ h=>h) (Or.inl ⟨by rfl,?_⟩) ?_ ?_; rotate_left; intro w'; go_simp; with_reducible rfl; rotate_left; exact yB
              refine At (i:=22) (N:=some 38) (v:= ?_) (a':= ?_) #[true,true,true,true,true,true,true,true,true,true,true,true,true,true,true,true,true,true,true,true,true,true,true,false,false,false,false,false,false,false,false,false,false,false,false] rfl rfl (Ai HT_.out zI) (fun _ _ _ h=>h) (Or.inl ⟨by rfl,?_⟩) ?_ ?_; rotate_left; intro w'; go_simp; with_reducible rfl; rotate_left; exact yB
              refine At (i:=23) (N:=some 39) (v:= ?_) (a':= ?_) #[true,true,true,true,true,true,true,true,true,true,true,true,true,true,true,true,true,true,true,true,true,true,true,true,false,false,false,false,false,false,false,false,false,false,false] rfl rfl (Ai HT_.out zI) (fun _ _ _ h=>h) (Or.inl ⟨by rfl,?_⟩) ?_ ?_; rotate_left; intro w'; go_simp; with_reducible rfl; rotate_left; exact yB
              refine At (i:=24) (N:=some 40) (v:= ?_) (a':= ?_) #[true,true,true,true,true,true,true,true,true,true,true,true,true,true,true,true,true,true,true,true,true,true,true,true,true,false,false,false,false,false,false,false,false,false,false] rfl rfl (Ai HT_.out zI) (fun _ _ _ h=>h) (Or.inl ⟨by rfl,?_⟩) ?_ ?_; rotate_left; intro w'; go_simp; with_reducible rfl; rotate_left; exact yB
              refine At (i:=25) (N:=some 41) (v:= ?_) (a':= ?_) #[true,true,true,true,true,true,true,true,true,true,true,true,true,true,true,true,true,true,true,true,true,true,true,true,true,true,false,false,false,false,false,false,false,false,false] rfl rfl (Ai HT_.out zI) (fun _ _ _ h=>h) (Or.inl ⟨by rfl,?_⟩) ?_ ?_; rotate_left; intro w'; go_simp; with_reducible rfl; rotate_left; exact yB
              refine At (i:=26) (N:=some 42) (v:= ?_) (a':= ?_) #[true,true,true,true,true,true,true,true,true,true,true,true,true,true,true,true,true,true,true,true,true,true,true,true,true,true,true,false,false,false,false,false,false,false,false] rfl rfl (Ai HT_.out zI) (fun _ _ _ h=>h) (Or.inl ⟨by rfl,?_⟩) ?_ ?_; rotate_left; intro w'; go_simp; with_reducible rfl; rotate_left; exact yB
              refine At (i:=27) (N:=some 43) (v:= ?_) (a':= ?_) #[true,true,true,true,true,true,true,true,true,true,true,true,true,true,true,true,true,true,true,true,true,true,true,true,true,true,true,true,false,false,false,false,false,false,false] rfl rfl (Ai HT_.out zI) (fun _ _ _ h=>h) (Or.inl ⟨by rfl,?_⟩) ?_ ?_; rotate_left; intro w'; go_simp; with_reducible rfl; rotate_left; exact yB
              refine At (i:=30) (N:=some 46) (v:= ?_) (a':= ?_) #[true,true,true,true,true,true,true,true,true,true,true,true,true,true,true,true,true,true,true,true,true,true,true,true,true,true,true,true,false,false,true,false,false,false,false] rfl rfl (Ai HT_.out zI) (fun _ _ _ h=>h) (Or.inl ⟨by rfl,?_⟩) ?_ ?_; rotate_left; intro w'; go_simp; with_reducible rfl; rotate_left; exact yB
              refine At (i:=31) (N:=some 47) (v:= ?_) (a':= ?_) #[true,true,true,true,true,true,true,true,true,true,true,true,true,true,true,true,true,true,true,true,true,true,true,true,true,true,true,true,false,false,true,true,false,false,false] rfl rfl (Ai HT_.out zI) (fun _ _ _ h=>h) (Or.inl ⟨by rfl,?_⟩) ?_ ?_; rotate_left; intro w'; go_simp; with_reducible rfl; rotate_left; exact yB
              refine BV (i:=28) (N:=some 44) (v:= ?_) (a':= ?_) #[true,true,true,true,true,true,true,true,true,true,true,true,true,true,true,true,true,true,true,true,true,true,true,true,true,true,true,true,true,false,true,true,false,false,false] rfl rfl (BF HT_.out HW_.out zI) (fun _ _ _ h=>h) (Or.inl ⟨by rfl,?_⟩) hHeld ?_ ?_; rotate_left; rintro w' ⟨s0,s1,s2,s3,s4,s5,s6,s7,s8,s9⟩; go_simp; with_reducible rfl; rotate_left; exact yB
              refine BV (i:=29) (N:=some 45) (v:= ?_) (a':= ?_) #[true,true,true,true,true,true,true,true,true,true,true,true,true,true,true,true,true,true,true,true,true,true,true,true,true,true,true,true,true,true,true,true,false,false,false] rfl rfl (BF HT_.out HW_.out zI) (fun _ _ _ h=>h) (Or.inl ⟨by rfl,?_⟩) hHeld ?_ ?_; rotate_left; rintro w' ⟨s0,s1,s2,s3,s4,s5,s6,s7,s8,s9⟩; go_simp; with_reducible rfl; rotate_left; exact yB
              refine one_ (i:=32) (N:=some 48) #[true,true,true,true,true,true,true,true,true,true,true,true,true,true,true,true,true,true,true,true,true,true,true,true,true,true,true,true,true,true,true,true,true,false,false] rfl rfl (Bv HT_.out zI) zA0 (fun K hK=> ?_)
              refine Cy Try.func30 zI rfl #[.agg #[.int .i64 A8,.slice A0_1 l0_1.length c0_1],.slice (some ad135) l1.length c1,.int .i64 x9_1] (by rfl) rfl rfl zD ?_
              with_reducible refine (BB.calls A8 _ _ l0_1 _ _ l1 x9_1 t140 _ ?side1 ?side2 ?side3 ?side4 A13.out).mono ?_
              (case side1=>repeat (first|exact (Kd.C_below HR0_1.out HB.out)|(with_reducible refine Kd.C_alloc ?_ _)|(with_reducible refine Kd.C_drewN ?_ _)|(with_reducible refine Kd.C_drew ?_)))
              (case side2=>exact HC0_1.out)
              (case side3=>repeat (first|exact (Kd.C_below HR1.out HB.out)|(with_reducible refine Kd.C_alloc ?_ _)|(with_reducible refine Kd.C_drewN ?_ _)|(with_reducible refine Kd.C_drew ?_)))
              (case side4=>exact HC1.out)
              rintro e w20 ⟨rfl,hb⟩
              refine ⟨_,rfl,?_⟩
              have n0_:=yA (AP (g:=gb134) (o:= .cells #[.int .i64 A8,.slice A0_1 l0_1.length c0_1] 34 (0,0)) (by (with_reducible repeat (first|refine AF ?_ _|refine AH ?_|refine AG ?_ _)); exact BK134.out) hb)
              have n1_:=yA (AO zD6 hb)
              clear BK134
              clear HB
              have BK134:=n0_
              have HB:=n1_
              clear n0_ n1_
              (try clear hb)
              (try clear hb2)
              (try clear hk)
              (try clear hi)
              refine hK.out _ _ ⟨(AK BK134.out 0).trans rfl,(AK BK134.out 1).trans rfl,(yC HB.out hw135_0),(yC HB.out hw135_1),(yC HB.out hw136_0),(yC HB.out hw136_1),(yC HB.out hw137_0),(yC HB.out hw137_1),(yC HB.out hw139_0),(yC HB.out hw139_1)⟩ (fun hHeld=> ?_)
              clear hK K
              refine By (a':= ?_) ?_ ?_; rotate_left; show Act.put _ (some 48) _=_; exact yB
              refine At (i:=33) (N:=some 49) (v:= ?_) (a':= ?_) #[true,true,true,true,true,true,true,true,true,true,true,true,true,true,true,true,true,true,true,true,true,true,true,true,true,true,true,true,true,true,true,true,true,true,false] rfl rfl (Ai HT_.out zI) (fun _ _ _ h=>h) (Or.inl ⟨by rfl,?_⟩) ?_ ?_; rotate_left; intro w'; go_simp; with_reducible rfl; rotate_left; exact yB
              refine At (i:=34) (N:=some 50) (v:= ?_) (a':= ?_) #[true,true,true,true,true,true,true,true,true,true,true,true,true,true,true,true,true,true,true,true,true,true,true,true,true,true,true,true,true,true,true,true,true,true,true] rfl rfl (Ai HT_.out zI) (fun _ _ _ h=>h) (Or.inl ⟨by rfl,?_⟩) ?_ ?_; rotate_left; intro w'; go_simp; with_reducible rfl; rotate_left; exact yB
              refine CS (CC HT_.out zI) ?_
              try go_wp2
              go_roundg k2
              case measure=>have:=HK1.out; have:=HK2.out; omega
              case rel=>exact ⟨(wrap64 (x13_2+1)),zH,H',⟨by have:=HK1.out; have:=HK2.out; omega⟩,⟨by (with_reducible repeat (first|refine AF ?_ _|refine AH ?_|refine AG ?_ _)); exact BK134.out⟩,⟨by repeat (first|(with_reducible first|exact HB.out|apply AE|apply AC|apply AD|refine AI ?_ GE134.out)|exact HB.out)⟩⟩
            ·rw [if_neg c12] at H
             have c12b0:decide (((Au l1 x9_1).f1)<t138)=false:=decide_eq_false c12
             clear c12
             have H':=yA H
             clear H
             try go_wp2
             have n0_:=yA (AH BK134.out)
             have n1_:=yA (AD HB.out)
             clear BK134
             clear HB
             have BK134:=n0_
             have HB:=n1_
             clear n0_ n1_
             have p135:0≤(x9_1:Int):=yD
             have q135:x9_1<(l1.length:Int):=yD
             obtain ⟨ad135,e135,hx135_0,hx135_1⟩:=Bp HR1.out x9_1 p135 q135
             have hw135_1:=hx135_1
             have hw135_0:=hx135_0
             cases e135
             replace hx135_0:=yC HB.out hx135_0
             replace hx135_1:=yC HB.out hx135_1
             replace p135:=eq_true p135
             replace q135:=eq_true q135
             have p136:0≤(x13_2:Int):=yD
             have q136:x13_2<(l1.length:Int):=yD
             obtain ⟨ad136,e136,hx136_0,hx136_1⟩:=Bp HR1.out x13_2 p136 q136
             have hw136_1:=hx136_1
             have hw136_0:=hx136_0
             obtain rfl:ad135=ad136:=(by injection e136)
             replace hx136_0:=yC HB.out hx136_0
             replace hx136_1:=yC HB.out hx136_1
             replace p136:=eq_true p136
             replace q136:=eq_true q136
             have p137:0≤(x9_1:Int):=yD
             have q137:x9_1<(l1.length:Int):=yD
             obtain ⟨ad137,e137,hx137_0,hx137_1⟩:=Bp HR1.out x9_1 p137 q137
             have hw137_1:=hx137_1
             have hw137_0:=hx137_0
             obtain rfl:ad135=ad137:=(by injection e137)
             replace hx137_0:=yC HB.out hx137_0
             replace hx137_1:=yC HB.out hx137_1
             replace p137:=eq_true p137
             replace q137:=eq_true q137
             refine C8 (n:=35) (S:=fun w'=>w'.cell? ⟨gb134,0,none⟩=some (.int .i64 A8)∧w'.cell? ⟨gb134,1,none⟩=some (.slice A0_1 l0_1.length c0_1)∧w'.cell? (ad135.add ((x9_1).toNat*2))=some (.int .i64 ((Au l1 x9_1).f0))∧w'.cell? ⟨(ad135.add ((x9_1).toNat*2)).block,(ad135.add ((x9_1).toNat*2)).off+1,none⟩=some (.int .i64 ((Au l1 x9_1).f1))∧w'.cell? (ad135.add ((x13_2).toNat*2))=some (.int .i64 ((Au l1 x13_2).f0))∧w'.cell? ⟨(ad135.add ((x13_2).toNat*2)).block,(ad135.add ((x13_2).toNat*2)).off+1,none⟩=some (.int .i64 ((Au l1 x13_2).f1))∧w'.cell? (ad135.add ((x9_1).toNat*2))=some (.int .i64 ((Au l1 x9_1).f0))∧w'.cell? ⟨(ad135.add ((x9_1).toNat*2)).block,(ad135.add ((x9_1).toNat*2)).off+1,none⟩=some (.int .i64 ((Au l1 x9_1).f1))) (ds:=[]) #[false,false,false,false,false,false,false,false,false,false,false,false,false,false,false,false,false,false,false,false,false,false,false,false,false,false,false,false,false,false,false,false,false,false,false] zI rfl rfl ⟨(AK BK134.out 0).trans rfl,(AK BK134.out 1).trans rfl,(yC HB.out hw135_0),(yC HB.out hw135_1),(yC HB.out hw136_0),(yC HB.out hw136_1),(yC HB.out hw137_0),(yC HB.out hw137_1)⟩ (fun hHeld=> ?_); refine Bn AW.tab7 AW.bits7 (fun HT_ HW_=> ?_)
             generalize wr.drew=w21 at BK134 HB hx135_0 hx135_1 hx136_0 hx136_1 hx137_0 hx137_1 hHeld ⊢
             refine At (i:=0) (N:=some 16) (v:= ?_) (a':= ?_) #[true,false,false,false,false,false,false,false,false,false,false,false,false,false,false,false,false,false,false,false,false,false,false,false,false,false,false,false,false,false,false,false,false,false,false] rfl rfl (Ai HT_.out zI) (fun _ _ _ h=>h) (Or.inl ⟨by rfl,?_⟩) ?_ ?_; rotate_left; intro w'; go_simp; with_reducible rfl; rotate_left; exact yB
             refine At (i:=1) (N:=some 17) (v:= ?_) (a':= ?_) #[true,true,false,false,false,false,false,false,false,false,false,false,false,false,false,false,false,false,false,false,false,false,false,false,false,false,false,false,false,false,false,false,false,false,false] rfl rfl (Ai HT_.out zI) (fun _ _ _ h=>h) (Or.inl ⟨by rfl,?_⟩) ?_ ?_; rotate_left; intro w'; go_simp; with_reducible rfl; rotate_left; exact yB
             refine At (i:=2) (N:=some 18) (v:= ?_) (a':= ?_) #[true,true,true,false,false,false,false,false,false,false,false,false,false,false,false,false,false,false,false,false,false,false,false,false,false,false,false,false,false,false,false,false,false,false,false] rfl rfl (Ai HT_.out zI) (fun _ _ _ h=>h) (Or.inl ⟨by rfl,?_⟩) ?_ ?_; rotate_left; intro w'; go_simp; with_reducible rfl; rotate_left; exact yB
             refine At (i:=3) (N:=some 19) (v:= ?_) (a':= ?_) #[true,true,true,true,false,false,false,false,false,false,false,false,false,false,false,false,false,false,false,false,false,false,false,false,false,false,false,false,false,false,false,false,false,false,false] rfl rfl (Ai HT_.out zI) (fun _ _ _ h=>h) (Or.inl ⟨by rfl,?_⟩) ?_ ?_; rotate_left; intro w'; go_simp; with_reducible rfl; rotate_left; exact yB
             refine At (i:=5) (N:=some 21) (v:= ?_) (a':= ?_) #[true,true,true,true,false,true,false,false,false,false,false,false,false,false,false,false,false,false,false,false,false,false,false,false,false,false,false,false,false,false,false,false,false,false,false] rfl rfl (Ai HT_.out zI) (fun _ _ _ h=>h) (Or.inl ⟨by rfl,?_⟩) ?_ ?_; rotate_left; intro w'; go_simp; with_reducible rfl; rotate_left; exact yB
             refine At (i:=6) (N:=some 22) (v:= ?_) (a':= ?_) #[true,true,true,true,false,true,true,false,false,false,false,false,false,false,false,false,false,false,false,false,false,false,false,false,false,false,false,false,false,false,false,false,false,false,false] rfl rfl (Ai HT_.out zI) (fun _ _ _ h=>h) (Or.inl ⟨by rfl,?_⟩) ?_ ?_; rotate_left; intro w'; go_simp; with_reducible rfl; rotate_left; exact yB
             refine At (i:=7) (N:=some 23) (v:= ?_) (a':= ?_) #[true,true,true,true,false,true,true,true,false,false,false,false,false,false,false,false,false,false,false,false,false,false,false,false,false,false,false,false,false,false,false,false,false,false,false] rfl rfl (Ai HT_.out zI) (fun _ _ _ h=>h) (Or.inl ⟨by rfl,?_⟩) ?_ ?_; rotate_left; intro w'; go_simp; with_reducible rfl; rotate_left; exact yB
             refine At (i:=8) (N:=some 24) (v:= ?_) (a':= ?_) #[true,true,true,true,false,true,true,true,true,false,false,false,false,false,false,false,false,false,false,false,false,false,false,false,false,false,false,false,false,false,false,false,false,false,false] rfl rfl (Ai HT_.out zI) (fun _ _ _ h=>h) (Or.inl ⟨by rfl,?_⟩) ?_ ?_; rotate_left; intro w'; go_simp; with_reducible rfl; rotate_left; exact yB
             refine BV (i:=4) (N:=some 20) (v:= ?_) (a':= ?_) #[true,true,true,true,true,true,true,true,true,false,false,false,false,false,false,false,false,false,false,false,false,false,false,false,false,false,false,false,false,false,false,false,false,false,false] rfl rfl (BF HT_.out HW_.out zI) (fun _ _ _ h=>h) (Or.inl ⟨by rfl,?_⟩) hHeld ?_ ?_; rotate_left; rintro w' ⟨s0,s1,s2,s3,s4,s5,s6,s7⟩; go_simp; with_reducible rfl; rotate_left; exact yB
             refine BV (i:=9) (N:=some 25) (v:= ?_) (a':= ?_) #[true,true,true,true,true,true,true,true,true,true,false,false,false,false,false,false,false,false,false,false,false,false,false,false,false,false,false,false,false,false,false,false,false,false,false] rfl rfl (BF HT_.out HW_.out zI) (fun _ _ _ h=>h) (Or.inl ⟨by rfl,?_⟩) hHeld ?_ ?_; rotate_left; rintro w' ⟨s0,s1,s2,s3,s4,s5,s6,s7⟩; go_simp; with_reducible rfl; rotate_left; exact yB
             refine At (i:=10) (N:=some 26) (v:= ?_) (a':= ?_) #[true,true,true,true,true,true,true,true,true,true,true,false,false,false,false,false,false,false,false,false,false,false,false,false,false,false,false,false,false,false,false,false,false,false,false] rfl rfl (Ai HT_.out zI) (fun _ _ _ h=>h) (Or.inl ⟨by rfl,?_⟩) ?_ ?_; rotate_left; intro w'; go_simp; with_reducible rfl; rotate_left; exact yB
             refine At (i:=11) (N:=some 27) (v:= ?_) (a':= ?_) #[true,true,true,true,true,true,true,true,true,true,true,true,false,false,false,false,false,false,false,false,false,false,false,false,false,false,false,false,false,false,false,false,false,false,false] rfl rfl (Ai HT_.out zI) (fun _ _ _ h=>h) (Or.inl ⟨by rfl,?_⟩) ?_ ?_; rotate_left; intro w'; go_simp; with_reducible rfl; rotate_left; exact yB
             refine At (i:=12) (N:=some 28) (v:= ?_) (a':= ?_) #[true,true,true,true,true,true,true,true,true,true,true,true,true,false,false,false,false,false,false,false,false,false,false,false,false,false,false,false,false,false,false,false,false,false,false] rfl rfl (Ai HT_.out zI) (fun _ _ _ h=>h) (Or.inl ⟨by rfl,?_⟩) ?_ ?_; rotate_left; intro w'; go_simp; with_reducible rfl; rotate_left; exact yB
             refine At (i:=13) (N:=some 29) (v:= ?_) (a':= ?_) #[true,true,true,true,true,true,true,true,true,true,true,true,true,true,false,false,false,false,false,false,false,false,false,false,false,false,false,false,false,false,false,false,false,false,false] rfl rfl (Ai HT_.out zI) (fun _ _ _ h=>h) (Or.inl ⟨by rfl,?_⟩) ?_ ?_; rotate_left; intro w'; go_simp; with_reducible rfl; rotate_left; exact yB
             refine At (i:=14) (N:=some 30) (v:= ?_) (a':= ?_) #[true,true,true,true,true,true,true,true,true,true,true,true,true,true,true,false,false,false,false,false,false,false,false,false,false,false,false,false,false,false,false,false,false,false,false] rfl rfl (Ai HT_.out zI) (fun _ _ _ h=>h) (Or.inl ⟨by rfl,?_⟩) ?_ ?_; rotate_left; intro w'; go_simp; with_reducible rfl; rotate_left; exact yB
             refine At (i:=15) (N:=some 31) (v:= ?_) (a':= ?_) #[true,true,true,true,true,true,true,true,true,true,true,true,true,true,true,true,false,false,false,false,false,false,false,false,false,false,false,false,false,false,false,false,false,false,false] rfl rfl (Ai HT_.out zI) (fun _ _ _ h=>h) (Or.inl ⟨by rfl,?_⟩) ?_ ?_; rotate_left; intro w'; go_simp; with_reducible rfl; rotate_left; exact yB
             refine At (i:=18) (N:=some 34) (v:= ?_) (a':= ?_) #[true,true,true,true,true,true,true,true,true,true,true,true,true,true,true,true,false,false,true,false,false,false,false,false,false,false,false,false,false,false,false,false,false,false,false] rfl rfl (Ai HT_.out zI) (fun _ _ _ h=>h) (Or.inl ⟨by rfl,?_⟩) ?_ ?_; rotate_left; intro w'; go_simp; with_reducible rfl; rotate_left; exact yB
             refine At (i:=19) (N:=some 35) (v:= ?_) (a':= ?_) #[true,true,true,true,true,true,true,true,true,true,true,true,true,true,true,true,false,false,true,true,false,false,false,false,false,false,false,false,false,false,false,false,false,false,false] rfl rfl (Ai HT_.out zI) (fun _ _ _ h=>h) (Or.inl ⟨by rfl,?_⟩) ?_ ?_; rotate_left; intro w'; go_simp; with_reducible rfl; rotate_left; exact yB
             refine BV (i:=16) (N:=some 32) (v:= ?_) (a':= ?_) #[true,true,true,true,true,true,true,true,true,true,true,true,true,true,true,true,true,false,true,true,false,false,false,false,false,false,false,false,false,false,false,false,false,false,false] rfl rfl (BF HT_.out HW_.out zI) (fun _ _ _ h=>h) (Or.inl ⟨by rfl,?_⟩) hHeld ?_ ?_; rotate_left; rintro w' ⟨s0,s1,s2,s3,s4,s5,s6,s7⟩; go_simp; with_reducible rfl; rotate_left; exact yB
             refine BV (i:=17) (N:=some 33) (v:= ?_) (a':= ?_) #[true,true,true,true,true,true,true,true,true,true,true,true,true,true,true,true,true,true,true,true,false,false,false,false,false,false,false,false,false,false,false,false,false,false,false] rfl rfl (BF HT_.out HW_.out zI) (fun _ _ _ h=>h) (Or.inl ⟨by rfl,?_⟩) hHeld ?_ ?_; rotate_left; rintro w' ⟨s0,s1,s2,s3,s4,s5,s6,s7⟩; go_simp; with_reducible rfl; rotate_left; exact yB
             refine one_ (i:=20) (N:=some 36) #[true,true,true,true,true,true,true,true,true,true,true,true,true,true,true,true,true,true,true,true,true,false,false,false,false,false,false,false,false,false,false,false,false,false,false] rfl rfl (Bv HT_.out zI) zA0 (fun K hK=> ?_)
             refine Cy Try.func30 zI rfl #[.agg #[.int .i64 A8,.slice A0_1 l0_1.length c0_1],.slice (some ad135) l1.length c1,.int .i64 x13_2] (by rfl) rfl rfl zD ?_
             with_reducible refine (BB.calls A8 _ _ l0_1 _ _ l1 x13_2 t138 _ ?side1 ?side2 ?side3 ?side4 A11.out).mono ?_
             (case side1=>repeat (first|exact (Kd.C_below HR0_1.out HB.out)|(with_reducible refine Kd.C_alloc ?_ _)|(with_reducible refine Kd.C_drewN ?_ _)|(with_reducible refine Kd.C_drew ?_)))
             (case side2=>exact HC0_1.out)
             (case side3=>repeat (first|exact (Kd.C_below HR1.out HB.out)|(with_reducible refine Kd.C_alloc ?_ _)|(with_reducible refine Kd.C_drewN ?_ _)|(with_reducible refine Kd.C_drew ?_)))
             (case side4=>exact HC1.out)
             rintro e w22 ⟨rfl,hb⟩
             refine ⟨_,rfl,?_⟩
             have n0_:=yA (AP (g:=gb134) (o:= .cells #[.int .i64 A8,.slice A0_1 l0_1.length c0_1] 34 (0,0)) (by (with_reducible repeat (first|refine AF ?_ _|refine AH ?_|refine AG ?_ _)); exact BK134.out) hb)
             have n1_:=yA (AO zD6 hb)
             clear BK134
             clear HB
             have BK134:=n0_
             have HB:=n1_
             clear n0_ n1_
             (try clear hb)
             (try clear hb2)
             (try clear hk)
             (try clear hi)
             refine hK.out _ _ ⟨(AK BK134.out 0).trans rfl,(AK BK134.out 1).trans rfl,(yC HB.out hw135_0),(yC HB.out hw135_1),(yC HB.out hw136_0),(yC HB.out hw136_1),(yC HB.out hw137_0),(yC HB.out hw137_1)⟩ (fun hHeld=> ?_)
             clear hK K
             refine By (a':= ?_) ?_ ?_; rotate_left; show Act.put _ (some 36) _=_; exact yB
             refine At (i:=21) (N:=some 37) (v:= ?_) (a':= ?_) #[true,true,true,true,true,true,true,true,true,true,true,true,true,true,true,true,true,true,true,true,true,true,false,false,false,false,false,false,false,false,false,false,false,false,false] rfl rfl (Ai HT_.out zI) (fun _ _ _ h=>h) (Or.inl ⟨by rfl,?_⟩) ?_ ?_; rotate_left; intro w'; go_simp; with_reducible rfl; rotate_left; exact yB
             refine At (i:=22) (N:=some 38) (v:= ?_) (a':= ?_) #[true,true,true,true,true,true,true,true,true,true,true,true,true,true,true,true,true,true,true,true,true,true,true,false,false,false,false,false,false,false,false,false,false,false,false] rfl rfl (Ai HT_.out zI) (fun _ _ _ h=>h) (Or.inl ⟨by rfl,?_⟩) ?_ ?_; rotate_left; intro w'; go_simp; with_reducible rfl; rotate_left; exact yB
             refine At (i:=23) (N:=some 39) (v:= ?_) (a':= ?_) #[true,true,true,true,true,true,true,true,true,true,true,true,true,true,true,true,true,true,true,true,true,true,true,true,false,false,false,false,false,false,false,false,false,false,false] rfl rfl (Ai HT_.out zI) (fun _ _ _ h=>h) (Or.inl ⟨by rfl,?_⟩) ?_ ?_; rotate_left; intro w'; go_simp; with_reducible rfl; rotate_left; exact yB
             refine At (i:=24) (N:=some 40) (v:=undef) (a':= ?_) #[true,true,true,true,true,true,true,true,true,true,true,true,true,true,true,true,true,true,true,true,true,true,true,true,true,false,false,false,false,false,false,false,false,false,false] rfl rfl (Ai HT_.out zI) (fun _ _ _ h=>h) (Or.inr ⟨by rfl,rfl⟩) ?_ ?_
             rotate_left
             ·exact yB
             refine At (i:=25) (N:=some 41) (v:=undef) (a':= ?_) #[true,true,true,true,true,true,true,true,true,true,true,true,true,true,true,true,true,true,true,true,true,true,true,true,true,true,false,false,false,false,false,false,false,false,false] rfl rfl (Ai HT_.out zI) (fun _ _ _ h=>h) (Or.inr ⟨by rfl,rfl⟩) ?_ ?_
             rotate_left
             ·exact yB
             refine At (i:=26) (N:=some 42) (v:=undef) (a':= ?_) #[true,true,true,true,true,true,true,true,true,true,true,true,true,true,true,true,true,true,true,true,true,true,true,true,true,true,true,false,false,false,false,false,false,false,false] rfl rfl (Ai HT_.out zI) (fun _ _ _ h=>h) (Or.inr ⟨by rfl,rfl⟩) ?_ ?_
             rotate_left
             ·exact yB
             refine At (i:=27) (N:=some 43) (v:=undef) (a':= ?_) #[true,true,true,true,true,true,true,true,true,true,true,true,true,true,true,true,true,true,true,true,true,true,true,true,true,true,true,true,false,false,false,false,false,false,false] rfl rfl (Ai HT_.out zI) (fun _ _ _ h=>h) (Or.inr ⟨by rfl,rfl⟩) ?_ ?_
             rotate_left
             ·exact yB
             refine At (i:=28) (N:=some 44) (v:=undef) (a':= ?_) #[true,true,true,true,true,true,true,true,true,true,true,true,true,true,true,true,true,true,true,true,true,true,true,true,true,true,true,true,true,false,false,false,false,false,false] rfl rfl (Ai HT_.out zI) (fun _ _ _ h=>h) (Or.inr ⟨by rfl,rfl⟩) ?_ ?_
             rotate_left
             ·exact yB
             refine At (i:=29) (N:=some 45) (v:=undef) (a':= ?_) #[true,true,true,true,true,true,true,true,true,true,true,true,true,true,true,true,true,true,true,true,true,true,true,true,true,true,true,true,true,true,false,false,false,false,false] rfl rfl (Ai HT_.out zI) (fun _ _ _ h=>h) (Or.inr ⟨by rfl,rfl⟩) ?_ ?_
             rotate_left
             ·exact yB
             refine At (i:=30) (N:=some 46) (v:=undef) (a':= ?_) #[true,true,true,true,true,true,true,true,true,true,true,true,true,true,true,true,true,true,true,true,true,true,true,true,true,true,true,true,true,true,true,false,false,false,false] rfl rfl (Ai HT_.out zI) (fun _ _ _ h=>h) (Or.inr ⟨by rfl,rfl⟩) ?_ ?_
             rotate_left
             ·exact yB
             refine At (i:=31) (N:=some 47) (v:=undef) (a':= ?_) #[true,true,true,true,true,true,true,true,true,true,true,true,true,true,true,true,true,true,true,true,true,true,true,true,true,true,true,true,true,true,true,true,false,false,false] rfl rfl (Ai HT_.out zI) (fun _ _ _ h=>h) (Or.inr ⟨by rfl,rfl⟩) ?_ ?_
             rotate_left
             ·exact yB
             refine At (i:=32) (N:=some 48) (v:=undef) (a':= ?_) #[true,true,true,true,true,true,true,true,true,true,true,true,true,true,true,true,true,true,true,true,true,true,true,true,true,true,true,true,true,true,true,true,true,false,false] rfl rfl (Ai HT_.out zI) (fun _ _ _ h=>h) (Or.inr ⟨by rfl,rfl⟩) ?_ ?_
             rotate_left
             ·exact yB
             refine At (i:=33) (N:=some 49) (v:=undef) (a':= ?_) #[true,true,true,true,true,true,true,true,true,true,true,true,true,true,true,true,true,true,true,true,true,true,true,true,true,true,true,true,true,true,true,true,true,true,false] rfl rfl (Ai HT_.out zI) (fun _ _ _ h=>h) (Or.inr ⟨by rfl,rfl⟩) ?_ ?_
             rotate_left
             ·exact yB
             refine At (i:=34) (N:=some 50) (v:= ?_) (a':= ?_) #[true,true,true,true,true,true,true,true,true,true,true,true,true,true,true,true,true,true,true,true,true,true,true,true,true,true,true,true,true,true,true,true,true,true,true] rfl rfl (Ai HT_.out zI) (fun _ _ _ h=>h) (Or.inl ⟨by rfl,?_⟩) ?_ ?_; rotate_left; intro w'; go_simp; with_reducible rfl; rotate_left; exact yB
             refine CS (CC HT_.out zI) ?_
             try go_wp2
             go_roundg k2
             case measure=>have:=HK1.out; have:=HK2.out; omega
             case rel=>exact ⟨(wrap64 (x13_2+1)),zH,H',⟨by have:=HK1.out; have:=HK2.out; omega⟩,⟨by (with_reducible repeat (first|refine AF ?_ _|refine AH ?_|refine AG ?_ _)); exact BK134.out⟩,⟨by repeat (first|(with_reducible first|exact HB.out|apply AE|apply AC|apply AD|refine AI ?_ GE134.out)|exact HB.out)⟩⟩
           ·rw [if_neg c10] at H
            have c10b0:(((Au l1 x9_1).f0)==((Au l1 x13_2).f0))=false:=beq_eq_false_iff_ne.mpr c10
            have c10b1:(((Au l1 x9_1).f0) !=((Au l1 x13_2).f0))=true:=bne_iff_ne.mpr c10
            have H':=yA H
            clear H
            try go_wp2
            have n0_:=yA (AH BK134.out)
            have n1_:=yA (AD HB.out)
            clear BK134
            clear HB
            have BK134:=n0_
            have HB:=n1_
            clear n0_ n1_
            have p135:0≤(x9_1:Int):=yD
            have q135:x9_1<(l1.length:Int):=yD
            obtain ⟨ad135,e135,hx135_0,hx135_1⟩:=Bp HR1.out x9_1 p135 q135
            have hw135_1:=hx135_1
            have hw135_0:=hx135_0
            cases e135
            replace hx135_0:=yC HB.out hx135_0
            replace hx135_1:=yC HB.out hx135_1
            replace p135:=eq_true p135
            replace q135:=eq_true q135
            have p136:0≤(x13_2:Int):=yD
            have q136:x13_2<(l1.length:Int):=yD
            obtain ⟨ad136,e136,hx136_0,hx136_1⟩:=Bp HR1.out x13_2 p136 q136
            have hw136_1:=hx136_1
            have hw136_0:=hx136_0
            obtain rfl:ad135=ad136:=(by injection e136)
            replace hx136_0:=yC HB.out hx136_0
            replace hx136_1:=yC HB.out hx136_1
            replace p136:=eq_true p136
            replace q136:=eq_true q136
            refine C8 (n:=35) (S:=fun w'=>w'.cell? (ad135.add ((x9_1).toNat*2))=some (.int .i64 ((Au l1 x9_1).f0))∧w'.cell? ⟨(ad135.add ((x9_1).toNat*2)).block,(ad135.add ((x9_1).toNat*2)).off+1,none⟩=some (.int .i64 ((Au l1 x9_1).f1))∧w'.cell? (ad135.add ((x13_2).toNat*2))=some (.int .i64 ((Au l1 x13_2).f0))∧w'.cell? ⟨(ad135.add ((x13_2).toNat*2)).block,(ad135.add ((x13_2).toNat*2)).off+1,none⟩=some (.int .i64 ((Au l1 x13_2).f1))) (ds:=[]) #[false,false,false,false,false,false,false,false,false,false,false,false,false,false,false,false,false,false,false,false,false,false,false,false,false,false,false,false,false,false,false,false,false,false,false] zI rfl rfl ⟨(yC HB.out hw135_0),(yC HB.out hw135_1),(yC HB.out hw136_0),(yC HB.out hw136_1)⟩ (fun hHeld=> ?_); refine Bn AW.tab7 AW.bits7 (fun HT_ HW_=> ?_)
            generalize wr.drew=w23 at BK134 HB hx135_0 hx135_1 hx136_0 hx136_1 hHeld ⊢
            refine At (i:=0) (N:=some 16) (v:= ?_) (a':= ?_) #[true,false,false,false,false,false,false,false,false,false,false,false,false,false,false,false,false,false,false,false,false,false,false,false,false,false,false,false,false,false,false,false,false,false,false] rfl rfl (Ai HT_.out zI) (fun _ _ _ h=>h) (Or.inl ⟨by rfl,?_⟩) ?_ ?_; rotate_left; intro w'; go_simp; with_reducible rfl; rotate_left; exact yB
            refine At (i:=1) (N:=some 17) (v:= ?_) (a':= ?_) #[true,true,false,false,false,false,false,false,false,false,false,false,false,false,false,false,false,false,false,false,false,false,false,false,false,false,false,false,false,false,false,false,false,false,false] rfl rfl (Ai HT_.out zI) (fun _ _ _ h=>h) (Or.inl ⟨by rfl,?_⟩) ?_ ?_; rotate_left; intro w'; go_simp; with_reducible rfl; rotate_left; exact yB
            refine At (i:=2) (N:=some 18) (v:= ?_) (a':= ?_) #[true,true,true,false,false,false,false,false,false,false,false,false,false,false,false,false,false,false,false,false,false,false,false,false,false,false,false,false,false,false,false,false,false,false,false] rfl rfl (Ai HT_.out zI) (fun _ _ _ h=>h) (Or.inl ⟨by rfl,?_⟩) ?_ ?_; rotate_left; intro w'; go_simp; with_reducible rfl; rotate_left; exact yB
            refine At (i:=3) (N:=some 19) (v:= ?_) (a':= ?_) #[true,true,true,true,false,false,false,false,false,false,false,false,false,false,false,false,false,false,false,false,false,false,false,false,false,false,false,false,false,false,false,false,false,false,false] rfl rfl (Ai HT_.out zI) (fun _ _ _ h=>h) (Or.inl ⟨by rfl,?_⟩) ?_ ?_; rotate_left; intro w'; go_simp; with_reducible rfl; rotate_left; exact yB
            refine At (i:=5) (N:=some 21) (v:= ?_) (a':= ?_) #[true,true,true,true,false,true,false,false,false,false,false,false,false,false,false,false,false,false,false,false,false,false,false,false,false,false,false,false,false,false,false,false,false,false,false] rfl rfl (Ai HT_.out zI) (fun _ _ _ h=>h) (Or.inl ⟨by rfl,?_⟩) ?_ ?_; rotate_left; intro w'; go_simp; with_reducible rfl; rotate_left; exact yB
            refine At (i:=6) (N:=some 22) (v:= ?_) (a':= ?_) #[true,true,true,true,false,true,true,false,false,false,false,false,false,false,false,false,false,false,false,false,false,false,false,false,false,false,false,false,false,false,false,false,false,false,false] rfl rfl (Ai HT_.out zI) (fun _ _ _ h=>h) (Or.inl ⟨by rfl,?_⟩) ?_ ?_; rotate_left; intro w'; go_simp; with_reducible rfl; rotate_left; exact yB
            refine At (i:=7) (N:=some 23) (v:= ?_) (a':= ?_) #[true,true,true,true,false,true,true,true,false,false,false,false,false,false,false,false,false,false,false,false,false,false,false,false,false,false,false,false,false,false,false,false,false,false,false] rfl rfl (Ai HT_.out zI) (fun _ _ _ h=>h) (Or.inl ⟨by rfl,?_⟩) ?_ ?_; rotate_left; intro w'; go_simp; with_reducible rfl; rotate_left; exact yB
            refine At (i:=8) (N:=some 24) (v:= ?_) (a':= ?_) #[true,true,true,true,false,true,true,true,true,false,false,false,false,false,false,false,false,false,false,false,false,false,false,false,false,false,false,false,false,false,false,false,false,false,false] rfl rfl (Ai HT_.out zI) (fun _ _ _ h=>h) (Or.inl ⟨by rfl,?_⟩) ?_ ?_; rotate_left; intro w'; go_simp; with_reducible rfl; rotate_left; exact yB
            refine BV (i:=4) (N:=some 20) (v:= ?_) (a':= ?_) #[true,true,true,true,true,true,true,true,true,false,false,false,false,false,false,false,false,false,false,false,false,false,false,false,false,false,false,false,false,false,false,false,false,false,false] rfl rfl (BF HT_.out HW_.out zI) (fun _ _ _ h=>h) (Or.inl ⟨by rfl,?_⟩) hHeld ?_ ?_; rotate_left; rintro w' ⟨s0,s1,s2,s3⟩; go_simp; with_reducible rfl; rotate_left; exact yB
            refine BV (i:=9) (N:=some 25) (v:= ?_) (a':= ?_) #[true,true,true,true,true,true,true,true,true,true,false,false,false,false,false,false,false,false,false,false,false,false,false,false,false,false,false,false,false,false,false,false,false,false,false] rfl rfl (BF HT_.out HW_.out zI) (fun _ _ _ h=>h) (Or.inl ⟨by rfl,?_⟩) hHeld ?_ ?_; rotate_left; rintro w' ⟨s0,s1,s2,s3⟩; go_simp; with_reducible rfl; rotate_left; exact yB
            refine At (i:=10) (N:=some 26) (v:= ?_) (a':= ?_) #[true,true,true,true,true,true,true,true,true,true,true,false,false,false,false,false,false,false,false,false,false,false,false,false,false,false,false,false,false,false,false,false,false,false,false] rfl rfl (Ai HT_.out zI) (fun _ _ _ h=>h) (Or.inl ⟨by rfl,?_⟩) ?_ ?_; rotate_left; intro w'; go_simp; with_reducible rfl; rotate_left; exact yB
            refine At (i:=11) (N:=some 27) (v:= ?_) (a':= ?_) #[true,true,true,true,true,true,true,true,true,true,true,true,false,false,false,false,false,false,false,false,false,false,false,false,false,false,false,false,false,false,false,false,false,false,false] rfl rfl (Ai HT_.out zI) (fun _ _ _ h=>h) (Or.inl ⟨by rfl,?_⟩) ?_ ?_; rotate_left; intro w'; go_simp; with_reducible rfl; rotate_left; exact yB
            refine At (i:=12) (N:=some 28) (v:=undef) (a':= ?_) #[true,true,true,true,true,true,true,true,true,true,true,true,true,false,false,false,false,false,false,false,false,false,false,false,false,false,false,false,false,false,false,false,false,false,false] rfl rfl (Ai HT_.out zI) (fun _ _ _ h=>h) (Or.inr ⟨by rfl,rfl⟩) ?_ ?_
            rotate_left
            ·exact yB
            refine At (i:=13) (N:=some 29) (v:=undef) (a':= ?_) #[true,true,true,true,true,true,true,true,true,true,true,true,true,true,false,false,false,false,false,false,false,false,false,false,false,false,false,false,false,false,false,false,false,false,false] rfl rfl (Ai HT_.out zI) (fun _ _ _ h=>h) (Or.inr ⟨by rfl,rfl⟩) ?_ ?_
            rotate_left
            ·exact yB
            refine At (i:=14) (N:=some 30) (v:=undef) (a':= ?_) #[true,true,true,true,true,true,true,true,true,true,true,true,true,true,true,false,false,false,false,false,false,false,false,false,false,false,false,false,false,false,false,false,false,false,false] rfl rfl (Ai HT_.out zI) (fun _ _ _ h=>h) (Or.inr ⟨by rfl,rfl⟩) ?_ ?_
            rotate_left
            ·exact yB
            refine At (i:=15) (N:=some 31) (v:=undef) (a':= ?_) #[true,true,true,true,true,true,true,true,true,true,true,true,true,true,true,true,false,false,false,false,false,false,false,false,false,false,false,false,false,false,false,false,false,false,false] rfl rfl (Ai HT_.out zI) (fun _ _ _ h=>h) (Or.inr ⟨by rfl,rfl⟩) ?_ ?_
            rotate_left
            ·exact yB
            refine At (i:=16) (N:=some 32) (v:=undef) (a':= ?_) #[true,true,true,true,true,true,true,true,true,true,true,true,true,true,true,true,true,false,false,false,false,false,false,false,false,false,false,false,false,false,false,false,false,false,false] rfl rfl (Ai HT_.out zI) (fun _ _ _ h=>h) (Or.inr ⟨by rfl,rfl⟩) ?_ ?_
            rotate_left
            ·exact yB
            refine At (i:=17) (N:=some 33) (v:=undef) (a':= ?_) #[true,true,true,true,true,true,true,true,true,true,true,true,true,true,true,true,true,true,false,false,false,false,false,false,false,false,false,false,false,false,false,false,false,false,false] rfl rfl (Ai HT_.out zI) (fun _ _ _ h=>h) (Or.inr ⟨by rfl,rfl⟩) ?_ ?_
            rotate_left
            ·exact yB
            refine At (i:=18) (N:=some 34) (v:=undef) (a':= ?_) #[true,true,true,true,true,true,true,true,true,true,true,true,true,true,true,true,true,true,true,false,false,false,false,false,false,false,false,false,false,false,false,false,false,false,false] rfl rfl (Ai HT_.out zI) (fun _ _ _ h=>h) (Or.inr ⟨by rfl,rfl⟩) ?_ ?_
            rotate_left
            ·exact yB
            refine At (i:=19) (N:=some 35) (v:=undef) (a':= ?_) #[true,true,true,true,true,true,true,true,true,true,true,true,true,true,true,true,true,true,true,true,false,false,false,false,false,false,false,false,false,false,false,false,false,false,false] rfl rfl (Ai HT_.out zI) (fun _ _ _ h=>h) (Or.inr ⟨by rfl,rfl⟩) ?_ ?_
            rotate_left
            ·exact yB
            refine At (i:=20) (N:=some 36) (v:=undef) (a':= ?_) #[true,true,true,true,true,true,true,true,true,true,true,true,true,true,true,true,true,true,true,true,true,false,false,false,false,false,false,false,false,false,false,false,false,false,false] rfl rfl (Ai HT_.out zI) (fun _ _ _ h=>h) (Or.inr ⟨by rfl,rfl⟩) ?_ ?_
            rotate_left
            ·exact yB
            refine At (i:=21) (N:=some 37) (v:=undef) (a':= ?_) #[true,true,true,true,true,true,true,true,true,true,true,true,true,true,true,true,true,true,true,true,true,true,false,false,false,false,false,false,false,false,false,false,false,false,false] rfl rfl (Ai HT_.out zI) (fun _ _ _ h=>h) (Or.inr ⟨by rfl,rfl⟩) ?_ ?_
            rotate_left
            ·exact yB
            refine At (i:=22) (N:=some 38) (v:= ?_) (a':= ?_) #[true,true,true,true,true,true,true,true,true,true,true,true,true,true,true,true,true,true,true,true,true,true,true,false,false,false,false,false,false,false,false,false,false,false,false] rfl rfl (Ai HT_.out zI) (fun _ _ _ h=>h) (Or.inl ⟨by rfl,?_⟩) ?_ ?_; rotate_left; intro w'; go_simp; with_reducible rfl; rotate_left; exact yB
            refine At (i:=23) (N:=some 39) (v:= ?_) (a':= ?_) #[true,true,true,true,true,true,true,true,true,true,true,true,true,true,true,true,true,true,true,true,true,true,true,true,false,false,false,false,false,false,false,false,false,false,false] rfl rfl (Ai HT_.out zI) (fun _ _ _ h=>h) (Or.inl ⟨by rfl,?_⟩) ?_ ?_; rotate_left; intro w'; go_simp; with_reducible rfl; rotate_left; exact yB
            refine At (i:=24) (N:=some 40) (v:=undef) (a':= ?_) #[true,true,true,true,true,true,true,true,true,true,true,true,true,true,true,true,true,true,true,true,true,true,true,true,true,false,false,false,false,false,false,false,false,false,false] rfl rfl (Ai HT_.out zI) (fun _ _ _ h=>h) (Or.inr ⟨by rfl,rfl⟩) ?_ ?_
            rotate_left
            ·exact yB
            refine At (i:=25) (N:=some 41) (v:=undef) (a':= ?_) #[true,true,true,true,true,true,true,true,true,true,true,true,true,true,true,true,true,true,true,true,true,true,true,true,true,true,false,false,false,false,false,false,false,false,false] rfl rfl (Ai HT_.out zI) (fun _ _ _ h=>h) (Or.inr ⟨by rfl,rfl⟩) ?_ ?_
            rotate_left
            ·exact yB
            refine At (i:=26) (N:=some 42) (v:=undef) (a':= ?_) #[true,true,true,true,true,true,true,true,true,true,true,true,true,true,true,true,true,true,true,true,true,true,true,true,true,true,true,false,false,false,false,false,false,false,false] rfl rfl (Ai HT_.out zI) (fun _ _ _ h=>h) (Or.inr ⟨by rfl,rfl⟩) ?_ ?_
            rotate_left
            ·exact yB
            refine At (i:=27) (N:=some 43) (v:=undef) (a':= ?_) #[true,true,true,true,true,true,true,true,true,true,true,true,true,true,true,true,true,true,true,true,true,true,true,true,true,true,true,true,false,false,false,false,false,false,false] rfl rfl (Ai HT_.out zI) (fun _ _ _ h=>h) (Or.inr ⟨by rfl,rfl⟩) ?_ ?_
            rotate_left
            ·exact yB
            refine At (i:=28) (N:=some 44) (v:=undef) (a':= ?_) #[true,true,true,true,true,true,true,true,true,true,true,true,true,true,true,true,true,true,true,true,true,true,true,true,true,true,true,true,true,false,false,false,false,false,false] rfl rfl (Ai HT_.out zI) (fun _ _ _ h=>h) (Or.inr ⟨by rfl,rfl⟩) ?_ ?_
            rotate_left
            ·exact yB
            refine At (i:=29) (N:=some 45) (v:=undef) (a':= ?_) #[true,true,true,true,true,true,true,true,true,true,true,true,true,true,true,true,true,true,true,true,true,true,true,true,true,true,true,true,true,true,false,false,false,false,false] rfl rfl (Ai HT_.out zI) (fun _ _ _ h=>h) (Or.inr ⟨by rfl,rfl⟩) ?_ ?_
            rotate_left
            ·exact yB
            refine At (i:=30) (N:=some 46) (v:=undef) (a':= ?_) #[true,true,true,true,true,true,true,true,true,true,true,true,true,true,true,true,true,true,true,true,true,true,true,true,true,true,true,true,true,true,true,false,false,false,false] rfl rfl (Ai HT_.out zI) (fun _ _ _ h=>h) (Or.inr ⟨by rfl,rfl⟩) ?_ ?_
            rotate_left
            ·exact yB
            refine At (i:=31) (N:=some 47) (v:=undef) (a':= ?_) #[true,true,true,true,true,true,true,true,true,true,true,true,true,true,true,true,true,true,true,true,true,true,true,true,true,true,true,true,true,true,true,true,false,false,false] rfl rfl (Ai HT_.out zI) (fun _ _ _ h=>h) (Or.inr ⟨by rfl,rfl⟩) ?_ ?_
            rotate_left
            ·exact yB
            refine At (i:=32) (N:=some 48) (v:=undef) (a':= ?_) #[true,true,true,true,true,true,true,true,true,true,true,true,true,true,true,true,true,true,true,true,true,true,true,true,true,true,true,true,true,true,true,true,true,false,false] rfl rfl (Ai HT_.out zI) (fun _ _ _ h=>h) (Or.inr ⟨by rfl,rfl⟩) ?_ ?_
            rotate_left
            ·exact yB
            refine At (i:=33) (N:=some 49) (v:=undef) (a':= ?_) #[true,true,true,true,true,true,true,true,true,true,true,true,true,true,true,true,true,true,true,true,true,true,true,true,true,true,true,true,true,true,true,true,true,true,false] rfl rfl (Ai HT_.out zI) (fun _ _ _ h=>h) (Or.inr ⟨by rfl,rfl⟩) ?_ ?_
            rotate_left
            ·exact yB
            refine At (i:=34) (N:=some 50) (v:= ?_) (a':= ?_) #[true,true,true,true,true,true,true,true,true,true,true,true,true,true,true,true,true,true,true,true,true,true,true,true,true,true,true,true,true,true,true,true,true,true,true] rfl rfl (Ai HT_.out zI) (fun _ _ _ h=>h) (Or.inl ⟨by rfl,?_⟩) ?_ ?_; rotate_left; intro w'; go_simp; with_reducible rfl; rotate_left; exact yB
            refine CS (CC HT_.out zI) ?_
            try go_wp2
            go_roundg k2
            case measure=>have:=HK1.out; have:=HK2.out; omega
            case rel=>exact ⟨(wrap64 (x13_2+1)),zH,H',⟨by have:=HK1.out; have:=HK2.out; omega⟩,⟨by (with_reducible repeat (first|refine AF ?_ _|refine AH ?_|refine AG ?_ _)); exact BK134.out⟩,⟨by repeat (first|(with_reducible first|exact HB.out|apply AE|apply AC|apply AD|refine AI ?_ GE134.out)|exact HB.out)⟩⟩
          ·rw [if_neg c9] at H
           exact absurd H zA5
         ·rw [if_neg c8] at H
          exact absurd H zA5
        ·rw [if_neg c7] at H
         exact absurd H zA5
       ·rw [if_neg c6] at H
        exact absurd H zA5
      ·rw [if_neg c5] at H
       have c5b0:decide (x13_2<x9_1)=false:=decide_eq_false c5
       clear c5
       have H':=yA H
       clear H
       go_wp2
       go_roundg k2
       case measure=>have:=HK1.out; have:=HK2.out; omega
       case rel=>exact ⟨(wrap64 (x9_1+1)),zH,H',⟨by have:=HK1.out; have:=HK2.out; omega⟩,⟨by (with_reducible repeat (first|refine AF ?_ _|refine AH ?_|refine AG ?_ _)); exact BK134.out⟩,⟨by repeat (first|(with_reducible first|exact HB.out|apply AE|apply AC|apply AD|refine AI ?_ GE134.out)|exact HB.out)⟩⟩
   ·rw [if_neg c4] at H
    have c4b0:decide (x9_1<(l1.length:Int))=false:=decide_eq_false c4
    clear c4
    obtain rfl:=Option.some.inj H
    go_wp2
    go_ret
    exact ⟨by first|rfl|(simp [AY,AX]<;>rfl)|(simp [*,AY,AX]<;>rfl),by repeat (first|(with_reducible first|exact HB.out|apply AE|apply AC|apply AD|refine AI ?_ GE134.out)|exact HB.out)⟩
end Go.Proofs.Ytdadecjefafflaa.PLst
end
section
namespace Go.Proofs.Ytdadecjefafflaa.PLst
set_option maxRecDepth 100000
open Go.RowKit Go.Proofs.YtdadecjefafflaaW.PrintWords Go.Proofs.YtdadecjefafflaaW.PrintLast Go.Proofs.YtdadecjefafflaaW.PrintMore
attribute [local go_sem] Bd Bb Bm Bk BU BT Bc Ba
def PredS (w0:World) (g:Nat) (lb:Array Value) (p:S47→Bool):Prop:=
 ∀(W:World) (x:S47),Below w0.heap.size w0 W→Calls Try.prog g (#[.agg #[.int .i64 x.f0,.int .i64 x.f1]]++lb) W fun e w'=>e= .returned (.bool (p x))∧Below w0.heap.size w0 w'
open Go.Shelf in
theorem ixf_S (w0:World) (g:Nat) (lb:Array Value) (p:S47→Bool) (eg:∀args w,(callFunc g args).run Try.prog w= .ok (.enter g args) w) (hp:PredS w0 g lb p)
  (A:Option Addr) (c:Nat) (l:List S47) (hr:Kd.C k47 w0 A l.length l) (w:World) (hw:Below w0.heap.size w0 w):
  Calls Try.prog 58 #[.slice A l.length c,.func (.func g) #[] lb] w fun e w'=>e= .returned (.int .i64 (ixGo p l 0))∧Below w0.heap.size w0 w':=by
 have HL:=yA hr.2.1
 have HR:=yA hr
 have HW:=yA hw
 have HP:=yA hp
 clear hr hw hp
 go_enter Try.func58,Try.ntmps58
 go_wp2
 go_loopg [5,8] l.length (fun gg v5 v8 w'=>∃n:Nat,v8= .int .i64 (n:Int)∧Aside0 (n≤l.length)∧Aside0 (l.length-n≤gg)∧Aside0 (ixGo p (l.drop n) n=ixGo p l 0)∧Aside0 (Below w0.heap.size w0 w'))
 case atStart=>exact ⟨0,rfl,⟨Nat.zero_le _⟩,⟨by omega⟩,⟨by rw [List.drop_zero]⟩,⟨by repeat (first|exact HW.out|apply AC|apply AD)⟩⟩
 case round=>
  obtain ⟨n,rfl,H1,H2,H3,HB⟩:=hrel
  by_cases c1:n<l.length
  ·have c1b:decide ((n:Int)<(l.length:Int))=true:=decide_eq_true zE
   obtain ⟨ad,e1,hx0,hx1⟩:=Bp HR.out (n:Int) zE zE
   cases e1
   replace hx0:=(HB.out.cell (World.block_lt_of_cell? w0 _ hx0)).trans hx0
   replace hx1:=(HB.out.cell (World.block_lt_of_cell? w0 _ hx1)).trans hx1
   have hq:=HP.out wr (Au l n) HB.out
   have h3:=yA (H3.out.symm.trans (EL p l z47 n c1))
   have hy:l.getD n z47=Au l n:=rfl
   rw [hy] at h3
   clear hy
   simp only [Int.toNat_natCast] at hx0 hx1
   cases c2:p (Au l n) with
   | true=>
    rw [c2] at hq
    go_wp2_with (first|(go_at_fn g; (with_reducible refine hq.mono ?_); rintro e w' ⟨rfl,hb⟩))
    go_ret
    exact ⟨by rw [h3.out,if_pos c2]; rfl,hb⟩
   | false=>
    rw [c2] at hq
    go_wp2_with (first|(go_at_fn g; (with_reducible refine hq.mono ?_); rintro e w' ⟨rfl,hb⟩))
    go_roundg (l.length-(n+1))
    case measure=>have:=H2.out; omega
    case rel=>exact ⟨n+1,by have:=HL.out; rw [show wrap64 ((n:Int)+1)=((n+1:Nat):Int) from by unfold wrap64; omega],⟨by omega⟩,⟨by omega⟩,⟨by rw [h3.out,if_neg (by simp [c2])]⟩,⟨hb⟩⟩
  ·have c1b:decide ((n:Int)<(l.length:Int))=false:=decide_eq_false zE
   have h3:=yA H3.out
   go_wp2
   go_ret
   exact ⟨by rw [←h3.out,List.drop_eq_nil_of_le zE]; rfl,by repeat (first|exact HB.out|apply AC|apply AD)⟩
open Go.Shelf in
theorem ctf_S (w0:World) (g:Nat) (lb:Array Value) (p:S47→Bool) (eg:∀args w,(callFunc g args).run Try.prog w= .ok (.enter g args) w) (hp:PredS w0 g lb p)
  (A:Option Addr) (c:Nat) (l:List S47) (hr:Kd.C k47 w0 A l.length l):
  Calls Try.prog 43 #[.slice A l.length c,.func (.func g) #[] lb] w0 fun e w'=>e= .returned (.bool (l.any p))∧Below w0.heap.size w0 w':=by
 have hq:=fun w (hw:Below w0.heap.size w0 w)=>ixf_S w0 g lb p eg hp A c l hr w hw
 have ha:=yA (Dr p l 0)
 clear hp hr
 go_enter Try.func43,Try.ntmps43
 go_wp2_with (first|(go_at_call 58; (with_reducible refine (hq _ (by repeat (first|exact Below.refl _ _|apply AC|apply AD))).mono ?_); rintro e w' ⟨rfl,hb⟩))
 go_ret
 exact ⟨by rw [←ha.out]; rfl,hb⟩
def Bx (m:Int) (x:S47):Bool:=((decide (x.f0<0)||decide (m≤x.f0))||decide (x.f1<0))||decide (1000000<x.f1)
theorem HF (m:Int) (x:S47) (v1:Value) (g:Nat) (w:World) (hb:w.heap[g]? =some (.cells #[.int .i64 m,v1] 34 (0,0))):
  Calls Try.prog 42 #[.agg #[.int .i64 x.f0,.int .i64 x.f1],.pointer (some ⟨g,0,none⟩)] w fun e w'=>e= .returned (.bool (Bx m x))∧Below w.heap.size w w':=by
 have hc:w.cell? ⟨g,0,none⟩=some (.int .i64 m):=(AK hb 0).trans rfl
 have hf:=AJ hb 0
 have hlt:g<w.heap.size:=B8 hb
 have hne:g≠w.heap.size:=by omega
 clear hb
 unfold Bx
 cases h1:decide (x.f0<0) with
 | true=>
  go_enter Try.func42,Try.ntmps42
  go_wp2
  all_goals (go_ret; exact ⟨by first|rfl|(simp; done)|(simp [*]; done),(Below.refl _ _).alloc (Nat.le_refl _) _⟩)
 | false=>
  cases h2:decide (m≤x.f0) with
  | true=>
   go_enter Try.func42,Try.ntmps42
   go_wp2
   all_goals (go_ret; exact ⟨by first|rfl|(simp; done)|(simp [*]; done),(Below.refl _ _).alloc (Nat.le_refl _) _⟩)
  | false=>
   cases h3:decide (x.f1<0) with
   | true=>
    go_enter Try.func42,Try.ntmps42
    go_wp2
    all_goals (go_ret; exact ⟨by first|rfl|(simp; done)|(simp [*]; done),(Below.refl _ _).alloc (Nat.le_refl _) _⟩)
   | false=>
    go_enter Try.func42,Try.ntmps42
    go_wp2
    all_goals (go_ret; exact ⟨by first|rfl|(simp; done)|(simp [*]; done),(Below.refl _ _).alloc (Nat.le_refl _) _⟩)
def Bz.f (l0:List S47) (a1:Int):Option Bool:=some (l0.any (Bx a1))
open Go.Shelf in
theorem Bz.calls (A0:Option Addr) (c0:Nat) (l0:List S47) (a1:Int) (r:Bool) (w:World) (hr0:Kd.C k47 w A0 l0.length l0) (hc0:l0.length≤c0) (h:Bz.f l0 a1=some r)
  {g:Nat} {v1:Value} (hb:w.heap[g]? =some (.cells #[.int .i64 a1,v1] 34 (0,0))):
  Calls Try.prog 43 #[.slice A0 l0.length c0,.func (.func 42) #[] #[.pointer (some ⟨g,0,none⟩)]] w fun e w'=>e= .returned (.bool r)∧Below w.heap.size w w':=by
 obtain rfl:=Option.some.inj h
 have hp:PredS w 42 #[.pointer (some ⟨g,0,none⟩)] (Bx a1):=fun W x hW=>by
  show Calls Try.prog 42 #[.agg #[.int .i64 x.f0,.int .i64 x.f1],.pointer (some ⟨g,0,none⟩)] W _
  exact (HF a1 x v1 g W (AP hb hW)).mono fun e w' h=>⟨h.1,C5 hW hW.size h.2⟩
 exact ctf_S w 42 _ _ (enters_of Try.func42 zI rfl) hp A0 c0 l0 hr0
def Bj.f (a0:Int) (AA:Int) (l1_1:List (S64)) (l2:List (S47)) (a3:Int):Option (Bool):=(BB.f AA l1_1 l2 a0).bind fun t144=>(if 0≤a3 then (if a3<(l2.length:Int) then (some (decide (t144>((Au l2 a3).f1)))) else (none)) else (none))
def Bj.T1:Bool×List (List Nat×List Nat):=(true,[([],[]),([],[]),([],[]),([0,1,2],[0,1,2]),([],[]),([],[]),([4,5],[4,5]),([6],[6]),([7],[7]),([3,8],[3,8]),([9,3,0,1,2,3,4,5,6,7,8,9],[9])])
def Bj.B1:List Nat:=[0,0,0,7,0,0,48,112,240,511,1023]
theorem Bj.tab1:rtab .any (Cx Try.f46 1)=Bj.T1:=by kernel_rfl
theorem Bj.bits1:C2 Bj.T1.2 Bj.B1=true:=by kernel_rfl
set_option maxHeartbeats 8000000 in
theorem Bj.calls (a0:Int) (AA:Int) (A1_1:Option Addr) (c1_1:Nat) (l1_1:List (S64)) (A2:Option Addr) (c2:Nat) (l2:List (S47)) (a3:Int) (r:Bool) (w:World) (hr1_1:Kd.C k64 w A1_1 l1_1.length l1_1) (hc1_1:l1_1.length≤c1_1) (hr2:Kd.C k47 w A2 l2.length l2) (hc2:l2.length≤c2) (h:Bj.f a0 AA l1_1 l2 a3=some r) {gb141 gb142 gb143:Nat} (hb141:w.heap[gb141]? =some (.cells #[.int .i64 AA,.slice A1_1 l1_1.length c1_1] 34 (0,0))) (hb142:w.heap[gb142]? =some (.cells #[.slice A2 l2.length c2] 37 (0,0))) (hb143:w.heap[gb143]? =some (.cells #[.int .i64 a3] 3 (0,0))):
  Calls Try.prog 46 #[.int .i64 a0,.pointer (some ⟨gb141,0,none⟩),.pointer (some ⟨gb142,0,none⟩),.pointer (some ⟨gb143,0,none⟩)] w fun e w'=>e= .returned (.bool r)∧Below w.heap.size w w':=by
 have hu34:=Try.underlying34
 have HR1_1:=yA hr1_1
 have HC1_1:=yA hc1_1
 clear hr1_1 hc1_1
 have HR2:=yA hr2
 have HC2:=yA hc2
 clear hr2 hc2
 have HB:=yA (Below.refl w.heap.size w)
 have BK141:=yA hb141
 clear hb141
 have BK142:=yA hb142
 clear hb142
 have BK143:=yA hb143
 clear hb143
 have H:((BB.f AA l1_1 l2 a0).bind fun t144=>(if 0≤a3 then (if a3<(l2.length:Int) then (some (decide (t144>((Au l2 a3).f1)))) else (none)) else (none)))=some r:=h
 clear h
 replace H:=Option.bind_eq_some_iff.mp H
 obtain ⟨t144,A50,H⟩:=H
 replace H:(if 0≤a3 then (if a3<(l2.length:Int) then (some (decide (t144>((Au l2 a3).f1)))) else (none)) else (none))=some r:=H
 have A5:=yA A50
 clear A50
 by_cases c6:0≤a3
 ·rw [if_pos c6] at H
  have c6b0:decide (0≤a3)=true:=decide_eq_true c6
  clear c6
  by_cases c7:a3<(l2.length:Int)
  ·rw [if_pos c7] at H
   have c7b0:decide (a3<(l2.length:Int))=true:=decide_eq_true c7
   clear c7
   obtain rfl:=Option.some.inj H
   go_enter Try.func46,Try.ntmps46
   try go_wp2
   have n0_:=yA (AH BK141.out)
   have n1_:=yA (AH BK142.out)
   have n2_:=yA (AH BK143.out)
   have n3_:=yA (AD HB.out)
   clear BK141
   clear BK142
   clear BK143
   clear HB
   have BK141:=n0_
   have BK142:=n1_
   have BK143:=n2_
   have HB:=n3_
   clear n0_ n1_ n2_ n3_
   have p145:0≤(a3:Int):=yD
   have q145:a3<(l2.length:Int):=yD
   obtain ⟨ad145,e145,hx145_0,hx145_1⟩:=Bp HR2.out a3 p145 q145
   have hw145_1:=hx145_1
   have hw145_0:=hx145_0
   cases e145
   replace hx145_0:=yC HB.out hx145_0
   replace hx145_1:=yC HB.out hx145_1
   replace p145:=eq_true p145
   replace q145:=eq_true q145
   refine C8 (n:=11) (S:=fun w'=>w'.cell? ⟨gb141,0,none⟩=some (.int .i64 AA)∧w'.cell? ⟨gb141,1,none⟩=some (.slice A1_1 l1_1.length c1_1)∧w'.cell? ⟨gb142,0,none⟩=some (.slice (some ad145) l2.length c2)∧w'.cell? ⟨gb143,0,none⟩=some (.int .i64 a3)∧w'.cell? (ad145.add ((a3).toNat*2))=some (.int .i64 ((Au l2 a3).f0))∧w'.cell? ⟨(ad145.add ((a3).toNat*2)).block,(ad145.add ((a3).toNat*2)).off+1,none⟩=some (.int .i64 ((Au l2 a3).f1))) (ds:=[]) #[false,false,false,false,false,false,false,false,false,false,false] zI rfl rfl ⟨(AK BK141.out 0).trans rfl,(AK BK141.out 1).trans rfl,(AK BK142.out 0).trans rfl,(AK BK143.out 0).trans rfl,(yC HB.out hw145_0),(yC HB.out hw145_1)⟩ (fun hHeld=> ?_); refine Bn Bj.tab1 Bj.bits1 (fun HT_ HW_=> ?_)
   generalize w.drew=w11 at BK141 BK142 BK143 HB hx145_0 hx145_1 hHeld ⊢
   refine At (i:=2) (N:=some 8) (v:= ?_) (a':= ?_) #[false,false,true,false,false,false,false,false,false,false,false] rfl rfl (Ai HT_.out zI) (fun _ _ _ h=>h) (Or.inl ⟨by rfl,?_⟩) ?_ ?_; rotate_left; intro w'; go_simp; with_reducible rfl; rotate_left; exact yB
   refine BV (i:=0) (N:=some 6) (v:= ?_) (a':= ?_) #[true,false,true,false,false,false,false,false,false,false,false] rfl rfl (BF HT_.out HW_.out zI) (fun _ _ _ h=>h) (Or.inl ⟨by rfl,?_⟩) hHeld ?_ ?_; rotate_left; rintro w' ⟨s0,s1,s2,s3,s4,s5⟩; go_simp; with_reducible rfl; rotate_left; exact yB
   refine BV (i:=1) (N:=some 7) (v:= ?_) (a':= ?_) #[true,true,true,false,false,false,false,false,false,false,false] rfl rfl (BF HT_.out HW_.out zI) (fun _ _ _ h=>h) (Or.inl ⟨by rfl,?_⟩) hHeld ?_ ?_; rotate_left; rintro w' ⟨s0,s1,s2,s3,s4,s5⟩; go_simp; with_reducible rfl; rotate_left; exact yB
   refine BV (i:=4) (N:=some 10) (v:= ?_) (a':= ?_) #[true,true,true,false,true,false,false,false,false,false,false] rfl rfl (BF HT_.out HW_.out zI) (fun _ _ _ h=>h) (Or.inl ⟨by rfl,?_⟩) hHeld ?_ ?_; rotate_left; rintro w' ⟨s0,s1,s2,s3,s4,s5⟩; go_simp; with_reducible rfl; rotate_left; exact yB
   refine BV (i:=5) (N:=some 11) (v:= ?_) (a':= ?_) #[true,true,true,false,true,true,false,false,false,false,false] rfl rfl (BF HT_.out HW_.out zI) (fun _ _ _ h=>h) (Or.inl ⟨by rfl,?_⟩) hHeld ?_ ?_; rotate_left; rintro w' ⟨s0,s1,s2,s3,s4,s5⟩; go_simp; with_reducible rfl; rotate_left; exact yB
   refine At (i:=6) (N:=some 12) (v:= ?_) (a':= ?_) #[true,true,true,false,true,true,true,false,false,false,false] rfl rfl (Ai HT_.out zI) (fun _ _ _ h=>h) (Or.inl ⟨by rfl,?_⟩) ?_ ?_; rotate_left; intro w'; go_simp; with_reducible rfl; rotate_left; exact yB
   refine At (i:=7) (N:=some 13) (v:= ?_) (a':= ?_) #[true,true,true,false,true,true,true,true,false,false,false] rfl rfl (Ai HT_.out zI) (fun _ _ _ h=>h) (Or.inl ⟨by rfl,?_⟩) ?_ ?_; rotate_left; intro w'; go_simp; with_reducible rfl; rotate_left; exact yB
   refine BV (i:=8) (N:=some 14) (v:= ?_) (a':= ?_) #[true,true,true,false,true,true,true,true,true,false,false] rfl rfl (BF HT_.out HW_.out zI) (fun _ _ _ h=>h) (Or.inl ⟨by rfl,?_⟩) hHeld ?_ ?_; rotate_left; rintro w' ⟨s0,s1,s2,s3,s4,s5⟩; go_simp; with_reducible rfl; rotate_left; exact yB
   refine one_ (i:=3) (N:=some 9) #[true,true,true,true,true,true,true,true,true,false,false] rfl rfl (Bv HT_.out zI) zA0 (fun K hK=> ?_)
   refine Cy Try.func30 zI rfl #[.agg #[.int .i64 AA,.slice A1_1 l1_1.length c1_1],.slice (some ad145) l2.length c2,.int .i64 a0] (by rfl) rfl rfl zD ?_
   with_reducible refine (BB.calls AA _ _ l1_1 _ _ l2 a0 t144 _ ?side1 ?side2 ?side3 ?side4 A5.out).mono ?_
   (case side1=>repeat (first|exact (Kd.C_below HR1_1.out HB.out)|(with_reducible refine Kd.C_alloc ?_ _)|(with_reducible refine Kd.C_drewN ?_ _)|(with_reducible refine Kd.C_drew ?_)))
   (case side2=>exact HC1_1.out)
   (case side3=>repeat (first|exact (Kd.C_below HR2.out HB.out)|(with_reducible refine Kd.C_alloc ?_ _)|(with_reducible refine Kd.C_drewN ?_ _)|(with_reducible refine Kd.C_drew ?_)))
   (case side4=>exact HC2.out)
   rintro e w12 ⟨rfl,hb⟩
   refine ⟨_,rfl,?_⟩
   have n0_:=yA (AP (g:=gb141) (o:= .cells #[.int .i64 AA,.slice A1_1 l1_1.length c1_1] 34 (0,0)) (by (with_reducible repeat (first|refine AF ?_ _|refine AH ?_|refine AG ?_ _)); exact BK141.out) hb)
   have n1_:=yA (AP (g:=gb142) (o:= .cells #[.slice (some ad145) l2.length c2] 37 (0,0)) (by (with_reducible repeat (first|refine AF ?_ _|refine AH ?_|refine AG ?_ _)); exact BK142.out) hb)
   have n2_:=yA (AP (g:=gb143) (o:= .cells #[.int .i64 a3] 3 (0,0)) (by (with_reducible repeat (first|refine AF ?_ _|refine AH ?_|refine AG ?_ _)); exact BK143.out) hb)
   have n3_:=yA (AO zB hb)
   clear BK141
   clear BK142
   clear BK143
   clear HB
   have BK141:=n0_
   have BK142:=n1_
   have BK143:=n2_
   have HB:=n3_
   clear n0_ n1_ n2_ n3_
   (try clear hb)
   (try clear hb2)
   (try clear hk)
   (try clear hi)
   refine hK.out _ _ ⟨(AK BK141.out 0).trans rfl,(AK BK141.out 1).trans rfl,(AK BK142.out 0).trans rfl,(AK BK143.out 0).trans rfl,(yC HB.out hw145_0),(yC HB.out hw145_1)⟩ (fun hHeld=> ?_)
   clear hK K
   refine By (a':= ?_) ?_ ?_; rotate_left; show Act.put _ (some 9) _=_; exact yB
   refine At (i:=9) (N:=some 15) (v:= ?_) (a':= ?_) #[true,true,true,true,true,true,true,true,true,true,false] rfl rfl (Ai HT_.out zI) (fun _ _ _ h=>h) (Or.inl ⟨by rfl,?_⟩) ?_ ?_; rotate_left; intro w'; go_simp; with_reducible rfl; rotate_left; exact yB
   refine At (i:=10) (N:=some 5) (v:= ?_) (a':= ?_) #[true,true,true,true,true,true,true,true,true,true,true] rfl rfl (Ai HT_.out zI) (fun _ _ _ h=>h) (Or.inl ⟨by rfl,?_⟩) ?_ ?_; rotate_left; intro w'; go_simp; with_reducible rfl; rotate_left; exact yB
   refine CS (CC HT_.out zI) ?_
   try go_wp2
   go_ret
   exact ⟨by first|rfl|(simp [AY,AX]<;>rfl)|(simp [*,AY,AX]<;>rfl),by repeat (first|(with_reducible first|exact HB.out|apply AE|apply AC|apply AD)|exact HB.out)⟩
  ·rw [if_neg c7] at H
   exact absurd H zA5
 ·rw [if_neg c6] at H
  exact absurd H zA5
def ixO (p:Int→Option Bool):List Int→Nat→Option Int
 |[],_=>some (-1)
 |x::r,i=>(p x).bind fun b=>if b=true then some (i:Int) else ixO p r (i+1)
theorem Gy (p:Int→Option Bool) (l:List Int) (n:Nat) (h:n<l.length):ixO p (l.drop n) n=(p (rd l n)).bind fun b=>if b=true then some (n:Int) else ixO p (l.drop (n+1)) (n+1):=by
 rw [List.drop_eq_getElem_cons h,ixO]
 unfold rd
 rw [List.getD_eq_getElem?_getD,Int.toNat_natCast,List.getElem?_eq_getElem h]; rfl
def anyO (p:Int→Option Bool):List Int→Option Bool
 |[]=>some false
 |x::r=>(p x).bind fun b=>if b=true then some true else anyO p r
theorem Fx (p:Int→Option Bool):∀(l:List Int) (i:Nat) (b:Bool),anyO p l=some b→∃v,ixO p l i=some v∧decide (0≤v)=b
 |[],i,b,h=>⟨-1,rfl,by cases h; rfl⟩
 | x::r,i,b,h=>by
  rw [anyO,Option.bind_eq_some_iff] at h
  obtain ⟨c,h1,h2⟩:=h
  rw [ixO,h1,Option.bind_some]
  cases c with
  |true=>rw [if_pos rfl] at h2 ⊢; cases h2; exact ⟨_,rfl,by simp⟩
  |false=>rw [if_neg zA5] at h2 ⊢; exact Fx p r (i+1) b h2
def PredI (w0:World) (g:Nat) (lb:Array Value) (p:Int→Option Bool):Prop:=
 ∀(W:World) (x:Int) (b:Bool),Below w0.heap.size w0 W→p x=some b→Calls Try.prog g (#[.int .i64 x]++lb) W fun e w'=>e= .returned (.bool b)∧Below w0.heap.size w0 w'
open Go.Shelf in
theorem ixf_I (w0:World) (g:Nat) (lb:Array Value) (p:Int→Option Bool) (eg:∀args w,(callFunc g args).run Try.prog w= .ok (.enter g args) w) (hp:PredI w0 g lb p)
  (A:Option Addr) (c:Nat) (l:List Int) (hr:Kd.C (Kd.int .i64) w0 A l.length l) (r:Int) (h:ixO p l 0=some r) (w:World) (hw:Below w0.heap.size w0 w):
  Calls Try.prog 50 #[.slice A l.length c,.func (.func g) #[] lb] w fun e w'=>e= .returned (.int .i64 r)∧Below w0.heap.size w0 w':=by
 have HL:=yA hr.2.1
 have HR:=yA hr
 have HW:=yA hw
 have HP:=yA hp
 have HH:=yA h
 clear hr hw hp h
 go_enter Try.func50,Try.ntmps50
 go_wp2
 go_loopg [5,8] l.length (fun gg v5 v8 w'=>∃n:Nat,v8= .int .i64 (n:Int)∧Aside0 (n≤l.length)∧Aside0 (l.length-n≤gg)∧Aside0 (ixO p (l.drop n) n=some r)∧Aside0 (Below w0.heap.size w0 w'))
 case atStart=>exact ⟨0,rfl,⟨Nat.zero_le _⟩,⟨by omega⟩,⟨by rw [List.drop_zero]; exact HH.out⟩,⟨by repeat (first|exact HW.out|apply AC|apply AD)⟩⟩
 case round=>
  obtain ⟨n,rfl,H1,H2,H3,HB⟩:=hrel
  clear HH
  by_cases c1:n<l.length
  ·have c1b:decide ((n:Int)<(l.length:Int))=true:=decide_eq_true zE
   obtain ⟨ad,e1,hx0⟩:=Kd.at_int HR.out (n:Int) zE zE
   cases e1
   replace hx0:=(HB.out.cell (World.block_lt_of_cell? w0 _ hx0)).trans hx0
   have h3:=H3.out
   rw [Gy p l n c1,Option.bind_eq_some_iff] at h3
   obtain ⟨b,hb1,hb2⟩:=h3
   have hq:=HP.out wr (rd l n) b HB.out hb1
   have hb2:=yA hb2
   have hb1:=yA hb1
   clear H3
   simp only [Int.toNat_natCast] at hx0
   cases b with
   | true=>
    go_wp2_with (first|(go_at_fn g; (with_reducible refine hq.mono ?_); rintro e w' ⟨rfl,hb⟩))
    go_ret
    exact ⟨by have:=hb2.out; simp at this; subst this; rfl,hb⟩
   | false=>
    go_wp2_with (first|(go_at_fn g; (with_reducible refine hq.mono ?_); rintro e w' ⟨rfl,hb⟩))
    go_roundg (l.length-(n+1))
    case measure=>have:=H2.out; omega
    case rel=>exact ⟨n+1,by have:=HL.out; rw [show wrap64 ((n:Int)+1)=((n+1:Nat):Int) from by unfold wrap64; omega],⟨by omega⟩,⟨by omega⟩,⟨by have:=hb2.out; simpa using this⟩,⟨hb⟩⟩
  ·have c1b:decide ((n:Int)<(l.length:Int))=false:=decide_eq_false zE
   have h3:=yA H3.out
   go_wp2
   go_ret
   exact ⟨by have:=h3.out; rw [List.drop_eq_nil_of_le zE] at this; cases this; rfl,by repeat (first|exact HB.out|apply AC|apply AD)⟩
open Go.Shelf in
theorem ctf_I (w0:World) (g:Nat) (lb:Array Value) (p:Int→Option Bool) (eg:∀args w,(callFunc g args).run Try.prog w= .ok (.enter g args) w) (hp:PredI w0 g lb p)
  (A:Option Addr) (c:Nat) (l:List Int) (hr:Kd.C (Kd.int .i64) w0 A l.length l) (r:Bool) (h:anyO p l=some r) (w:World) (hw:Below w0.heap.size w0 w):
  Calls Try.prog 45 #[.slice A l.length c,.func (.func g) #[] lb] w fun e w'=>e= .returned (.bool r)∧Below w0.heap.size w0 w':=by
 obtain ⟨v,hv,rfl⟩:=Fx p l 0 r h
 have hq:=fun w (hw:Below w0.heap.size w0 w)=>ixf_I w0 g lb p eg hp A c l hr v hv w hw
 have HW:=yA hw
 clear hp hr h hv hw
 go_enter Try.func45,Try.ntmps45
 go_wp2_with (first|(go_at_call 50; (with_reducible refine (hq _ (by repeat (first|exact HW.out|apply AC|apply AD))).mono ?_); rintro e w' ⟨rfl,hb⟩))
 go_ret
 exact ⟨by first|rfl|(simp; done),hb⟩
def CJ.f (l0:List Int) (AA:Int) (l1_1:List (S64)) (l2:List (S47)) (a3:Int):Option Bool:=anyO (fun a=>Bj.f a AA l1_1 l2 a3) l0
open Go.Shelf in
theorem CJ.calls (A0:Option Addr) (c0:Nat) (l0:List Int) (AA:Int) (A1_1:Option Addr) (c1_1:Nat) (l1_1:List (S64)) (A2:Option Addr) (c2:Nat) (l2:List (S47)) (a3:Int) (r:Bool) (w:World) (hr0:Kd.C (Kd.int .i64) w A0 l0.length l0) (hc0:l0.length≤c0) (hr1_1:Kd.C k64 w A1_1 l1_1.length l1_1) (hc1_1:l1_1.length≤c1_1) (hr2:Kd.C k47 w A2 l2.length l2) (hc2:l2.length≤c2) (h:CJ.f l0 AA l1_1 l2 a3=some r) {g1 g2 g3:Nat}
  (hb1:w.heap[g1]? =some (.cells #[.int .i64 AA,.slice A1_1 l1_1.length c1_1] 34 (0,0))) (hb2:w.heap[g2]? =some (.cells #[.slice A2 l2.length c2] 37 (0,0))) (hb3:w.heap[g3]? =some (.cells #[.int .i64 a3] 3 (0,0))):
  Calls Try.prog 45 #[.slice A0 l0.length c0,.func (.func 46) #[] #[.pointer (some ⟨g1,0,none⟩),.pointer (some ⟨g2,0,none⟩),.pointer (some ⟨g3,0,none⟩)]] w fun e w'=>e= .returned (.bool r)∧Below w.heap.size w w':=by
 have hp:PredI w 46 #[.pointer (some ⟨g1,0,none⟩),.pointer (some ⟨g2,0,none⟩),.pointer (some ⟨g3,0,none⟩)] (fun a=>Bj.f a AA l1_1 l2 a3):=fun W x b hW hx=>by
  show Calls Try.prog 46 #[.int .i64 x,.pointer (some ⟨g1,0,none⟩),.pointer (some ⟨g2,0,none⟩),.pointer (some ⟨g3,0,none⟩)] W _
  exact (Bj.calls x AA A1_1 c1_1 l1_1 A2 c2 l2 a3 b W (Kd.C_below hr1_1 hW) hc1_1 (Kd.C_below hr2 hW) hc2 hx (AP hb1 hW) (AP hb2 hW) (AP hb3 hW)).mono fun e w' h=>⟨h.1,C5 hW hW.size h.2⟩
 exact ctf_I w 46 _ _ (enters_of Try.func46 zI rfl) hp A0 c0 l0 hr0 r h w (Below.refl _ _)
mutual
def Ah.j0:Nat→Bool→Int→List (S64)→List (S47)→Option (Int)
 |0,_,_,_,_=>none
 |k+1,x9,x147000,x147001,x148000=>if x9=true then (some 1) else ((Bz.f x148000 x147000).bind fun t149=>(if t149=true then (some 2) else ((AW.f k x147000 x147001 x148000).bind fun t150=>(if t150=true then (some 16) else (Ah.l0 k x147001 (x147001.length:Int) 0 x147000 x147001 x148000)))))
def Ah.l0:Nat→List (S64)→Int→Int→Int→List (S64)→List (S47)→Option (Int)
 |0,_,_,_,_,_,_=>none
 |k+1,x30,x31,x32,x147000,x147001,x148000=>if x32<x31 then (if 0≤x32 then (if x32<(x30.length:Int) then ((CJ.f ((AM x30 x32).f3) x147000 x147001 x148000 x32).bind fun t154=>(if t154=true then (some 8) else (Ah.l0 k x30 x31 (wrap64 (x32+1)) x147000 x147001 x148000))) else (none)) else (none)) else (some 0)
end
def Ah.f (k:Nat) (A8:Int) (l0_1:List (S64)) (l1:List (S47)):Option (Int):=(AN.f k A8 l0_1).bind fun t148=>(if t148=true then (Ah.j0 k ((l1.length:Int) !=(l0_1.length:Int)) A8 l0_1 l1) else (Ah.j0 k true A8 l0_1 l1))
theorem Ah.mono_l:∀k,(∀y0 y1 y2 y3,LeO (Ah.j0 k y0 y1 y2 y3) (Ah.j0 (k+1) y0 y1 y2 y3))∧(∀y0 y1 y2 y3 y4 y5,LeO (Ah.l0 k y0 y1 y2 y3 y4 y5) (Ah.l0 (k+1) y0 y1 y2 y3 y4 y5))
 |0=>⟨fun _ _ _ _ r h=>by simp [Ah.j0] at h,fun _ _ _ _ _ _ r h=>by simp [Ah.l0] at h⟩
 | k +1=>by
  obtain ⟨ih0,ih1⟩:=Ah.mono_l k
  refine ⟨?_,?_⟩
  ·intro y0 y1 y2 y3
   unfold Ah.j0
   repeat' first
   |(with_reducible exact ih0 _ _ _ _)
   |(with_reducible exact ih1 _ _ _ _ _ _)
   |(with_reducible exact AN.mono _ _ _)
   |(with_reducible exact AW.mono _ _ _ _)
   |(with_reducible exact LeO.refl _)
   |(with_reducible exact LeO.none _)
   |(with_reducible refine LeO.ite ?_ ?_)
   |(with_reducible refine LeO.bind ?_ (fun _=> ?_))
   |exact ih0 _ _ _ _
   |exact ih1 _ _ _ _ _ _
   |exact AN.mono _ _ _
   |exact AW.mono _ _ _ _
   |exact LeO.none _
   |refine LeO.ite ?_ ?_
   |refine LeO.bind ?_ (fun _=> ?_)
  ·intro y0 y1 y2 y3 y4 y5
   unfold Ah.l0
   repeat' first
   |(with_reducible exact ih0 _ _ _ _)
   |(with_reducible exact ih1 _ _ _ _ _ _)
   |(with_reducible exact AN.mono _ _ _)
   |(with_reducible exact AW.mono _ _ _ _)
   |(with_reducible exact LeO.refl _)
   |(with_reducible exact LeO.none _)
   |(with_reducible refine LeO.ite ?_ ?_)
   |(with_reducible refine LeO.bind ?_ (fun _=> ?_))
   |exact ih0 _ _ _ _
   |exact ih1 _ _ _ _ _ _
   |exact AN.mono _ _ _
   |exact AW.mono _ _ _ _
   |exact LeO.none _
   |refine LeO.ite ?_ ?_
   |refine LeO.bind ?_ (fun _=> ?_)
theorem Ah.mono:∀a0 a1 a2 k,LeO (Ah.f k a0 a1 a2) (Ah.f (k+1) a0 a1 a2):=by
 intro a0 a1 a2 k
 obtain ⟨ih0,ih1⟩:=Ah.mono_l k
 unfold Ah.f
 repeat' first
  |(with_reducible exact ih0 _ _ _ _)
  |(with_reducible exact ih1 _ _ _ _ _ _)
  |(with_reducible exact AN.mono _ _ _)
  |(with_reducible exact AW.mono _ _ _ _)
  |(with_reducible exact LeO.refl _)
  |(with_reducible exact LeO.none _)
  |(with_reducible refine LeO.ite ?_ ?_)
  |(with_reducible refine LeO.bind ?_ (fun _=> ?_))
  |exact ih0 _ _ _ _
  |exact ih1 _ _ _ _ _ _
  |exact AN.mono _ _ _
  |exact AW.mono _ _ _ _
  |exact LeO.none _
  |refine LeO.ite ?_ ?_
  |refine LeO.bind ?_ (fun _=> ?_)
set_option maxHeartbeats 8000000 in
theorem Ah.calls (k:Nat) (A8:Int) (A0_1:Option Addr) (c0_1:Nat) (l0_1:List (S64)) (A1:Option Addr) (c1:Nat) (l1:List (S47)) (r:Int) (w:World) (hr0_1:Kd.C k64 w A0_1 l0_1.length l0_1) (hc0_1:l0_1.length≤c0_1) (hr1:Kd.C k47 w A1 l1.length l1) (hc1:l1.length≤c1) (h:Ah.f k A8 l0_1 l1=some r):
  Calls Try.prog 28 #[.agg #[.int .i64 A8,.slice A0_1 l0_1.length c0_1],.slice A1 l1.length c1] w fun e w'=>e= .returned (.int .i64 r)∧Below w.heap.size w w':=by
 have hu34:=Try.underlying34
 have hu64:=Try.underlying64
 have HR0_1:=yA hr0_1
 have HC0_1:=yA hc0_1
 clear hr0_1 hc0_1
 have HR1:=yA hr1
 have HC1:=yA hc1
 clear hr1 hc1
 have HB:=yA (Below.refl w.heap.size w)
 have H:((AN.f k A8 l0_1).bind fun t148=>(if t148=true then (Ah.j0 k ((l1.length:Int) !=(l0_1.length:Int)) A8 l0_1 l1) else (Ah.j0 k true A8 l0_1 l1)))=some r:=h
 clear h
 have HC3:=yA H
 clear H
 go_enter Try.func28,Try.ntmps28
 go_upto_region 2 with (first|((with_reducible refine Aq (N:=2) rfl ?_); (try (refine BC (by rfl) ?_; dsimp only)); refine Av ?hg (N:=2) ?hd (cs:= #[.int .i64 A8,.slice A0_1 l0_1.length c0_1]) (t:=34) ?hr ?_; (case hd=>rfl); (case hg=>rfl); (case hr=>first|(go_simp; done)|(go_simp; rfl)); intro gb146 hg w4 hbox hb; have n0_:=yA (AO zB hb); have n1_:=yA (hbox); have n2_:=yA ((by rw [hg]; exact (AQ zB):w.heap.size≤gb146)); have n3_:=yA ((by rw [hg]; exact (AQ zB):w.heap.size≤gb146)); clear HB; have HB:=n0_; have BK146:=n1_; have GW146:=n2_; have GE146:=n3_; clear n0_ n1_ n2_ n3_; clear hb hbox hg)|((with_reducible refine Aq (N:=3) rfl ?_); (try (refine BC (by rfl) ?_; dsimp only)); refine Av ?hg (N:=3) ?hd (cs:= #[.slice A1 l1.length c1]) (t:=37) ?hr ?_; (case hd=>rfl); (case hg=>rfl); (case hr=>first|(go_simp; done)|(go_simp; rfl)); intro gb147 hg w5 hbox hb; have n0_:=yA (AP (g:=gb146) (o:= .cells #[.int .i64 A8,.slice A0_1 l0_1.length c0_1] 34 (0,0)) zN hb); have n1_:=yA (AO (by repeat (first|(with_reducible first|exact HB.out|apply AE|apply AC|apply AD|refine AI ?_ GE146.out)|exact HB.out)) hb); have n2_:=yA (hbox); have n3_:=yA ((by rw [hg]; exact (AQ (by repeat (first|(with_reducible first|exact HB.out|apply AE|apply AC|apply AD|refine AI ?_ GE146.out)|exact HB.out))):w.heap.size≤gb147)); have n4_:=yA ((by rw [hg]; exact (AQ (by repeat (first|(with_reducible first|exact HB.out|apply AE|apply AC|apply AD|refine AI ?_ GE146.out)|exact HB.out))):w.heap.size≤gb147)); have n5_:=yA ((by rw [hg]; exact Nat.ne_of_lt (B8 (g:=gb146) (o:= .cells #[.int .i64 A8,.slice A0_1 l0_1.length c0_1] 34 (0,0)) zN):gb146≠gb147)); have n6_:=yA ((by rw [hg]; exact Nat.ne_of_gt (B8 (g:=gb146) (o:= .cells #[.int .i64 A8,.slice A0_1 l0_1.length c0_1] 34 (0,0)) zN):gb147≠gb146)); clear BK146; clear HB; have BK146:=n0_; have HB:=n1_; have BK147:=n2_; have GW147:=n3_; have GE147:=n4_; have NB146_147:=n5_; have NB147_146:=n6_; clear n0_ n1_ n2_ n3_ n4_ n5_ n6_; clear hb hbox hg))
 (try simp only [Act.put,List.setIfInBounds_toArray,List.set_cons_zero,List.set_cons_succ])
 go_cut [9] (fun v9 wc=>∃(kq:Nat) (x9_2:Bool),v9= .bool x9_2∧Aside0 (Ah.j0 kq x9_2 A8 l0_1 l1=some r)∧Aside0 (kq≤k)∧Aside0 (wc.heap[gb146]? =some (.cells #[.int .i64 A8,(.slice A0_1 l0_1.length c0_1)] 34 (0,0)))∧Aside0 (wc.heap[gb147]? =some (.cells #[(.slice A1 l1.length c1)] 37 (0,0)))∧Aside0 (Below w.heap.size w wc))
 case first=>
  have H:=HC3.out
  clear HC3
  replace H:=Option.bind_eq_some_iff.mp H
  obtain ⟨t148,A60,H⟩:=H
  replace H:(if t148=true then (Ah.j0 k ((l1.length:Int) !=(l0_1.length:Int)) A8 l0_1 l1) else (Ah.j0 k true A8 l0_1 l1))=some r:=H
  have A6:=yA A60
  clear A60
  by_cases c7:t148=true
  ·subst c7
   have H1:(Ah.j0 k ((l1.length:Int) !=(l0_1.length:Int)) A8 l0_1 l1)=some r:=by rw [if_pos rfl] at H; exact H
   clear H
   have H:=H1
   clear H1
   have H':=yA H
   clear H
   have hnb8:=NB146_147.out
   have hnc8:=NB147_146.out
   have hcz9_0:w5.cell? ⟨gb146,0,none⟩=some (.int .i64 A8):=(AK BK146.out 0).trans rfl
   have hcz9_1:w5.cell? ⟨gb146,1,none⟩=some (.slice A0_1 l0_1.length c0_1):=(AK BK146.out 1).trans rfl
   have hfz9_0:=AJ BK146.out 0
   have hfz9_1:=AJ BK146.out 1
   go_wp2_with (first|((with_reducible refine Ae (f:=29) rfl ?_); refine B6 (some 11) rfl rfl Try.func29 zI rfl #[.agg #[.int .i64 A8,.slice A0_1 l0_1.length c0_1]] rfl zD ?_; (with_reducible refine (AN.calls k A8 _ _ l0_1 true _ ?side1 ?side2 A6.out).mono ?_); (case side1=>repeat (first|exact (Kd.C_below HR0_1.out HB.out)|(with_reducible refine Kd.C_alloc ?_ _)|(with_reducible refine Kd.C_drewN ?_ _)|(with_reducible refine Kd.C_drew ?_))); (case side2=>exact HC0_1.out); rintro e w10 ⟨rfl,hb⟩; refine ⟨_,rfl,?_⟩; have n0_:=yA (AP (g:=gb146) (o:= .cells #[.int .i64 A8,.slice A0_1 l0_1.length c0_1] 34 (0,0)) zN hb); have n1_:=yA (AP (g:=gb147) (o:= .cells #[.slice A1 l1.length c1] 37 (0,0)) zY hb); have n2_:=yA (AO zZ hb); clear BK146; clear BK147; clear HB; have BK146:=n0_; have BK147:=n1_; have HB:=n2_; clear n0_ n1_ n2_; (try clear hb); (try clear hb2); (try clear hk); (try clear hi); have hcz11_0:w10.cell? ⟨gb147,0,none⟩=some (.slice A1 l1.length c1):=(AK BK147.out 0).trans rfl; have hfz11_0:=AJ BK147.out 0; have hcz12_0:w10.cell? ⟨gb146,0,none⟩=some (.int .i64 A8):=(AK BK146.out 0).trans rfl; have hcz12_1:w10.cell? ⟨gb146,1,none⟩=some (.slice A0_1 l0_1.length c0_1):=(AK BK146.out 1).trans rfl; have hfz12_0:=AJ BK146.out 0; have hfz12_1:=AJ BK146.out 1))
   go_meet
   case rel=>exact ⟨_,(((l1.length:Int) !=(l0_1.length:Int))),zH,H',⟨by first|omega|exact Nat.le_refl _⟩,⟨by (with_reducible repeat (first|refine AF ?_ _|refine AH ?_|refine AG ?_ _)); exact BK146.out⟩,⟨by (with_reducible repeat (first|refine AF ?_ _|refine AH ?_|refine AG ?_ _)); exact BK147.out⟩,⟨by repeat (first|(with_reducible first|exact HB.out|apply AE|apply AC|apply AD|refine AI ?_ GE146.out|refine AI ?_ GE147.out)|exact HB.out)⟩⟩
  ·replace c7:=Bool.eq_false_iff.mpr c7
   subst c7
   have H1:(Ah.j0 k true A8 l0_1 l1)=some r:=by rw [if_neg (show ¬(false=true) by decide)] at H; exact H
   clear H
   have H:=H1
   clear H1
   have H':=yA H
   clear H
   have hnb13:=NB146_147.out
   have hnc13:=NB147_146.out
   have hcz14_0:w5.cell? ⟨gb146,0,none⟩=some (.int .i64 A8):=(AK BK146.out 0).trans rfl
   have hcz14_1:w5.cell? ⟨gb146,1,none⟩=some (.slice A0_1 l0_1.length c0_1):=(AK BK146.out 1).trans rfl
   have hfz14_0:=AJ BK146.out 0
   have hfz14_1:=AJ BK146.out 1
   go_wp2_with (first|((with_reducible refine Ae (f:=29) rfl ?_); refine B6 (some 11) rfl rfl Try.func29 zI rfl #[.agg #[.int .i64 A8,.slice A0_1 l0_1.length c0_1]] rfl zD ?_; (with_reducible refine (AN.calls k A8 _ _ l0_1 false _ ?side1 ?side2 A6.out).mono ?_); (case side1=>repeat (first|exact (Kd.C_below HR0_1.out HB.out)|(with_reducible refine Kd.C_alloc ?_ _)|(with_reducible refine Kd.C_drewN ?_ _)|(with_reducible refine Kd.C_drew ?_))); (case side2=>exact HC0_1.out); rintro e w15 ⟨rfl,hb⟩; refine ⟨_,rfl,?_⟩; have n0_:=yA (AP (g:=gb146) (o:= .cells #[.int .i64 A8,.slice A0_1 l0_1.length c0_1] 34 (0,0)) zN hb); have n1_:=yA (AP (g:=gb147) (o:= .cells #[.slice A1 l1.length c1] 37 (0,0)) zY hb); have n2_:=yA (AO zZ hb); clear BK146; clear BK147; clear HB; have BK146:=n0_; have BK147:=n1_; have HB:=n2_; clear n0_ n1_ n2_; (try clear hb); (try clear hb2); (try clear hk); (try clear hi)))
   go_meet
   case rel=>exact ⟨_,(true),zH,H',⟨by first|omega|exact Nat.le_refl _⟩,⟨by (with_reducible repeat (first|refine AF ?_ _|refine AH ?_|refine AG ?_ _)); exact BK146.out⟩,⟨by (with_reducible repeat (first|refine AF ?_ _|refine AH ?_|refine AG ?_ _)); exact BK147.out⟩,⟨by repeat (first|(with_reducible first|exact HB.out|apply AE|apply AC|apply AD|refine AI ?_ GE146.out|refine AI ?_ GE147.out)|exact HB.out)⟩⟩
 case rest =>
  clear HC3
  try clear c1
  try clear c2
  try clear p2
  try clear c7
  try clear c8
  try clear c13
  try clear hcz11_0
  try clear hcz12_0
  try clear hcz12_1
  try clear hcz14_0
  try clear hcz14_1
  try clear hcz9_0
  try clear hcz9_1
  try clear hfz11_0
  try clear hfz12_0
  try clear hfz12_1
  try clear hfz14_0
  try clear hfz14_1
  try clear hfz9_0
  try clear hfz9_1
  obtain ⟨kq,x9_2,rfl,HA,HJ2,BK146,BK147,HB⟩:=hcut
  cases kq with
  |zero=>exact absurd HA.out (by simp [Ah.j0])
  | succ kj2=>
   have H:=HA.out
   clear HA
   simp only [Ah.j0] at H
   by_cases c16:x9_2=true
   ·subst c16
    have H1:(some 1)=some r:=by rw [if_pos rfl] at H; exact H
    clear H
    have H:=H1
    clear H1
    obtain rfl:=Option.some.inj H
    go_wp2
    go_ret
    exact ⟨by first|rfl|(simp [AY,AX]<;>rfl)|(simp [*,AY,AX]<;>rfl),by repeat (first|(with_reducible first|exact HB.out|apply AE|apply AC|apply AD|refine AI ?_ GE146.out|refine AI ?_ GE147.out)|exact HB.out)⟩
   ·replace c16 :=Bool.eq_false_iff.mpr c16
    subst c16
    have H1:((Bz.f l1 A8).bind fun t149=>(if t149=true then (some 2) else ((AW.f kj2 A8 l0_1 l1).bind fun t150=>(if t150=true then (some 16) else (Ah.l0 kj2 l0_1 (l0_1.length:Int) 0 A8 l0_1 l1)))))=some r:=by rw [if_neg (show ¬(false=true) by decide)] at H; exact H
    clear H
    have H:=H1
    clear H1
    replace H:=Option.bind_eq_some_iff.mp H
    obtain ⟨t149,A170,H⟩:=H
    replace H:(if t149=true then (some 2) else ((AW.f kj2 A8 l0_1 l1).bind fun t150=>(if t150=true then (some 16) else (Ah.l0 kj2 l0_1 (l0_1.length:Int) 0 A8 l0_1 l1))))=some r:=H
    have A17:=yA A170
    clear A170
    by_cases c18:t149=true
    ·subst c18
     have H1:(some 2)=some r:=by rw [if_pos rfl] at H; exact H
     clear H
     have H:=H1
     clear H1
     obtain rfl:=Option.some.inj H
     have hnb19:=NB147_146.out
     have hnc19:=NB146_147.out
     have hcz20_0:wc.cell? ⟨gb147,0,none⟩=some (.slice A1 l1.length c1):=(AK BK147.out 0).trans rfl
     have hfz20_0:=AJ BK147.out 0
     have hcz21_0:wc.cell? ⟨gb146,0,none⟩=some (.int .i64 A8):=(AK BK146.out 0).trans rfl
     have hcz21_1:wc.cell? ⟨gb146,1,none⟩=some (.slice A0_1 l0_1.length c0_1):=(AK BK146.out 1).trans rfl
     have hfz21_0:=AJ BK146.out 0
     have hfz21_1:=AJ BK146.out 1
     go_wp2_with (first|((with_reducible refine Ae (f:=43) rfl ?_); refine B6 (some 24) rfl rfl Try.func43 zI rfl #[.slice A1 l1.length c1,.func (.func 42) #[] #[.pointer (some ⟨gb146,0,none⟩)]] rfl zD ?_; (with_reducible refine (Bz.calls _ _ l1 A8 true _ ?side1 ?side2 A17.out zN).mono ?_); (case side1=>repeat (first|exact (Kd.C_below HR1.out HB.out)|(with_reducible refine Kd.C_alloc ?_ _)|(with_reducible refine Kd.C_drewN ?_ _)|(with_reducible refine Kd.C_drew ?_))); (case side2=>exact HC1.out); rintro e w22 ⟨rfl,hb⟩; refine ⟨_,rfl,?_⟩; have n0_:=yA (AP (g:=gb146) (o:= .cells #[.int .i64 A8,.slice A0_1 l0_1.length c0_1] 34 (0,0)) zN hb); have n1_:=yA (AP (g:=gb147) (o:= .cells #[.slice A1 l1.length c1] 37 (0,0)) zY hb); have n2_:=yA (AO zZ hb); clear BK146; clear BK147; clear HB; have BK146:=n0_; have BK147:=n1_; have HB:=n2_; clear n0_ n1_ n2_; (try clear hb); (try clear hb2); (try clear hk); (try clear hi)))
     go_ret
     exact ⟨by first|rfl|(simp [AY,AX]<;>rfl)|(simp [*,AY,AX]<;>rfl),by repeat (first|(with_reducible first|exact HB.out|apply AE|apply AC|apply AD|refine AI ?_ GE146.out|refine AI ?_ GE147.out)|exact HB.out)⟩
    ·replace c18 :=Bool.eq_false_iff.mpr c18
     subst c18
     have H1:((AW.f kj2 A8 l0_1 l1).bind fun t150=>(if t150=true then (some 16) else (Ah.l0 kj2 l0_1 (l0_1.length:Int) 0 A8 l0_1 l1)))=some r:=by rw [if_neg (show ¬(false=true) by decide)] at H; exact H
     clear H
     have H:=H1
     clear H1
     replace H:=Option.bind_eq_some_iff.mp H
     obtain ⟨t150,A230,H⟩:=H
     replace H:(if t150=true then (some 16) else (Ah.l0 kj2 l0_1 (l0_1.length:Int) 0 A8 l0_1 l1))=some r:=H
     have A23:=yA A230
     clear A230
     by_cases c24:t150=true
     ·subst c24
      have H1:(some 16)=some r:=by rw [if_pos rfl] at H; exact H
      clear H
      have H:=H1
      clear H1
      obtain rfl:=Option.some.inj H
      have hnb25:=NB147_146.out
      have hnc25:=NB146_147.out
      have hcz26_0:wc.cell? ⟨gb147,0,none⟩=some (.slice A1 l1.length c1):=(AK BK147.out 0).trans rfl
      have hfz26_0:=AJ BK147.out 0
      have hcz27_0:wc.cell? ⟨gb146,0,none⟩=some (.int .i64 A8):=(AK BK146.out 0).trans rfl
      have hcz27_1:wc.cell? ⟨gb146,1,none⟩=some (.slice A0_1 l0_1.length c0_1):=(AK BK146.out 1).trans rfl
      have hfz27_0:=AJ BK146.out 0
      have hfz27_1:=AJ BK146.out 1
      go_wp2_with (first|((with_reducible refine Ae (f:=43) rfl ?_); refine B6 (some 24) rfl rfl Try.func43 zI rfl #[.slice A1 l1.length c1,.func (.func 42) #[] #[.pointer (some ⟨gb146,0,none⟩)]] rfl zD ?_; (with_reducible refine (Bz.calls _ _ l1 A8 false _ ?side1 ?side2 A17.out zN).mono ?_); (case side1=>repeat (first|exact (Kd.C_below HR1.out HB.out)|(with_reducible refine Kd.C_alloc ?_ _)|(with_reducible refine Kd.C_drewN ?_ _)|(with_reducible refine Kd.C_drew ?_))); (case side2=>exact HC1.out); rintro e w28 ⟨rfl,hb⟩; refine ⟨_,rfl,?_⟩; have n0_:=yA (AP (g:=gb146) (o:= .cells #[.int .i64 A8,.slice A0_1 l0_1.length c0_1] 34 (0,0)) zN hb); have n1_:=yA (AP (g:=gb147) (o:= .cells #[.slice A1 l1.length c1] 37 (0,0)) zY hb); have n2_:=yA (AO zZ hb); clear BK146; clear BK147; clear HB; have BK146:=n0_; have BK147:=n1_; have HB:=n2_; clear n0_ n1_ n2_; (try clear hb); (try clear hb2); (try clear hk); (try clear hi); have hcz29_0:w28.cell? ⟨gb146,0,none⟩=some (.int .i64 A8):=(AK BK146.out 0).trans rfl; have hcz29_1:w28.cell? ⟨gb146,1,none⟩=some (.slice A0_1 l0_1.length c0_1):=(AK BK146.out 1).trans rfl; have hfz29_0:=AJ BK146.out 0; have hfz29_1:=AJ BK146.out 1; have hcz30_0:w28.cell? ⟨gb147,0,none⟩=some (.slice A1 l1.length c1):=(AK BK147.out 0).trans rfl; have hfz30_0:=AJ BK147.out 0)|((with_reducible refine Ae (f:=44) rfl ?_); refine B6 (some 28) rfl rfl Try.func44 zI rfl #[.agg #[.int .i64 A8,.slice A0_1 l0_1.length c0_1],.slice A1 l1.length c1] rfl zD ?_; (with_reducible refine (AW.calls kj2 A8 _ _ l0_1 _ _ l1 true _ ?side1 ?side2 ?side3 ?side4 A23.out).mono ?_); (case side1=>repeat (first|exact (Kd.C_below HR0_1.out HB.out)|(with_reducible refine Kd.C_alloc ?_ _)|(with_reducible refine Kd.C_drewN ?_ _)|(with_reducible refine Kd.C_drew ?_))); (case side2=>exact HC0_1.out); (case side3=>repeat (first|exact (Kd.C_below HR1.out HB.out)|(with_reducible refine Kd.C_alloc ?_ _)|(with_reducible refine Kd.C_drewN ?_ _)|(with_reducible refine Kd.C_drew ?_))); (case side4=>exact HC1.out); rintro e w31 ⟨rfl,hb⟩; refine ⟨_,rfl,?_⟩; have n0_:=yA (AP (g:=gb146) (o:= .cells #[.int .i64 A8,.slice A0_1 l0_1.length c0_1] 34 (0,0)) zN hb); have n1_:=yA (AP (g:=gb147) (o:= .cells #[.slice A1 l1.length c1] 37 (0,0)) zY hb); have n2_:=yA (AO zZ hb); clear BK146; clear BK147; clear HB; have BK146:=n0_; have BK147:=n1_; have HB:=n2_; clear n0_ n1_ n2_; (try clear hb); (try clear hb2); (try clear hk); (try clear hi)))
      go_ret
      exact ⟨by first|rfl|(simp [AY,AX]<;>rfl)|(simp [*,AY,AX]<;>rfl),by repeat (first|(with_reducible first|exact HB.out|apply AE|apply AC|apply AD|refine AI ?_ GE146.out|refine AI ?_ GE147.out)|exact HB.out)⟩
     ·replace c24 :=Bool.eq_false_iff.mpr c24
      subst c24
      have H1:(Ah.l0 kj2 l0_1 (l0_1.length:Int) 0 A8 l0_1 l1)=some r:=by rw [if_neg (show ¬(false=true) by decide)] at H; exact H
      clear H
      have H:=H1
      clear H1
      have H':=yA H
      clear H
      have hnb32:=NB147_146.out
      have hnc32:=NB146_147.out
      have hcz33_0:wc.cell? ⟨gb147,0,none⟩=some (.slice A1 l1.length c1):=(AK BK147.out 0).trans rfl
      have hfz33_0:=AJ BK147.out 0
      have hcz34_0:wc.cell? ⟨gb146,0,none⟩=some (.int .i64 A8):=(AK BK146.out 0).trans rfl
      have hcz34_1:wc.cell? ⟨gb146,1,none⟩=some (.slice A0_1 l0_1.length c0_1):=(AK BK146.out 1).trans rfl
      have hfz34_0:=AJ BK146.out 0
      have hfz34_1:=AJ BK146.out 1
      go_wp2_with (first|((with_reducible refine Ae (f:=43) rfl ?_); refine B6 (some 24) rfl rfl Try.func43 zI rfl #[.slice A1 l1.length c1,.func (.func 42) #[] #[.pointer (some ⟨gb146,0,none⟩)]] rfl zD ?_; (with_reducible refine (Bz.calls _ _ l1 A8 false _ ?side1 ?side2 A17.out zN).mono ?_); (case side1=>repeat (first|exact (Kd.C_below HR1.out HB.out)|(with_reducible refine Kd.C_alloc ?_ _)|(with_reducible refine Kd.C_drewN ?_ _)|(with_reducible refine Kd.C_drew ?_))); (case side2=>exact HC1.out); rintro e w35 ⟨rfl,hb⟩; refine ⟨_,rfl,?_⟩; have n0_:=yA (AP (g:=gb146) (o:= .cells #[.int .i64 A8,.slice A0_1 l0_1.length c0_1] 34 (0,0)) zN hb); have n1_:=yA (AP (g:=gb147) (o:= .cells #[.slice A1 l1.length c1] 37 (0,0)) zY hb); have n2_:=yA (AO zZ hb); clear BK146; clear BK147; clear HB; have BK146:=n0_; have BK147:=n1_; have HB:=n2_; clear n0_ n1_ n2_; (try clear hb); (try clear hb2); (try clear hk); (try clear hi); have hcz36_0:w35.cell? ⟨gb146,0,none⟩=some (.int .i64 A8):=(AK BK146.out 0).trans rfl; have hcz36_1:w35.cell? ⟨gb146,1,none⟩=some (.slice A0_1 l0_1.length c0_1):=(AK BK146.out 1).trans rfl; have hfz36_0:=AJ BK146.out 0; have hfz36_1:=AJ BK146.out 1; have hcz37_0:w35.cell? ⟨gb147,0,none⟩=some (.slice A1 l1.length c1):=(AK BK147.out 0).trans rfl; have hfz37_0:=AJ BK147.out 0)|((with_reducible refine Ae (f:=44) rfl ?_); refine B6 (some 28) rfl rfl Try.func44 zI rfl #[.agg #[.int .i64 A8,.slice A0_1 l0_1.length c0_1],.slice A1 l1.length c1] rfl zD ?_; (with_reducible refine (AW.calls kj2 A8 _ _ l0_1 _ _ l1 false _ ?side1 ?side2 ?side3 ?side4 A23.out).mono ?_); (case side1=>repeat (first|exact (Kd.C_below HR0_1.out HB.out)|(with_reducible refine Kd.C_alloc ?_ _)|(with_reducible refine Kd.C_drewN ?_ _)|(with_reducible refine Kd.C_drew ?_))); (case side2=>exact HC0_1.out); (case side3=>repeat (first|exact (Kd.C_below HR1.out HB.out)|(with_reducible refine Kd.C_alloc ?_ _)|(with_reducible refine Kd.C_drewN ?_ _)|(with_reducible refine Kd.C_drew ?_))); (case side4=>exact HC1.out); rintro e w38 ⟨rfl,hb⟩; refine ⟨_,rfl,?_⟩; have n0_:=yA (AP (g:=gb146) (o:= .cells #[.int .i64 A8,.slice A0_1 l0_1.length c0_1] 34 (0,0)) zN hb); have n1_:=yA (AP (g:=gb147) (o:= .cells #[.slice A1 l1.length c1] 37 (0,0)) zY hb); have n2_:=yA (AO zZ hb); clear BK146; clear BK147; clear HB; have BK146:=n0_; have BK147:=n1_; have HB:=n2_; clear n0_ n1_ n2_; (try clear hb); (try clear hb2); (try clear hk); (try clear hi); have hcz39_0:w38.cell? ⟨gb146,0,none⟩=some (.int .i64 A8):=(AK BK146.out 0).trans rfl; have hcz39_1:w38.cell? ⟨gb146,1,none⟩=some (.slice A0_1 l0_1.length c0_1):=(AK BK146.out 1).trans rfl; have hfz39_0:=AJ BK146.out 0; have hfz39_1:=AJ BK146.out 1))
      go_loopg [32] kj2 (fun kq v32 w'=>∃(x32_2:Int),v32= .int .i64 x32_2∧Aside0 (Ah.l0 kq l0_1 (l0_1.length:Int) x32_2 A8 l0_1 l1=some r)∧Aside0 (kq≤kj2)∧Aside0 (w'.heap[gb146]? =some (.cells #[.int .i64 A8,(.slice A0_1 l0_1.length c0_1)] 34 (0,0)))∧Aside0 (w'.heap[gb147]? =some (.cells #[(.slice A1 l1.length c1)] 37 (0,0)))∧Aside0 (Below w.heap.size w w'))
      case atStart=>exact ⟨(0),zH,H',⟨Nat.le_refl _⟩,⟨by (with_reducible repeat (first|refine AF ?_ _|refine AH ?_|refine AG ?_ _)); exact BK146.out⟩,⟨by (with_reducible repeat (first|refine AF ?_ _|refine AH ?_|refine AG ?_ _)); exact BK147.out⟩,⟨by repeat (first|(with_reducible first|exact HB.out|apply AE|apply AC|apply AD|refine AI ?_ GE146.out|refine AI ?_ GE147.out)|exact HB.out)⟩⟩
      case round=>
       clear H'
       try clear c1
       try clear c2
       try clear p2
       try clear c3
       try clear c4
       try clear c7
       try clear c8
       try clear c9
       try clear c13
       try clear c16
       try clear c18
       try clear c19
       try clear c24
       try clear c25
       try clear c28
       try clear c29
       try clear c32
       try clear hcz11_0
       try clear hcz12_0
       try clear hcz12_1
       try clear hcz14_0
       try clear hcz14_1
       try clear hcz20_0
       try clear hcz21_0
       try clear hcz21_1
       try clear hcz26_0
       try clear hcz27_0
       try clear hcz27_1
       try clear hcz29_0
       try clear hcz29_1
       try clear hcz30_0
       try clear hcz33_0
       try clear hcz34_0
       try clear hcz34_1
       try clear hcz36_0
       try clear hcz36_1
       try clear hcz37_0
       try clear hcz39_0
       try clear hcz39_1
       try clear hcz9_0
       try clear hcz9_1
       try clear hfz11_0
       try clear hfz12_0
       try clear hfz12_1
       try clear hfz14_0
       try clear hfz14_1
       try clear hfz20_0
       try clear hfz21_0
       try clear hfz21_1
       try clear hfz26_0
       try clear hfz27_0
       try clear hfz27_1
       try clear hfz29_0
       try clear hfz29_1
       try clear hfz30_0
       try clear hfz33_0
       try clear hfz34_0
       try clear hfz34_1
       try clear hfz36_0
       try clear hfz36_1
       try clear hfz37_0
       try clear hfz39_0
       try clear hfz39_1
       try clear hfz9_0
       try clear hfz9_1
       try clear p2
       obtain ⟨x32_2,rfl,HA,HK2,BK146,BK147,HB⟩:=hrel
       cases gk with
       |zero=>exact absurd HA.out (by simp [Ah.l0])
       | succ k2 =>
        have H:=HA.out
        clear HA
        simp only [Ah.l0] at H
        by_cases c40:x32_2<(l0_1.length:Int)
        ·rw [if_pos c40] at H
         have c40b0:decide (x32_2<(l0_1.length:Int))=true:=decide_eq_true c40
         clear c40
         by_cases c41:0≤x32_2
         ·rw [if_pos c41] at H
          have c41b0:decide (0≤x32_2)=true:=decide_eq_true c41
          clear c41
          by_cases c42:x32_2<(l0_1.length:Int)
          ·rw [if_pos c42] at H
           have c42b0:decide (x32_2<(l0_1.length:Int))=true:=decide_eq_true c42
           clear c42
           replace H:=Option.bind_eq_some_iff.mp H
           obtain ⟨t154,A430,H⟩:=H
           replace H:(if t154=true then (some 8) else (Ah.l0 k2 l0_1 (l0_1.length:Int) (wrap64 (x32_2+1)) A8 l0_1 l1))=some r:=H
           have A43:=yA A430
           clear A430
           by_cases c44:t154=true
           ·subst c44
            have H1:(some 8)=some r:=by rw [if_pos rfl] at H; exact H
            clear H
            have H:=H1
            clear H1
            obtain rfl:=Option.some.inj H
            have p151:0≤(x32_2:Int):=yD
            have q151:x32_2<(l0_1.length:Int):=yD
            obtain ⟨ad151,A151_3,c151_3,e151,hx151_0,hx151_1,hx151_2,hx151_3,hl151_3,hi151_3⟩:=C6 HR0_1.out x32_2 p151 q151
            cases e151
            replace hx151_0:=yC HB.out hx151_0
            replace hx151_1:=yC HB.out hx151_1
            replace hx151_2:=yC HB.out hx151_2
            replace hx151_3:=yC HB.out hx151_3
            have HR151_3:=yA hi151_3
            have HC151_3:=yA hl151_3
            clear hi151_3 hl151_3
            replace p151:=eq_true p151
            replace q151:=eq_true q151
            go_wp2_with (first|((with_reducible refine Aq (N:=6) rfl ?_); (try (refine BC (by rfl) ?_; dsimp only)); refine Av ?hg (N:=6) ?hd (cs:= #[.int .i64 0]) (t:=3) ?hr ?_; (case hd=>rfl); (case hg=>rfl); (case hr=>first|(go_simp; done)|(go_simp; rfl)); intro gb152 hg w45 hbox hb; have n0_:=yA (AP (g:=gb146) (o:= .cells #[.int .i64 A8,.slice (some ad151) l0_1.length c0_1] 34 (0,0)) zN hb); have n1_:=yA (AP (g:=gb147) (o:= .cells #[.slice A1 l1.length c1] 37 (0,0)) zY hb); have n2_:=yA (AO zZ hb); have n3_:=yA (hbox); have n4_:=yA ((by rw [hg]; exact (AQ zZ):w.heap.size≤gb152)); have n5_:=yA ((by rw [hg]; exact (AQ zZ):w.heap.size≤gb152)); have n6_:=yA ((by rw [hg]; exact Nat.ne_of_lt (B8 (g:=gb146) (o:= .cells #[.int .i64 A8,.slice (some ad151) l0_1.length c0_1] 34 (0,0)) zN):gb146≠gb152)); have n7_:=yA ((by rw [hg]; exact Nat.ne_of_gt (B8 (g:=gb146) (o:= .cells #[.int .i64 A8,.slice (some ad151) l0_1.length c0_1] 34 (0,0)) zN):gb152≠gb146)); have n8_:=yA ((by rw [hg]; exact Nat.ne_of_lt (B8 (g:=gb147) (o:= .cells #[.slice A1 l1.length c1] 37 (0,0)) zY):gb147≠gb152)); have n9_:=yA ((by rw [hg]; exact Nat.ne_of_gt (B8 (g:=gb147) (o:= .cells #[.slice A1 l1.length c1] 37 (0,0)) zY):gb152≠gb147)); clear BK146; clear BK147; clear HB; have BK146:=n0_; have BK147:=n1_; have HB:=n2_; have BK152:=n3_; have GW152:=n4_; have GE152:=n5_; have NB146_152:=n6_; have NB152_146:=n7_; have NB147_152:=n8_; have NB152_147:=n9_; clear n0_ n1_ n2_ n3_ n4_ n5_ n6_ n7_ n8_ n9_; clear hb hbox hg)|((with_reducible refine Aq (N:=7) rfl ?_); (try (refine BC (by rfl) ?_; dsimp only)); refine Av ?hg (N:=7) ?hd (cs:= #[.string (⟨#[]⟩:ByteArray),.int .i64 0,.int .i64 0,.slice none 0 0]) (t:=64) ?hr ?_; (case hd=>rfl); (case hg=>rfl); (case hr=>first|(go_simp; done)|(go_simp; rfl)); intro gb153 hg w46 hbox hb; have n0_:=yA (AP (g:=gb146) (o:= .cells #[.int .i64 A8,.slice (some ad151) l0_1.length c0_1] 34 (0,0)) zN hb); have n1_:=yA (AP (g:=gb147) (o:= .cells #[.slice A1 l1.length c1] 37 (0,0)) zY hb); have n2_:=yA (AP (g:=gb152) (o:= .cells #[.int .i64 0] 3 (0,0)) zD3 hb); have n3_:=yA (AO zB6 hb); have n4_:=yA (hbox); have n5_:=yA ((by rw [hg]; exact (AQ zB6):w.heap.size≤gb153)); have n6_:=yA ((by rw [hg]; exact (AQ zB6):w.heap.size≤gb153)); have n7_:=yA ((by rw [hg]; exact Nat.ne_of_lt (B8 (g:=gb146) (o:= .cells #[.int .i64 A8,.slice (some ad151) l0_1.length c0_1] 34 (0,0)) zN):gb146≠gb153)); have n8_:=yA ((by rw [hg]; exact Nat.ne_of_gt (B8 (g:=gb146) (o:= .cells #[.int .i64 A8,.slice (some ad151) l0_1.length c0_1] 34 (0,0)) zN):gb153≠gb146)); have n9_:=yA ((by rw [hg]; exact Nat.ne_of_lt (B8 (g:=gb147) (o:= .cells #[.slice A1 l1.length c1] 37 (0,0)) zY):gb147≠gb153)); have n10_:=yA ((by rw [hg]; exact Nat.ne_of_gt (B8 (g:=gb147) (o:= .cells #[.slice A1 l1.length c1] 37 (0,0)) zY):gb153≠gb147)); have n11_:=yA ((by rw [hg]; exact Nat.ne_of_lt (B8 (g:=gb152) (o:= .cells #[.int .i64 0] 3 (0,0)) zD3):gb152≠gb153)); have n12_:=yA ((by rw [hg]; exact Nat.ne_of_gt (B8 (g:=gb152) (o:= .cells #[.int .i64 0] 3 (0,0)) zD3):gb153≠gb152)); clear BK146; clear BK147; clear BK152; clear HB; have BK146:=n0_; have BK147:=n1_; have BK152:=n2_; have HB:=n3_; have BK153:=n4_; have GW153:=n5_; have GE153:=n6_; have NB146_153:=n7_; have NB153_146:=n8_; have NB147_153:=n9_; have NB153_147:=n10_; have NB152_153:=n11_; have NB153_152:=n12_; clear n0_ n1_ n2_ n3_ n4_ n5_ n6_ n7_ n8_ n9_ n10_ n11_ n12_; clear hb hbox hg; have hnb47:=NB152_146.out; have hnc47:=NB146_152.out; have hnb48:=NB152_147.out; have hnc48:=NB147_152.out; have hnb49:=NB152_153.out; have hnc49:=NB153_152.out; have hcz50_0:w46.cell? ⟨gb152,0,none⟩=some (.int .i64 0):=(AK BK152.out 0).trans rfl; have hfz50_0:=AJ BK152.out 0; have hnb51:=NB153_146.out; have hnc51:=NB146_153.out; have hnb52:=NB153_147.out; have hnc52:=NB147_153.out; have hcz53_0:w46.cell? ⟨gb153,0,none⟩=some (.string (⟨#[]⟩:ByteArray)):=(AK BK153.out 0).trans rfl; have hcz53_1:w46.cell? ⟨gb153,1,none⟩=some (.int .i64 0):=(AK BK153.out 1).trans rfl; have hcz53_2:w46.cell? ⟨gb153,2,none⟩=some (.int .i64 0):=(AK BK153.out 2).trans rfl; have hcz53_3:w46.cell? ⟨gb153,3,none⟩=some (.slice none 0 0):=(AK BK153.out 3).trans rfl; have hfz53_0:=AJ BK153.out 0; have hfz53_1:=AJ BK153.out 1; have hfz53_2:=AJ BK153.out 2; have hfz53_3:=AJ BK153.out 3; have hnb54:=NB146_147.out; have hnc54:=NB147_146.out; have hcz55_0:w46.cell? ⟨gb146,0,none⟩=some (.int .i64 A8):=(AK BK146.out 0).trans rfl; have hcz55_1:w46.cell? ⟨gb146,1,none⟩=some (.slice (some ad151) l0_1.length c0_1):=(AK BK146.out 1).trans rfl; have hfz55_0:=AJ BK146.out 0; have hfz55_1:=AJ BK146.out 1; have hcz56_0:w46.cell? ⟨gb147,0,none⟩=some (.slice A1 l1.length c1):=(AK BK147.out 0).trans rfl; have hfz56_0:=AJ BK147.out 0)|((with_reducible refine Ae (f:=45) rfl ?_); refine B6 (some 40) rfl rfl Try.func45 zI rfl #[.slice A151_3 ((AM l0_1 x32_2).f3).length c151_3,.func (.func 46) #[] #[.pointer (some ⟨gb146,0,none⟩),.pointer (some ⟨gb147,0,none⟩),.pointer (some ⟨gb152,0,none⟩)]] rfl zD ?_; (with_reducible refine (CJ.calls _ _ ((AM l0_1 x32_2).f3) A8 _ _ l0_1 _ _ l1 x32_2 true _ ?side1 ?side2 ?side3 ?side4 ?side5 ?side6 A43.out zU zV zS).mono ?_); (case side1=>exact Kd.C_below HR151_3.out zA3); (case side2=>exact HC151_3.out); (case side3=>exact Kd.C_below HR0_1.out zA3); (case side4=>exact HC0_1.out); (case side5=>exact Kd.C_below HR1.out zA3); (case side6=>exact HC1.out); rintro e w57 ⟨rfl,hb⟩; refine ⟨_,rfl,?_⟩; have n0_:=yA (AP (g:=gb146) (o:= .cells #[.int .i64 A8,.slice (some ad151) l0_1.length c0_1] 34 (0,0)) zU hb); have n1_:=yA (AP (g:=gb147) (o:= .cells #[.slice A1 l1.length c1] 37 (0,0)) zV hb); have n2_:=yA (AP (g:=gb152) (o:= .cells #[.int .i64 x32_2] 3 (0,0)) zS hb); have n3_:=yA (AP (g:=gb153) (o:= .cells #[.string ((AM l0_1 x32_2).f0),.int .i64 ((AM l0_1 x32_2).f1),.int .i64 ((AM l0_1 x32_2).f2),.slice A151_3 ((AM l0_1 x32_2).f3).length c151_3] 64 (0,0)) zB0 hb); have n4_:=yA (AO zA3 hb); clear BK146; clear BK147; clear BK152; clear BK153; clear HB; have BK146:=n0_; have BK147:=n1_; have BK152:=n2_; have BK153:=n3_; have HB:=n4_; clear n0_ n1_ n2_ n3_ n4_; (try clear hb); (try clear hb2); (try clear hk); (try clear hi)))
            go_ret
            exact ⟨by first|rfl|(simp [AY,AX]<;>rfl)|(simp [*,AY,AX]<;>rfl),by repeat (first|(with_reducible first|exact HB.out|apply AE|apply AC|apply AD|refine AI ?_ GE146.out|refine AI ?_ GE147.out|refine AI ?_ GE152.out|refine AI ?_ GE153.out)|exact HB.out)⟩
           ·replace c44:=Bool.eq_false_iff.mpr c44
            subst c44
            have H1:(Ah.l0 k2 l0_1 (l0_1.length:Int) (wrap64 (x32_2+1)) A8 l0_1 l1)=some r:=by rw [if_neg (show ¬(false=true) by decide)] at H; exact H
            clear H
            have H:=H1
            clear H1
            have H':=yA H
            clear H
            have p151:0≤(x32_2:Int):=yD
            have q151:x32_2<(l0_1.length:Int):=yD
            obtain ⟨ad151,A151_3,c151_3,e151,hx151_0,hx151_1,hx151_2,hx151_3,hl151_3,hi151_3⟩:=C6 HR0_1.out x32_2 p151 q151
            cases e151
            replace hx151_0:=yC HB.out hx151_0
            replace hx151_1:=yC HB.out hx151_1
            replace hx151_2:=yC HB.out hx151_2
            replace hx151_3:=yC HB.out hx151_3
            have HR151_3:=yA hi151_3
            have HC151_3:=yA hl151_3
            clear hi151_3 hl151_3
            replace p151:=eq_true p151
            replace q151:=eq_true q151
            go_wp2_with (first|((with_reducible refine Aq (N:=6) rfl ?_); (try (refine BC (by rfl) ?_; dsimp only)); refine Av ?hg (N:=6) ?hd (cs:= #[.int .i64 0]) (t:=3) ?hr ?_; (case hd=>rfl); (case hg=>rfl); (case hr=>first|(go_simp; done)|(go_simp; rfl)); intro gb152 hg w58 hbox hb; have n0_:=yA (AP (g:=gb146) (o:= .cells #[.int .i64 A8,.slice (some ad151) l0_1.length c0_1] 34 (0,0)) zN hb); have n1_:=yA (AP (g:=gb147) (o:= .cells #[.slice A1 l1.length c1] 37 (0,0)) zY hb); have n2_:=yA (AO zZ hb); have n3_:=yA (hbox); have n4_:=yA ((by rw [hg]; exact (AQ zZ):w.heap.size≤gb152)); have n5_:=yA ((by rw [hg]; exact (AQ zZ):w.heap.size≤gb152)); have n6_:=yA ((by rw [hg]; exact Nat.ne_of_lt (B8 (g:=gb146) (o:= .cells #[.int .i64 A8,.slice (some ad151) l0_1.length c0_1] 34 (0,0)) zN):gb146≠gb152)); have n7_:=yA ((by rw [hg]; exact Nat.ne_of_gt (B8 (g:=gb146) (o:= .cells #[.int .i64 A8,.slice (some ad151) l0_1.length c0_1] 34 (0,0)) zN):gb152≠gb146)); have n8_:=yA ((by rw [hg]; exact Nat.ne_of_lt (B8 (g:=gb147) (o:= .cells #[.slice A1 l1.length c1] 37 (0,0)) zY):gb147≠gb152)); have n9_:=yA ((by rw [hg]; exact Nat.ne_of_gt (B8 (g:=gb147) (o:= .cells #[.slice A1 l1.length c1] 37 (0,0)) zY):gb152≠gb147)); clear BK146; clear BK147; clear HB; have BK146:=n0_; have BK147:=n1_; have HB:=n2_; have BK152:=n3_; have GW152:=n4_; have GE152:=n5_; have NB146_152:=n6_; have NB152_146:=n7_; have NB147_152:=n8_; have NB152_147:=n9_; clear n0_ n1_ n2_ n3_ n4_ n5_ n6_ n7_ n8_ n9_; clear hb hbox hg)|((with_reducible refine Aq (N:=7) rfl ?_); (try (refine BC (by rfl) ?_; dsimp only)); refine Av ?hg (N:=7) ?hd (cs:= #[.string (⟨#[]⟩:ByteArray),.int .i64 0,.int .i64 0,.slice none 0 0]) (t:=64) ?hr ?_; (case hd=>rfl); (case hg=>rfl); (case hr=>first|(go_simp; done)|(go_simp; rfl)); intro gb153 hg w59 hbox hb; have n0_:=yA (AP (g:=gb146) (o:= .cells #[.int .i64 A8,.slice (some ad151) l0_1.length c0_1] 34 (0,0)) zN hb); have n1_:=yA (AP (g:=gb147) (o:= .cells #[.slice A1 l1.length c1] 37 (0,0)) zY hb); have n2_:=yA (AP (g:=gb152) (o:= .cells #[.int .i64 0] 3 (0,0)) zD3 hb); have n3_:=yA (AO zB6 hb); have n4_:=yA (hbox); have n5_:=yA ((by rw [hg]; exact (AQ zB6):w.heap.size≤gb153)); have n6_:=yA ((by rw [hg]; exact (AQ zB6):w.heap.size≤gb153)); have n7_:=yA ((by rw [hg]; exact Nat.ne_of_lt (B8 (g:=gb146) (o:= .cells #[.int .i64 A8,.slice (some ad151) l0_1.length c0_1] 34 (0,0)) zN):gb146≠gb153)); have n8_:=yA ((by rw [hg]; exact Nat.ne_of_gt (B8 (g:=gb146) (o:= .cells #[.int .i64 A8,.slice (some ad151) l0_1.length c0_1] 34 (0,0)) zN):gb153≠gb146)); have n9_:=yA ((by rw [hg]; exact Nat.ne_of_lt (B8 (g:=gb147) (o:= .cells #[.slice A1 l1.length c1] 37 (0,0)) zY):gb147≠gb153)); have n10_:=yA ((by rw [hg]; exact Nat.ne_of_gt (B8 (g:=gb147) (o:= .cells #[.slice A1 l1.length c1] 37 (0,0)) zY):gb153≠gb147)); have n11_:=yA ((by rw [hg]; exact Nat.ne_of_lt (B8 (g:=gb152) (o:= .cells #[.int .i64 0] 3 (0,0)) zD3):gb152≠gb153)); have n12_:=yA ((by rw [hg]; exact Nat.ne_of_gt (B8 (g:=gb152) (o:= .cells #[.int .i64 0] 3 (0,0)) zD3):gb153≠gb152)); clear BK146; clear BK147; clear BK152; clear HB; have BK146:=n0_; have BK147:=n1_; have BK152:=n2_; have HB:=n3_; have BK153:=n4_; have GW153:=n5_; have GE153:=n6_; have NB146_153:=n7_; have NB153_146:=n8_; have NB147_153:=n9_; have NB153_147:=n10_; have NB152_153:=n11_; have NB153_152:=n12_; clear n0_ n1_ n2_ n3_ n4_ n5_ n6_ n7_ n8_ n9_ n10_ n11_ n12_; clear hb hbox hg; have hnb60:=NB152_146.out; have hnc60:=NB146_152.out; have hnb61:=NB152_147.out; have hnc61:=NB147_152.out; have hnb62:=NB152_153.out; have hnc62:=NB153_152.out; have hcz63_0:w59.cell? ⟨gb152,0,none⟩=some (.int .i64 0):=(AK BK152.out 0).trans rfl; have hfz63_0:=AJ BK152.out 0; have hnb64:=NB153_146.out; have hnc64:=NB146_153.out; have hnb65:=NB153_147.out; have hnc65:=NB147_153.out; have hcz66_0:w59.cell? ⟨gb153,0,none⟩=some (.string (⟨#[]⟩:ByteArray)):=(AK BK153.out 0).trans rfl; have hcz66_1:w59.cell? ⟨gb153,1,none⟩=some (.int .i64 0):=(AK BK153.out 1).trans rfl; have hcz66_2:w59.cell? ⟨gb153,2,none⟩=some (.int .i64 0):=(AK BK153.out 2).trans rfl; have hcz66_3:w59.cell? ⟨gb153,3,none⟩=some (.slice none 0 0):=(AK BK153.out 3).trans rfl; have hfz66_0:=AJ BK153.out 0; have hfz66_1:=AJ BK153.out 1; have hfz66_2:=AJ BK153.out 2; have hfz66_3:=AJ BK153.out 3; have hnb67:=NB146_147.out; have hnc67:=NB147_146.out; have hcz68_0:w59.cell? ⟨gb146,0,none⟩=some (.int .i64 A8):=(AK BK146.out 0).trans rfl; have hcz68_1:w59.cell? ⟨gb146,1,none⟩=some (.slice (some ad151) l0_1.length c0_1):=(AK BK146.out 1).trans rfl; have hfz68_0:=AJ BK146.out 0; have hfz68_1:=AJ BK146.out 1; have hcz69_0:w59.cell? ⟨gb147,0,none⟩=some (.slice A1 l1.length c1):=(AK BK147.out 0).trans rfl; have hfz69_0:=AJ BK147.out 0)|((with_reducible refine Ae (f:=45) rfl ?_); refine B6 (some 40) rfl rfl Try.func45 zI rfl #[.slice A151_3 ((AM l0_1 x32_2).f3).length c151_3,.func (.func 46) #[] #[.pointer (some ⟨gb146,0,none⟩),.pointer (some ⟨gb147,0,none⟩),.pointer (some ⟨gb152,0,none⟩)]] rfl zD ?_; (with_reducible refine (CJ.calls _ _ ((AM l0_1 x32_2).f3) A8 _ _ l0_1 _ _ l1 x32_2 false _ ?side1 ?side2 ?side3 ?side4 ?side5 ?side6 A43.out zU zV zS).mono ?_); (case side1=>exact Kd.C_below HR151_3.out zA3); (case side2=>exact HC151_3.out); (case side3=>exact Kd.C_below HR0_1.out zA3); (case side4=>exact HC0_1.out); (case side5=>exact Kd.C_below HR1.out zA3); (case side6=>exact HC1.out); rintro e w70 ⟨rfl,hb⟩; refine ⟨_,rfl,?_⟩; have n0_:=yA (AP (g:=gb146) (o:= .cells #[.int .i64 A8,.slice (some ad151) l0_1.length c0_1] 34 (0,0)) zU hb); have n1_:=yA (AP (g:=gb147) (o:= .cells #[.slice A1 l1.length c1] 37 (0,0)) zV hb); have n2_:=yA (AP (g:=gb152) (o:= .cells #[.int .i64 x32_2] 3 (0,0)) zS hb); have n3_:=yA (AP (g:=gb153) (o:= .cells #[.string ((AM l0_1 x32_2).f0),.int .i64 ((AM l0_1 x32_2).f1),.int .i64 ((AM l0_1 x32_2).f2),.slice A151_3 ((AM l0_1 x32_2).f3).length c151_3] 64 (0,0)) zB0 hb); have n4_:=yA (AO zA3 hb); clear BK146; clear BK147; clear BK152; clear BK153; clear HB; have BK146:=n0_; have BK147:=n1_; have BK152:=n2_; have BK153:=n3_; have HB:=n4_; clear n0_ n1_ n2_ n3_ n4_; (try clear hb); (try clear hb2); (try clear hk); (try clear hi)))
            go_roundg k2
            case measure=>have:=HJ2.out; have:=HK2.out; omega
            case rel=>exact ⟨(wrap64 (x32_2+1)),zH,H',⟨by have:=HJ2.out; have:=HK2.out; omega⟩,⟨by (with_reducible repeat (first|refine AF ?_ _|refine AH ?_|refine AG ?_ _)); exact BK146.out⟩,⟨by (with_reducible repeat (first|refine AF ?_ _|refine AH ?_|refine AG ?_ _)); exact BK147.out⟩,⟨by repeat (first|(with_reducible first|exact HB.out|apply AE|apply AC|apply AD|refine AI ?_ GE146.out|refine AI ?_ GE147.out|refine AI ?_ GE152.out|refine AI ?_ GE153.out)|exact HB.out)⟩⟩
          ·rw [if_neg c42] at H
           exact absurd H zA5
         ·rw [if_neg c41] at H
          exact absurd H zA5
        ·rw [if_neg c40] at H
         have c40b0:decide (x32_2<(l0_1.length:Int))=false:=decide_eq_false c40
         clear c40
         obtain rfl:=Option.some.inj H
         go_wp2
         go_ret
         exact ⟨by first|rfl|(simp [AY,AX]<;>rfl)|(simp [*,AY,AX]<;>rfl),by repeat (first|(with_reducible first|exact HB.out|apply AE|apply AC|apply AD|refine AI ?_ GE146.out|refine AI ?_ GE147.out)|exact HB.out)⟩
def Ax.l0:Nat→List (S47)→Int→Int→Int→Int→List (S64)→Option (Int×Int)
 |0,_,_,_,_,_,_=>none
 |k+1,x1,x7,x16,x17,x156000,x156001=>if x17<x16 then ((BB.f x156000 x156001 x1 x17).bind fun t157=>(Ax.l0 k x1 (mx x7 t157) x16 (wrap64 (x17+1)) x156000 x156001)) else (some (x7,0))
def Ax.f (k:Nat) (A8:Int) (l0_1:List (S64)) (l1:List (S47)):Option (Int×Int):=(Ah.f k A8 l0_1 l1).bind fun t156=>(if t156=0 then (Ax.l0 k l1 0 (l1.length:Int) 0 A8 l0_1) else (some (0,t156)))
theorem Ax.mono_l:∀k,(∀y0 y1 y2 y3 y4 y5,LeO (Ax.l0 k y0 y1 y2 y3 y4 y5) (Ax.l0 (k+1) y0 y1 y2 y3 y4 y5))
 |0=>fun _ _ _ _ _ _ r h=>by simp [Ax.l0] at h
 | k +1=>by
  have ih0:=Ax.mono_l k
  ·intro y0 y1 y2 y3 y4 y5
   unfold Ax.l0
   repeat' first
   |(with_reducible exact ih0 _ _ _ _ _ _)
   |(with_reducible exact Ah.mono _ _ _ _)
   |(with_reducible exact LeO.refl _)
   |(with_reducible exact LeO.none _)
   |(with_reducible refine LeO.ite ?_ ?_)
   |(with_reducible refine LeO.bind ?_ (fun _=> ?_))
   |exact ih0 _ _ _ _ _ _
   |exact Ah.mono _ _ _ _
   |exact LeO.none _
   |refine LeO.ite ?_ ?_
   |refine LeO.bind ?_ (fun _=> ?_)
theorem Ax.mono:∀a0 a1 a2 k,LeO (Ax.f k a0 a1 a2) (Ax.f (k+1) a0 a1 a2):=by
 intro a0 a1 a2 k
 have ih0:=Ax.mono_l k
 unfold Ax.f
 repeat' first
  |(with_reducible exact ih0 _ _ _ _ _ _)
  |(with_reducible exact Ah.mono _ _ _ _)
  |(with_reducible exact LeO.refl _)
  |(with_reducible exact LeO.none _)
  |(with_reducible refine LeO.ite ?_ ?_)
  |(with_reducible refine LeO.bind ?_ (fun _=> ?_))
  |exact ih0 _ _ _ _ _ _
  |exact Ah.mono _ _ _ _
  |exact LeO.none _
  |refine LeO.ite ?_ ?_
  |refine LeO.bind ?_ (fun _=> ?_)
set_option maxHeartbeats 8000000 in
theorem Ax.calls (k:Nat) (A8:Int) (A0_1:Option Addr) (c0_1:Nat) (l0_1:List (S64)) (A1:Option Addr) (c1:Nat) (l1:List (S47)) (r1:Int) (r2:Int) (w:World) (hr0_1:Kd.C k64 w A0_1 l0_1.length l0_1) (hc0_1:l0_1.length≤c0_1) (hr1:Kd.C k47 w A1 l1.length l1) (hc1:l1.length≤c1) (h:Ax.f k A8 l0_1 l1=some (r1,r2)):
  Calls Try.prog 13 #[.agg #[.int .i64 A8,.slice A0_1 l0_1.length c0_1],.slice A1 l1.length c1] w fun e w'=>e= .returned (.tuple #[.int .i64 r1,.int .i64 r2])∧Below w.heap.size w w':=by
 have hu34:=Try.underlying34
 have HR0_1:=yA hr0_1
 have HC0_1:=yA hc0_1
 clear hr0_1 hc0_1
 have HR1:=yA hr1
 have HC1:=yA hc1
 clear hr1 hc1
 have HB:=yA (Below.refl w.heap.size w)
 have H:((Ah.f k A8 l0_1 l1).bind fun t156=>(if t156=0 then (Ax.l0 k l1 0 (l1.length:Int) 0 A8 l0_1) else (some (0,t156))))=some (r1,r2):=h
 clear h
 replace H:=Option.bind_eq_some_iff.mp H
 obtain ⟨t156,A30,H⟩:=H
 replace H:(if t156=0 then (Ax.l0 k l1 0 (l1.length:Int) 0 A8 l0_1) else (some (0,t156)))=some (r1,r2):=H
 have A3:=yA A30
 clear A30
 by_cases c4:t156=0
 ·rw [if_pos c4] at H
  have c4b0:(t156==0)=true:=beq_iff_eq.mpr c4
  have c4b1:(t156 !=0)=false:=bne_eq_false_iff_eq.mpr c4
  clear c4
  have H':=yA H
  clear H
  go_enter Try.func13,Try.ntmps13
  go_wp2_with (first|((with_reducible refine Aq (N:=2) rfl ?_); refine Av ?hg (N:=2) ?hd (cs:= #[.int .i64 A8,.slice A0_1 l0_1.length c0_1]) (t:=34) ?hr ?_; (case hd=>rfl); (case hg=>rfl); (case hr=>first|(go_simp; done)|(go_simp; rfl)); intro gb155 hg w5 hbox hb; have n0_:=yA (AO zB hb); have n1_:=yA (hbox); have n2_:=yA ((by rw [hg]; exact (AQ zB):w.heap.size≤gb155)); have n3_:=yA ((by rw [hg]; exact (AQ zB):w.heap.size≤gb155)); clear HB; have HB:=n0_; have BK155:=n1_; have GW155:=n2_; have GE155:=n3_; clear n0_ n1_ n2_ n3_; clear hb hbox hg; have hcz6_0:w5.cell? ⟨gb155,0,none⟩=some (.int .i64 A8):=(AK BK155.out 0).trans rfl; have hcz6_1:w5.cell? ⟨gb155,1,none⟩=some (.slice A0_1 l0_1.length c0_1):=(AK BK155.out 1).trans rfl; have hfz6_0:=AJ BK155.out 0; have hfz6_1:=AJ BK155.out 1)|((with_reducible refine Ae (f:=28) rfl ?_); refine B6 (some 11) rfl rfl Try.func28 zI rfl #[.agg #[.int .i64 A8,.slice A0_1 l0_1.length c0_1],.slice A1 l1.length c1] rfl zD ?_; (with_reducible refine (Ah.calls k A8 _ _ l0_1 _ _ l1 t156 _ ?side1 ?side2 ?side3 ?side4 A3.out).mono ?_); (case side1=>repeat (first|exact (Kd.C_below HR0_1.out HB.out)|(with_reducible refine Kd.C_alloc ?_ _)|(with_reducible refine Kd.C_drewN ?_ _)|(with_reducible refine Kd.C_drew ?_))); (case side2=>exact HC0_1.out); (case side3=>repeat (first|exact (Kd.C_below HR1.out HB.out)|(with_reducible refine Kd.C_alloc ?_ _)|(with_reducible refine Kd.C_drewN ?_ _)|(with_reducible refine Kd.C_drew ?_))); (case side4=>exact HC1.out); rintro e w7 ⟨rfl,hb⟩; refine ⟨_,rfl,?_⟩; have n0_:=yA (AP (g:=gb155) (o:= .cells #[.int .i64 A8,.slice A0_1 l0_1.length c0_1] 34 (0,0)) (by (with_reducible repeat (first|refine AF ?_ _|refine AH ?_|refine AG ?_ _)); exact BK155.out) hb); have n1_:=yA (AO (by repeat (first|(with_reducible first|exact HB.out|apply AE|apply AC|apply AD|refine AI ?_ GE155.out)|exact HB.out)) hb); clear BK155; clear HB; have BK155:=n0_; have HB:=n1_; clear n0_ n1_; (try clear hb); (try clear hb2); (try clear hk); (try clear hi)))
  go_loopg [7,17] k (fun kq v7 v17 w'=>∃(x7_1:Int) (x17_1:Int),v7= .int .i64 x7_1∧v17= .int .i64 x17_1∧Aside0 (Ax.l0 kq l1 x7_1 (l1.length:Int) x17_1 A8 l0_1=some (r1,r2))∧Aside0 (kq≤k)∧Aside0 (w'.heap[gb155]? =some (.cells #[.int .i64 A8,(.slice A0_1 l0_1.length c0_1)] 34 (0,0)))∧Aside0 (Below w.heap.size w w'))
  case atStart=>exact ⟨(0),(0),zH,zH,H',⟨Nat.le_refl _⟩,⟨by (with_reducible repeat (first|refine AF ?_ _|refine AH ?_|refine AG ?_ _)); exact BK155.out⟩,⟨by repeat (first|(with_reducible first|exact HB.out|apply AE|apply AC|apply AD|refine AI ?_ GE155.out)|exact HB.out)⟩⟩
  case round=>
   clear H'
   try clear c1
   try clear c2
   try clear p2
   try clear c4
   try clear c4b0
   try clear c4b1
   try clear hcz6_0
   try clear hcz6_1
   try clear hfz6_0
   try clear hfz6_1
   obtain ⟨x7_1,x17_1,rfl,rfl,HA,HK1,BK155,HB⟩:=hrel
   cases gk with
   |zero=>exact absurd HA.out (by simp [Ax.l0])
   | succ k1=>
    have H:=HA.out
    clear HA
    simp only [Ax.l0] at H
    by_cases c8:x17_1<(l1.length:Int)
    ·rw [if_pos c8] at H
     have c8b0:decide (x17_1<(l1.length:Int))=true:=decide_eq_true c8
     clear c8
     replace H:=Option.bind_eq_some_iff.mp H
     obtain ⟨t157,A90,H⟩:=H
     replace H:(Ax.l0 k1 l1 (mx x7_1 t157) (l1.length:Int) (wrap64 (x17_1+1)) A8 l0_1)=some (r1,r2):=H
     have A9:=yA A90
     clear A90
     obtain ⟨ji10,hji10⟩:∃j_:Int,(mx x7_1 t157)=j_:=⟨_,rfl⟩
     replace H:(Ax.l0 k1 l1 ji10 (l1.length:Int) (wrap64 (x17_1+1)) A8 l0_1)=some (r1,r2):=by first|(rw [hji10] at H; exact H)|(simp only [hji10] at H ⊢; exact H)
     (try rw [hji10] at A9)
     have hji10_:(if x7_1<t157 then t157 else x7_1)=ji10:=hji10
     have H':=yA H
     clear H
     have hcz11_0:wr.cell? ⟨gb155,0,none⟩=some (.int .i64 A8):=(AK BK155.out 0).trans rfl
     have hcz11_1:wr.cell? ⟨gb155,1,none⟩=some (.slice A0_1 l0_1.length c0_1):=(AK BK155.out 1).trans rfl
     have hfz11_0:=AJ BK155.out 0
     have hfz11_1:=AJ BK155.out 1
     go_wp2_with (first|((with_reducible refine Ae (f:=30) rfl ?_); refine B6 (some 24) rfl rfl Try.func30 zI rfl #[.agg #[.int .i64 A8,.slice A0_1 l0_1.length c0_1],.slice A1 l1.length c1,.int .i64 x17_1] rfl zD ?_; (with_reducible refine (BB.calls A8 _ _ l0_1 _ _ l1 x17_1 t157 _ ?side1 ?side2 ?side3 ?side4 A9.out).mono ?_); (case side1=>repeat (first|exact (Kd.C_below HR0_1.out HB.out)|(with_reducible refine Kd.C_alloc ?_ _)|(with_reducible refine Kd.C_drewN ?_ _)|(with_reducible refine Kd.C_drew ?_))); (case side2=>exact HC0_1.out); (case side3=>repeat (first|exact (Kd.C_below HR1.out HB.out)|(with_reducible refine Kd.C_alloc ?_ _)|(with_reducible refine Kd.C_drewN ?_ _)|(with_reducible refine Kd.C_drew ?_))); (case side4=>exact HC1.out); rintro e w12 ⟨rfl,hb⟩; refine ⟨_,rfl,?_⟩; have n0_:=yA (AP (g:=gb155) (o:= .cells #[.int .i64 A8,.slice A0_1 l0_1.length c0_1] 34 (0,0)) (by (with_reducible repeat (first|refine AF ?_ _|refine AH ?_|refine AG ?_ _)); exact BK155.out) hb); have n1_:=yA (AO (by repeat (first|(with_reducible first|exact HB.out|apply AE|apply AC|apply AD|refine AI ?_ GE155.out)|exact HB.out)) hb); clear BK155; clear HB; have BK155:=n0_; have HB:=n1_; clear n0_ n1_; (try clear hb); (try clear hb2); (try clear hk); (try clear hi)))
     go_roundg k1
     case measure=>have:=HK1.out; omega
     case rel=>exact ⟨(ji10),(wrap64 (x17_1+1)),(by first|rfl|(simp; done)|(simp only [←hji10]<;>(first|rfl|simp))|(simp [*]; done)),zH,H',⟨by have:=HK1.out; omega⟩,⟨by (with_reducible repeat (first|refine AF ?_ _|refine AH ?_|refine AG ?_ _)); exact BK155.out⟩,⟨by repeat (first|(with_reducible first|exact HB.out|apply AE|apply AC|apply AD|refine AI ?_ GE155.out)|exact HB.out)⟩⟩
    ·rw [if_neg c8] at H
     have c8b0:decide (x17_1<(l1.length:Int))=false:=decide_eq_false c8
     clear c8
     simp only [Option.some.injEq,Prod.mk.injEq] at H
     obtain ⟨rfl,rfl⟩:=H
     go_wp2
     go_ret2
     exact ⟨by first|rfl|(simp [AY,AX]<;>rfl)|(simp [*,AY,AX]<;>rfl),by repeat (first|(with_reducible first|exact HB.out|apply AE|apply AC|apply AD|refine AI ?_ GE155.out)|exact HB.out)⟩
 ·rw [if_neg c4] at H
  have c4b0:(t156==0)=false:=beq_eq_false_iff_ne.mpr c4
  have c4b1:(t156 !=0)=true:=bne_iff_ne.mpr c4
  simp only [Option.some.injEq,Prod.mk.injEq] at H
  obtain ⟨rfl,rfl⟩:=H
  go_enter Try.func13,Try.ntmps13
  go_wp2_with (first|((with_reducible refine Aq (N:=2) rfl ?_); refine Av ?hg (N:=2) ?hd (cs:= #[.int .i64 A8,.slice A0_1 l0_1.length c0_1]) (t:=34) ?hr ?_; (case hd=>rfl); (case hg=>rfl); (case hr=>first|(go_simp; done)|(go_simp; rfl)); intro gb155 hg w13 hbox hb; have n0_:=yA (AO zB hb); have n1_:=yA (hbox); have n2_:=yA ((by rw [hg]; exact (AQ zB):w.heap.size≤gb155)); have n3_:=yA ((by rw [hg]; exact (AQ zB):w.heap.size≤gb155)); clear HB; have HB:=n0_; have BK155:=n1_; have GW155:=n2_; have GE155:=n3_; clear n0_ n1_ n2_ n3_; clear hb hbox hg; have hcz14_0:w13.cell? ⟨gb155,0,none⟩=some (.int .i64 A8):=(AK BK155.out 0).trans rfl; have hcz14_1:w13.cell? ⟨gb155,1,none⟩=some (.slice A0_1 l0_1.length c0_1):=(AK BK155.out 1).trans rfl; have hfz14_0:=AJ BK155.out 0; have hfz14_1:=AJ BK155.out 1)|((with_reducible refine Ae (f:=28) rfl ?_); refine B6 (some 11) rfl rfl Try.func28 zI rfl #[.agg #[.int .i64 A8,.slice A0_1 l0_1.length c0_1],.slice A1 l1.length c1] rfl zD ?_; (with_reducible refine (Ah.calls k A8 _ _ l0_1 _ _ l1 t156 _ ?side1 ?side2 ?side3 ?side4 A3.out).mono ?_); (case side1=>repeat (first|exact (Kd.C_below HR0_1.out HB.out)|(with_reducible refine Kd.C_alloc ?_ _)|(with_reducible refine Kd.C_drewN ?_ _)|(with_reducible refine Kd.C_drew ?_))); (case side2=>exact HC0_1.out); (case side3=>repeat (first|exact (Kd.C_below HR1.out HB.out)|(with_reducible refine Kd.C_alloc ?_ _)|(with_reducible refine Kd.C_drewN ?_ _)|(with_reducible refine Kd.C_drew ?_))); (case side4=>exact HC1.out); rintro e w15 ⟨rfl,hb⟩; refine ⟨_,rfl,?_⟩; have n0_:=yA (AP (g:=gb155) (o:= .cells #[.int .i64 A8,.slice A0_1 l0_1.length c0_1] 34 (0,0)) (by (with_reducible repeat (first|refine AF ?_ _|refine AH ?_|refine AG ?_ _)); exact BK155.out) hb); have n1_:=yA (AO (by repeat (first|(with_reducible first|exact HB.out|apply AE|apply AC|apply AD|refine AI ?_ GE155.out)|exact HB.out)) hb); clear BK155; clear HB; have BK155:=n0_; have HB:=n1_; clear n0_ n1_; (try clear hb); (try clear hb2); (try clear hk); (try clear hi)))
  go_ret2
  exact ⟨by first|rfl|(simp [AY,AX]<;>rfl)|(simp [*,AY,AX]<;>rfl),by repeat (first|(with_reducible first|exact HB.out|apply AE|apply AC|apply AD|refine AI ?_ GE155.out)|exact HB.out)⟩
def Ak.l0:Nat→List Int→Int→Int→Int→Option (Int)
 |0,_,_,_,_=>none
 |k+1,x0,x1,x7,x8=>if x8<x7 then (if 0≤x8 then (if x8<(x0.length:Int) then (if x1=(rd x0 x8) then (some x8) else (Ak.l0 k x0 x1 x7 (wrap64 (x8+1)))) else (none)) else (none)) else (some (-1))
def Ak.f (k:Nat) (l0:List Int) (a1:Int):Option (Int):=Ak.l0 k l0 a1 (l0.length:Int) 0
theorem Ak.mono_l:∀k,(∀y0 y1 y2 y3,LeO (Ak.l0 k y0 y1 y2 y3) (Ak.l0 (k+1) y0 y1 y2 y3))
 |0=>fun _ _ _ _ r h=>by simp [Ak.l0] at h
 | k +1=>by
  have ih0:=Ak.mono_l k
  ·intro y0 y1 y2 y3
   unfold Ak.l0
   repeat' first
   |(with_reducible exact ih0 _ _ _ _)
   |(with_reducible exact LeO.refl _)
   |(with_reducible exact LeO.none _)
   |(with_reducible refine LeO.ite ?_ ?_)
   |(with_reducible refine LeO.bind ?_ (fun _=> ?_))
   |exact ih0 _ _ _ _
   |exact LeO.none _
   |refine LeO.ite ?_ ?_
   |refine LeO.bind ?_ (fun _=> ?_)
theorem Ak.mono:∀a0 a1 k,LeO (Ak.f k a0 a1) (Ak.f (k+1) a0 a1):=by
 intro a0 a1 k
 have ih0:=Ak.mono_l k
 unfold Ak.f
 repeat' first
  |(with_reducible exact ih0 _ _ _ _)
  |(with_reducible exact LeO.refl _)
  |(with_reducible exact LeO.none _)
  |(with_reducible refine LeO.ite ?_ ?_)
  |(with_reducible refine LeO.bind ?_ (fun _=> ?_))
  |exact ih0 _ _ _ _
  |exact LeO.none _
  |refine LeO.ite ?_ ?_
  |refine LeO.bind ?_ (fun _=> ?_)
set_option maxHeartbeats 8000000 in
theorem Ak.calls (k:Nat) (A0:Option Addr) (c0:Nat) (l0:List Int) (a1:Int) (r:Int) (w:World) (hr0:Kd.C (Kd.int .i64) w A0 l0.length l0) (hc0:l0.length≤c0) (h:Ak.f k l0 a1=some r):
  Calls Try.prog 53 #[.slice A0 l0.length c0,.int .i64 a1] w fun e w'=>e= .returned (.int .i64 r)∧Drawn0 w w':=by
 have HR0:=yA hr0
 have HC0:=yA hc0
 clear hr0 hc0
 have H:(Ak.l0 k l0 a1 (l0.length:Int) 0)=some r:=h
 clear h
 have H':=yA H
 clear H
 go_enter Try.func53,Try.ntmps53
 go_wp2
 go_loopg [8] k (fun kq v8 w'=>∃(x8_1:Int),v8= .int .i64 x8_1∧Aside0 (Ak.l0 kq l0 a1 (l0.length:Int) x8_1=some r)∧Aside0 (kq≤k)∧Drawn0 w w')
 case atStart=>exact ⟨(0),zH,H',⟨Nat.le_refl _⟩,by repeat (first|exact Drawn0.refl _|apply Drawn0.step)⟩
 case round=>
  clear H'
  try clear p2
  obtain ⟨x8_1,rfl,HA,HK1,⟨m1,rfl⟩⟩:=hrel
  cases gk with
  |zero=>exact absurd HA.out (by simp [Ak.l0])
  | succ k1 =>
   have H:=HA.out
   clear HA
   simp only [Ak.l0] at H
   by_cases c3:x8_1<(l0.length:Int)
   ·rw [if_pos c3] at H
    have c3b0:decide (x8_1<(l0.length:Int))=true:=decide_eq_true c3
    clear c3
    by_cases c4:0≤x8_1
    ·rw [if_pos c4] at H
     have c4b0:decide (0≤x8_1)=true:=decide_eq_true c4
     clear c4
     by_cases c5:x8_1<(l0.length:Int)
     ·rw [if_pos c5] at H
      have c5b0:decide (x8_1<(l0.length:Int))=true:=decide_eq_true c5
      clear c5
      by_cases c6:a1=(rd l0 x8_1)
      ·rw [if_pos c6] at H
       have c6b0:(a1==(rd l0 x8_1))=true:=beq_iff_eq.mpr c6
       have c6b1:(a1 !=(rd l0 x8_1))=false:=bne_eq_false_iff_eq.mpr c6
       clear c6
       obtain rfl:=Option.some.inj H
       have p158:0≤(x8_1:Int):=yD
       have q158:x8_1<(l0.length:Int):=yD
       obtain ⟨ad158,e158,hx158_0⟩:=Kd.at_int HR0.out x8_1 p158 q158
       cases e158
       replace p158:=eq_true p158
       replace q158:=eq_true q158
       go_wp2
       go_ret
       exact ⟨by first|rfl|(simp; done)|(simp [*]; done),by repeat (first|exact Drawn0.refl _|apply Drawn0.step)⟩
      ·rw [if_neg c6] at H
       have c6b0:(a1==(rd l0 x8_1))=false:=beq_eq_false_iff_ne.mpr c6
       have c6b1:(a1 !=(rd l0 x8_1))=true:=bne_iff_ne.mpr c6
       have H':=yA H
       clear H
       have p158:0≤(x8_1:Int):=yD
       have q158:x8_1<(l0.length:Int):=yD
       obtain ⟨ad158,e158,hx158_0⟩:=Kd.at_int HR0.out x8_1 p158 q158
       cases e158
       replace p158:=eq_true p158
       replace q158:=eq_true q158
       go_wp2
       go_roundg k1
       case measure=>have:=HK1.out; omega
       case rel=>exact ⟨(wrap64 (x8_1+1)),zH,H',⟨by have:=HK1.out; omega⟩,by repeat (first|exact Drawn0.refl _|apply Drawn0.step)⟩
     ·rw [if_neg c5] at H
      exact absurd H zA5
    ·rw [if_neg c4] at H
     exact absurd H zA5
   ·rw [if_neg c3] at H
    have c3b0:decide (x8_1<(l0.length:Int))=false:=decide_eq_false c3
    clear c3
    obtain rfl:=Option.some.inj H
    go_wp2
    go_ret
    exact ⟨by first|rfl|(simp; done)|(simp [*]; done),by repeat (first|exact Drawn0.refl _|apply Drawn0.step)⟩
def mnGo (l:List Int):Nat→Nat→Int→Int
 |0,_,a=>a
 |k+1,n,a=>mnGo l k (n+1) (mn a (rd l n))
def BN.f (l0:List Int):Option (Int):=if l0.length=0 then none else some (mnGo l0 (l0.length-1) 1 (rd l0 0))
set_option maxHeartbeats 8000000 in
theorem BN.calls (A0:Option Addr) (c0:Nat) (l0:List Int) (r:Int) (w:World) (hr0:Kd.C (Kd.int .i64) w A0 l0.length l0) (hc0:l0.length≤c0) (h:BN.f l0=some r):
  Calls Try.prog 54 #[.slice A0 l0.length c0] w fun e w'=>e= .returned (.int .i64 r)∧Drawn0 w w':=by
 have h0:l0.length≠0:=fun c=>by simp [BN.f,c] at h
 rw [BN.f,if_neg h0] at h
 have h:=Option.some.inj h
 have HL:=yA hr0.2.1
 have HR:=yA hr0
 have HH:=yA h
 obtain ⟨ad,e1,hx0⟩:=Kd.at_int hr0 0 zE zE
 cases e1
 have c1:decide ((l0.length:Int)<1)=false:=decide_eq_false zE
 have c2:((0:Int)<(l0.length:Int))=True:=eq_true zE
 clear h hr0
 replace hx0:w.cell? ad=some (.int .i64 (rd l0 0)):=by
  have e:ad.add (0:Int).toNat=ad:=by obtain ⟨b,o,s⟩:=ad; unfold Addr.add; simp
  rwa [e] at hx0
 go_enter Try.func54,Try.ntmps54
 go_wp2
 go_loopg [3,4] l0.length (fun gg v3 v4 w'=>∃(n:Nat) (a:Int),v3= .int .i64 a∧v4= .int .i64 (n:Int)∧Aside0 (1≤n)∧Aside0 (n≤l0.length)∧Aside0 (l0.length-n≤gg)∧Aside0 (mnGo l0 (l0.length-n) n a=r)∧Aside0 (Drawn0 w w'))
 case atStart=>exact ⟨1,_,rfl,rfl,⟨Nat.le_refl _⟩,⟨by omega⟩,⟨by omega⟩,⟨HH.out⟩,⟨by repeat (first|exact Drawn0.refl _|apply Drawn0.step)⟩⟩
 case round=>
  obtain ⟨n,a,rfl,rfl,H0,H1,H2,H3,HD⟩:=hrel
  clear HH
  by_cases c3:n<l0.length
  ·have c3b:decide ((n:Int)<(l0.length:Int))=true:=decide_eq_true zE
   obtain ⟨ad2,e2,hy0⟩:=Kd.at_int HR.out (n:Int) zE zE
   cases e2
   replace hy0:=(HD.out.below.cell (World.block_lt_of_cell? w _ hy0)).trans hy0
   simp only [Int.toNat_natCast] at hy0
   have h3:=H3.out
   rw [show l0.length-n=(l0.length-(n+1))+1 by omega,mnGo] at h3
   replace h3:=yA h3
   clear hx0
   go_wp2
   ·go_roundg (l0.length-(n+1))
    case measure=>have:=H2.out; omega
    case rel=>exact ⟨n+1,_,rfl,by have:=HL.out; rw [show wrap64 ((n:Int)+1)=((n+1:Nat):Int) from by unfold wrap64; omega],⟨by omega⟩,⟨by omega⟩,⟨by omega⟩,⟨(congrArg (fun z=>mnGo l0 (l0.length-(n+1)) (n+1) z=r) (show mn a (rd l0 n)=rd l0 n from by unfold mn; exact if_pos (by assumption))).mp h3.out⟩,⟨by repeat (first|exact HD.out|apply Drawn0.step)⟩⟩
   ·go_roundg (l0.length-(n+1))
    case measure=>have:=H2.out; omega
    case rel=>exact ⟨n+1,_,rfl,by have:=HL.out; rw [show wrap64 ((n:Int)+1)=((n+1:Nat):Int) from by unfold wrap64; omega],⟨by omega⟩,⟨by omega⟩,⟨by omega⟩,⟨(congrArg (fun z=>mnGo l0 (l0.length-(n+1)) (n+1) z=r) (show mn a (rd l0 n)=a from by unfold mn; exact if_neg zE)).mp h3.out⟩,⟨by repeat (first|exact HD.out|apply Drawn0.step)⟩⟩
  ·have c3b:decide ((n:Int)<(l0.length:Int))=false:=decide_eq_false zE
   have h3:=H3.out
   rw [show l0.length-n=0 by omega,mnGo] at h3
   replace h3:=yA h3
   clear hx0
   go_wp2
   go_ret
   exact ⟨by rw [←h3.out]; rfl,by repeat (first|exact HD.out|apply Drawn0.step)⟩
end Go.Proofs.Ytdadecjefafflaa.PLst
end
