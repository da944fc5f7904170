/- A part of what the law's proof leans on. PACKED BY pack.py of this repo. -/
import Derived.Test.YtdadecjefafflaaDoorC5
set_option linter.unusedVariables false
set_option linter.unusedSimpArgs false
set_option linter.defProp false
set_option linter.unusedSectionVars false
section
namespace Go.Proofs.YtdadecjefafflaaDoor.PChk
set_option maxRecDepth 100000
open Go.RowKit Go.Proofs.YtdadecjefafflaaDoorW.PrintWords Go.Proofs.YtdadecjefafflaaDoorW.PrintLast Go.Proofs.YtdadecjefafflaaDoorW.PrintMore
attribute [local go_sem] Ba BX Be Bd BS BR BZ BW
mutual
def AW.l0:Nat→List (S59)→List ByteArray→Int→Int→List (S57)→Option (List ByteArray×Int)
 |0,_,_,_,_,_=>none
 |k+1,x1,x7,x8,x345000,x345001=>if x8<x345000 then (AW.l1 k x1 x7 x8 (⟨#[]⟩:ByteArray) (-1) true x345000 x345001) else (some (x7,0))
def AW.l1:Nat→List (S59)→List ByteArray→Int→ByteArray→Int→Bool→Int→List (S57)→Option (List ByteArray×Int)
 |0,_,_,_,_,_,_,_,_=>none
 |k+1,x1,x7,x8,x9,x10,x11,x345000,x345001=>if x11=true then (AW.l2 k x1 x7 x8 x9 x10 false (-1) 0 x345000 x345001) else (if x7.length<8796093022208 then (AW.l0 k x1 (x7++[x9]) (wrap64 (x8+1)) x345000 x345001) else (none))
def AW.l2:Nat→List (S59)→List ByteArray→Int→ByteArray→Int→Bool→Int→Int→Int→List (S57)→Option (List ByteArray×Int)
 |0,_,_,_,_,_,_,_,_,_,_=>none
 |k+1,x1,x7,x8,x9,x10,x11,x12,x13,x345000,x345001=>if x13<(x1.length:Int) then (if 0≤x13 then (if ((Aj x1 x13).f0)=x8 then (if ((Aj x1 x13).f1)>x10 then (if x12<0 then (AW.l2 k x1 x7 x8 x9 x10 x11 x13 (wrap64 (x13+1)) x345000 x345001) else (if 0≤x12 then (if x12<(x1.length:Int) then (if ((Aj x1 x13).f1)<((Aj x1 x12).f1) then (AW.l2 k x1 x7 x8 x9 x10 x11 x13 (wrap64 (x13+1)) x345000 x345001) else (AW.l2 k x1 x7 x8 x9 x10 x11 x12 (wrap64 (x13+1)) x345000 x345001)) else (none)) else (none))) else (AW.l2 k x1 x7 x8 x9 x10 x11 x12 (wrap64 (x13+1)) x345000 x345001)) else (AW.l2 k x1 x7 x8 x9 x10 x11 x12 (wrap64 (x13+1)) x345000 x345001)) else (none)) else (if x12≥0 then (if x9.toList=([]:List UInt8) then (if 0≤x12 then (if x12<(x345001.length:Int) then (if ((AL x345001 x12).f0).size+1≤9223372036854775807 then (if x12<(x1.length:Int) then ((Az.f k ((Aj x1 x12).f1)).bind fun t355=>(if (((AL x345001 x12).f0)++(⟨#[64]⟩:ByteArray)).size+t355.size≤9223372036854775807 then (if x9.size+((((AL x345001 x12).f0)++(⟨#[64]⟩:ByteArray))++t355).size≤9223372036854775807 then (AW.l1 k x1 x7 x8 (x9++((((AL x345001 x12).f0)++(⟨#[64]⟩:ByteArray))++t355)) ((Aj x1 x12).f1) true x345000 x345001) else (none)) else (none))) else (none)) else (none)) else (none)) else (none)) else (if x9.size+1≤9223372036854775807 then (if 0≤x12 then (if x12<(x345001.length:Int) then (if ((AL x345001 x12).f0).size+1≤9223372036854775807 then (if x12<(x1.length:Int) then ((Az.f k ((Aj x1 x12).f1)).bind fun t359=>(if (((AL x345001 x12).f0)++(⟨#[64]⟩:ByteArray)).size+t359.size≤9223372036854775807 then (if (x9++(⟨#[32]⟩:ByteArray)).size+((((AL x345001 x12).f0)++(⟨#[64]⟩:ByteArray))++t359).size≤9223372036854775807 then (AW.l1 k x1 x7 x8 ((x9++(⟨#[32]⟩:ByteArray))++((((AL x345001 x12).f0)++(⟨#[64]⟩:ByteArray))++t359)) ((Aj x1 x12).f1) true x345000 x345001) else (none)) else (none))) else (none)) else (none)) else (none)) else (none)) else (none))) else (AW.l1 k x1 x7 x8 x9 x10 x11 x345000 x345001))
end
def AW.f (k:Nat) (A8:Int) (l0_1:List (S57)) (l1:List (S59)):Option (List ByteArray×Int):=(AU.f k A8 l0_1 l1).bind fun t345=>(if t345=0 then (AW.l0 k l1 ([]:List ByteArray) 0 A8 l0_1) else (some (([]:List ByteArray),t345)))
def AW.T17:Bool×List (List Nat×List Nat):=(true,[([],[]),([],[]),([0,1],[0,1]),([2],[2]),([3],[3]),([],[]),([4,5],[4,5]),([6],[6]),([7],[7]),([7],[7]),([8,9,7],[7,8,9]),([10,7],[7,10]),([11,7],[7,11]),([7],[7]),([12,13,7],[7,12,13]),([7,14],[7,14]),([15,7],[15]),([16],[16]),([17,16],[16,17]),([18,16,16],[16,18]),([19],[19]),([19],[19]),([20,21,19],[19,20,21]),([22,19],[19,22]),([23,19],[19,23]),([19],[19]),([19],[19]),([25,26,19],[19,25,26]),([27,19],[19,27]),([28,19],[19,28]),([24,29,19],[19,24,29]),([19,30,16],[16,19,30]),([16,31],[16,31])])
def AW.B17:List Nat:=[0,0,3,7,15,0,63,127,255,255,1023,2047,4095,255,16383,32767,65535,131071,262143,524287,1048575,1048575,4194303,8388607,16777215,1048575,1048575,101711871,235929599,504365055,1073741823,2147483647,4294967295]
theorem AW.tab17:rtab .any (Cq Tryd.f13 17)=AW.T17:=by kernel_rfl
theorem AW.bits17:Bz AW.T17.2 AW.B17=true:=by kernel_rfl
def AW.T22:Bool×List (List Nat×List Nat):=(true,[([],[]),([],[]),([1],[1]),([],[]),([2,3],[2,3]),([4],[4]),([5],[5]),([6],[6]),([],[]),([],[]),([8,9],[8,9]),([10],[10]),([11],[11]),([12],[12]),([7,13],[7,13]),([0,14],[0,14]),([15,13,0,1,2,3,4,5,6,7,8,9,10,11,12,13,14,15],[0,15])])
def AW.B22:List Nat:=[0,0,2,0,14,30,62,126,0,0,768,1792,3840,7936,16382,32767,65535]
theorem AW.tab22:rtab .any (Cq Tryd.f13 22)=AW.T22:=by kernel_rfl
theorem AW.bits22:Bz AW.T22.2 AW.B22=true:=by kernel_rfl
set_option maxHeartbeats 8000000 in
theorem AW.calls (k : Nat) (A8:Int) (A0_1:Option Addr) (c0_1:Nat) (l0_1:List (S57)) (A1:Option Addr) (c1:Nat) (l1:List (S59)) (r1:List ByteArray) (r2:Int) (w:World) (hr0_1:Kd.C k57 w A0_1 l0_1.length l0_1) (hc0_1:l0_1.length≤c0_1) (hr1:Kd.C k59 w A1 l1.length l1) (hc1:l1.length≤c1) (h:AW.f k A8 l0_1 l1=some (r1,r2)):
  Calls Tryd.prog 13 #[.agg #[.int .i64 A8,.slice A0_1 l0_1.length c0_1],.slice A1 l1.length c1] w fun e w'=>∃v0_:Value,e= .returned (.tuple #[v0_,.int .i64 r2])∧Kd.R Kd.string 9 w' w.heap.size (fun _=>True) v0_ r1∧Below w.heap.size w w':=by
 have hu24:=Tryd.underlying24
 have HR0_1:=yA hr0_1
 have HC0_1:=yA hc0_1
 clear hr0_1 hc0_1
 have HR1:=yA hr1
 have HC1:=yA hc1
 clear hr1 hc1
 have HB:=yA (Below.refl w.heap.size w)
 have H:((AU.f k A8 l0_1 l1).bind fun t345=>(if t345=0 then (AW.l0 k l1 ([]:List ByteArray) 0 A8 l0_1) else (some (([]:List ByteArray),t345))))=some (r1,r2):=h
 clear h
 replace H:=Option.bind_eq_some_iff.mp H
 obtain ⟨t345,A30,H⟩:=H
 replace H:(if t345=0 then (AW.l0 k l1 ([]:List ByteArray) 0 A8 l0_1) else (some (([]:List ByteArray),t345)))=some (r1,r2):=H
 have A3:=yA A30
 clear A30
 by_cases c4:t345=0
 ·rw [if_pos c4] at H
  have c4b0:(t345==0)=true:=beq_iff_eq.mpr c4
  have c4b1:(t345 !=0)=false:=bne_eq_false_iff_eq.mpr c4
  clear c4
  have H':=yA H
  clear H
  go_enter Tryd.func13,Tryd.ntmps13
  go_wp2_with (first|((with_reducible refine Ar (N:=2) rfl ?_); refine Ap ?hg (N:=2) ?hd (cs:= #[.int .i64 A8,.slice A0_1 l0_1.length c0_1]) (t:=24) ?hr ?_; (case hd=>rfl); (case hg=>rfl); (case hr=>first|(go_simp; done)|(go_simp; rfl)); intro gb344 hg w5 hbox hb; have n0_:=yA (AO zB hb); have n1_:=yA (hbox); have n2_:=yA ((by rw [hg]; exact (AT zB):w.heap.size≤gb344)); have n3_:=yA ((by rw [hg]; exact (AT zB):w.heap.size≤gb344)); clear HB; have HB:=n0_; have BK344:=n1_; have GW344:=n2_; have GE344:=n3_; clear n0_ n1_ n2_ n3_; clear hb hbox hg; have hcz6_0:w5.cell? ⟨gb344,0,none⟩=some (.int .i64 A8):=(AK BK344.out 0).trans rfl; have hcz6_1:w5.cell? ⟨gb344,1,none⟩=some (.slice A0_1 l0_1.length c0_1):=(AK BK344.out 1).trans rfl; have hfz6_0:=AJ BK344.out 0; have hfz6_1:=AJ BK344.out 1)|((with_reducible refine Ah (f:=17) rfl ?_); refine BB (some 16) rfl rfl Tryd.func17 zE rfl #[.agg #[.int .i64 A8,.slice A0_1 l0_1.length c0_1],.slice A1 l1.length c1] rfl zD ?_; (with_reducible refine (AU.calls k A8 _ _ l0_1 _ _ l1 t345 _ ?side1 ?side2 ?side3 ?side4 A3.out).mono ?_); (case side1=>repeat (first|exact (Kd.C_below HR0_1.out HB.out)|(with_reducible refine Kd.C_alloc ?_ _)|(with_reducible refine Kd.C_drewN ?_ _)|(with_reducible refine Kd.C_drew ?_))); (case side2=>exact HC0_1.out); (case side3=>repeat (first|exact (Kd.C_below HR1.out HB.out)|(with_reducible refine Kd.C_alloc ?_ _)|(with_reducible refine Kd.C_drewN ?_ _)|(with_reducible refine Kd.C_drew ?_))); (case side4=>exact HC1.out); rintro e w7 ⟨rfl,hb⟩; refine ⟨_,rfl,?_⟩; have n0_:=yA (AP (g:=gb344) (o:= .cells #[.int .i64 A8,.slice A0_1 l0_1.length c0_1] 24 (0,0)) (by (with_reducible repeat (first|refine AG ?_ _|refine AH ?_|refine AF ?_ _)); exact BK344.out) hb); have n1_:=yA (AO zC3 hb); clear BK344; clear HB; have BK344:=n0_; have HB:=n1_; clear n0_ n1_; (try clear hb); (try clear hb2); (try clear hk); (try clear hi)))
  go_loopg [7,8] k (fun kq v7 v8 w'=>∃(x7_1:List ByteArray) (x8_1:Int),v8= .int .i64 x8_1∧Aside0 (AW.l0 kq l1 x7_1 x8_1 A8 l0_1=some (r1,r2))∧Aside0 (kq≤k)∧Aside0 (Kd.R Kd.string 9 w' w.heap.size (fun _=>True) v7 x7_1)∧Aside0 (w'.heap[gb344]? =some (.cells #[.int .i64 A8,(.slice A0_1 l0_1.length c0_1)] 24 (0,0)))∧Aside0 (Below w.heap.size w w'))
  case atStart=>exact ⟨(([]:List ByteArray)),(0),zG,H',⟨Nat.le_refl _⟩,⟨by first|exact Kd.R_nil _ _ _ _ _|exact Kd.N_nil _ _ _ _ _|exact Kd.V_nil _ _ _ _ _|exact Kd.Q_nil _ _ _ _ _|exact Kd.S_nil _ _ _ _ _⟩,⟨by (with_reducible repeat (first|refine AG ?_ _|refine AH ?_|refine AF ?_ _)); exact BK344.out⟩,⟨by repeat (first|(with_reducible first|exact HB.out|apply AE|apply AC|apply AD|refine AI ?_ GE344.out)|exact HB.out)⟩⟩
  case round=>
   clear H'
   try clear c1
   try clear p2
   try clear c4
   try clear c4b0
   try clear c4b1
   try clear hcz6_0
   try clear hcz6_1
   try clear hfz6_0
   try clear hfz6_1
   obtain ⟨x7_1,x8_1,rfl,HA,HK1,HO_7,BK344,HB⟩:=hrel
   cases gk with
   |zero=>exact absurd HA.out (by simp [AW.l0])
   | succ k1 =>
    have H:=HA.out
    clear HA
    simp only [AW.l0] at H
    by_cases c8:x8_1<A8
    ·rw [if_pos c8] at H
     have c8b0:decide (x8_1<A8)=true:=decide_eq_true c8
     clear c8
     have H':=yA H
     clear H
     have hcz9_0:wr.cell? ⟨gb344,0,none⟩=some (.int .i64 A8):=(AK BK344.out 0).trans rfl
     have hcz9_1:wr.cell? ⟨gb344,1,none⟩=some (.slice A0_1 l0_1.length c0_1):=(AK BK344.out 1).trans rfl
     have hfz9_0:=AJ BK344.out 0
     have hfz9_1:=AJ BK344.out 1
     go_wp2
     go_loopg [9,10,11] k1 (fun kq v9 v10 v11 w'=>∃(x9_2:ByteArray) (x10_2:Int) (x11_2:Bool),v9= .string x9_2∧v10= .int .i64 x10_2∧v11= .bool x11_2∧Aside0 (AW.l1 kq l1 x7_1 x8_1 x9_2 x10_2 x11_2 A8 l0_1=some (r1,r2))∧Aside0 (kq≤k1)∧Aside0 (Kd.R Kd.string 9 w' w.heap.size (fun _=>True) u7 x7_1)∧Aside0 (w'.heap[gb344]? =some (.cells #[.int .i64 A8,(.slice A0_1 l0_1.length c0_1)] 24 (0,0)))∧Aside0 (Below w.heap.size w w'))
     case atStart=>exact ⟨((⟨#[]⟩:ByteArray)),((-1)),(true),zG,zG,zG,H',⟨Nat.le_refl _⟩,⟨by (with_reducible repeat (first|apply Kd.R_alloc|apply Kd.R_drewN|apply Kd.R_drew)); exact HO_7.out⟩,⟨by (with_reducible repeat (first|refine AG ?_ _|refine AH ?_|refine AF ?_ _)); exact BK344.out⟩,⟨by repeat (first|(with_reducible first|exact HB.out|apply AE|apply AC|apply AD|refine AI ?_ GE344.out)|exact HB.out)⟩⟩
     case round=>
      clear H'
      try clear c1
      try clear p2
      try clear c4
      try clear c4b0
      try clear c4b1
      try clear c8
      try clear c8b0
      try clear hcz6_0
      try clear hcz6_1
      try clear hcz9_0
      try clear hcz9_1
      try clear hfz6_0
      try clear hfz6_1
      try clear hfz9_0
      try clear hfz9_1
      try clear p2
      obtain ⟨x9_2,x10_2,x11_2,rfl,rfl,rfl,HA,HK2,HO_7,BK344,HB⟩:=hrel
      cases gk with
      |zero=>exact absurd HA.out (by simp [AW.l1])
      | succ k2 =>
       have H:=HA.out
       clear HA
       simp only [AW.l1] at H
       by_cases c10:x11_2=true
       ·subst c10
        have H1:(AW.l2 k2 l1 x7_1 x8_1 x9_2 x10_2 false (-1) 0 A8 l0_1)=some (r1,r2):=by rw [if_pos rfl] at H; exact H
        clear H
        have H:=H1
        clear H1
        have H':=yA H
        clear H
        go_wp2
        go_loopg [12,13] k2 (fun kq v12 v13 w'=>∃(x12_3:Int) (x13_3:Int),v12= .int .i64 x12_3∧v13= .int .i64 x13_3∧Aside0 (AW.l2 kq l1 x7_1 x8_1 x9_2 x10_2 false x12_3 x13_3 A8 l0_1=some (r1,r2))∧Aside0 (kq≤k2)∧Aside0 (Kd.R Kd.string 9 w' w.heap.size (fun _=>True) u7 x7_1)∧Aside0 (w'.heap[gb344]? =some (.cells #[.int .i64 A8,(.slice A0_1 l0_1.length c0_1)] 24 (0,0)))∧Aside0 (Below w.heap.size w w'))
        case atStart=>exact ⟨((-1)),(0),zG,zG,H',⟨Nat.le_refl _⟩,⟨by (with_reducible repeat (first|apply Kd.R_alloc|apply Kd.R_drewN|apply Kd.R_drew)); exact HO_7.out⟩,⟨by (with_reducible repeat (first|refine AG ?_ _|refine AH ?_|refine AF ?_ _)); exact BK344.out⟩,⟨by repeat (first|(with_reducible first|exact HB.out|apply AE|apply AC|apply AD|refine AI ?_ GE344.out)|exact HB.out)⟩⟩
        case round=>
         clear H'
         try clear c1
         try clear p2
         try clear c4
         try clear c4b0
         try clear c4b1
         try clear c8
         try clear c8b0
         try clear c10
         try clear hcz6_0
         try clear hcz6_1
         try clear hcz9_0
         try clear hcz9_1
         try clear hfz6_0
         try clear hfz6_1
         try clear hfz9_0
         try clear hfz9_1
         try clear p2
         obtain ⟨x12_3,x13_3,rfl,rfl,HA,HK3,HO_7,BK344,HB⟩:=hrel
         cases gk with
         |zero=>exact absurd HA.out (by simp [AW.l2])
         | succ k3 =>
          have H:=HA.out
          clear HA
          simp only [AW.l2] at H
          by_cases c11:x13_3<(l1.length:Int)
          ·rw [if_pos c11] at H
           have c11b0:decide (x13_3<(l1.length:Int))=true:=decide_eq_true c11
           clear c11
           by_cases c12:0≤x13_3
           ·rw [if_pos c12] at H
            have c12b0:decide (0≤x13_3)=true:=decide_eq_true c12
            clear c12
            by_cases c13:((Aj l1 x13_3).f0)=x8_1
            ·rw [if_pos c13] at H
             have c13b0:(((Aj l1 x13_3).f0)==x8_1)=true:=beq_iff_eq.mpr c13
             have c13b1:(((Aj l1 x13_3).f0) !=x8_1)=false:=bne_eq_false_iff_eq.mpr c13
             clear c13
             by_cases c14:((Aj l1 x13_3).f1)>x10_2
             ·rw [if_pos c14] at H
              have c14b0:decide (x10_2<((Aj l1 x13_3).f1))=true:=decide_eq_true c14
              clear c14
              by_cases c15:x12_3<0
              ·rw [if_pos c15] at H
               have c15b0:decide (x12_3<0)=true:=decide_eq_true c15
               clear c15
               have H':=yA H
               clear H
               try go_wp2
               have n0_:=yA (Kd.R_drew HO_7.out)
               have n1_:=yA (AH BK344.out)
               have n2_:=yA (AD HB.out)
               clear HO_7
               clear BK344
               clear HB
               have HO_7:=n0_
               have BK344:=n1_
               have HB:=n2_
               clear n0_ n1_ n2_
               have p349:0≤(x13_3:Int):=yD
               have q349:x13_3<(l1.length:Int):=yD
               obtain ⟨ad349,e349,hx349_0,hx349_1⟩:=BE HR1.out x13_3 p349 q349
               have hw349_1:=hx349_1
               have hw349_0:=hx349_0
               cases e349
               replace hx349_0:=yC HB.out hx349_0
               replace hx349_1:=yC HB.out hx349_1
               replace p349:=eq_true p349
               replace q349:=eq_true q349
               have p350:0≤(x13_3:Int):=yD
               have q350:x13_3<(l1.length:Int):=yD
               obtain ⟨ad350,e350,hx350_0,hx350_1⟩:=BE HR1.out x13_3 p350 q350
               have hw350_1:=hx350_1
               have hw350_0:=hx350_0
               obtain rfl:ad349=ad350:=(by injection e350)
               replace hx350_0:=yC HB.out hx350_0
               replace hx350_1:=yC HB.out hx350_1
               replace p350:=eq_true p350
               replace q350:=eq_true q350
               refine Bp (n:=33) (S:=fun w'=>w'.cell? (ad349.add ((x13_3).toNat*2))=some (.int .i64 ((Aj l1 x13_3).f0))∧w'.cell? ⟨(ad349.add ((x13_3).toNat*2)).block,(ad349.add ((x13_3).toNat*2)).off+1,none⟩=some (.int .i64 ((Aj l1 x13_3).f1))∧w'.cell? (ad349.add ((x13_3).toNat*2))=some (.int .i64 ((Aj l1 x13_3).f0))∧w'.cell? ⟨(ad349.add ((x13_3).toNat*2)).block,(ad349.add ((x13_3).toNat*2)).off+1,none⟩=some (.int .i64 ((Aj l1 x13_3).f1))) (ds:=[]) #[false,false,false,false,false,false,false,false,false,false,false,false,false,false,false,false,false,false,false,false,false,false,false,false,false,false,false,false,false,false,false,false,false] zE rfl rfl ⟨(yC HB.out hw349_0),(yC HB.out hw349_1),(yC HB.out hw350_0),(yC HB.out hw350_1)⟩ (fun hHeld=> ?_); refine BU AW.tab17 AW.bits17 (fun HT_ HW_=> ?_)
               generalize wr.drew=w16 at HO_7 BK344 HB hx349_0 hx349_1 hx350_0 hx350_1 hHeld ⊢
               refine AX (i:=0) (N:=some 33) (v:= ?_) (a':= ?_) #[true,false,false,false,false,false,false,false,false,false,false,false,false,false,false,false,false,false,false,false,false,false,false,false,false,false,false,false,false,false,false,false,false] rfl rfl (AQ HT_.out zE) (fun _ _ _ h=>h) (Or.inl ⟨by rfl,?_⟩) ?_ ?_; rotate_left; intro w'; go_simp; with_reducible rfl; rotate_left; exact yB
               refine AX (i:=1) (N:=some 34) (v:= ?_) (a':= ?_) #[true,true,false,false,false,false,false,false,false,false,false,false,false,false,false,false,false,false,false,false,false,false,false,false,false,false,false,false,false,false,false,false,false] rfl rfl (AQ HT_.out zE) (fun _ _ _ h=>h) (Or.inl ⟨by rfl,?_⟩) ?_ ?_; rotate_left; intro w'; go_simp; with_reducible rfl; rotate_left; exact yB
               refine AX (i:=2) (N:=some 35) (v:= ?_) (a':= ?_) #[true,true,true,false,false,false,false,false,false,false,false,false,false,false,false,false,false,false,false,false,false,false,false,false,false,false,false,false,false,false,false,false,false] rfl rfl (AQ HT_.out zE) (fun _ _ _ h=>h) (Or.inl ⟨by rfl,?_⟩) ?_ ?_; rotate_left; intro w'; go_simp; with_reducible rfl; rotate_left; exact yB
               refine AX (i:=3) (N:=some 36) (v:= ?_) (a':= ?_) #[true,true,true,true,false,false,false,false,false,false,false,false,false,false,false,false,false,false,false,false,false,false,false,false,false,false,false,false,false,false,false,false,false] rfl rfl (AQ HT_.out zE) (fun _ _ _ h=>h) (Or.inl ⟨by rfl,?_⟩) ?_ ?_; rotate_left; intro w'; go_simp; with_reducible rfl; rotate_left; exact yB
               refine AX (i:=5) (N:=some 38) (v:= ?_) (a':= ?_) #[true,true,true,true,false,true,false,false,false,false,false,false,false,false,false,false,false,false,false,false,false,false,false,false,false,false,false,false,false,false,false,false,false] rfl rfl (AQ HT_.out zE) (fun _ _ _ h=>h) (Or.inl ⟨by rfl,?_⟩) ?_ ?_; rotate_left; intro w'; go_simp; with_reducible rfl; rotate_left; exact yB
               refine BK (i:=4) (N:=some 37) (v:= ?_) (a':= ?_) #[true,true,true,true,true,true,false,false,false,false,false,false,false,false,false,false,false,false,false,false,false,false,false,false,false,false,false,false,false,false,false,false,false] rfl rfl (B4 HT_.out HW_.out zE) (fun _ _ _ h=>h) (Or.inl ⟨by rfl,?_⟩) hHeld ?_ ?_; rotate_left; rintro w' ⟨s0,s1,s2,s3⟩; go_simp; with_reducible rfl; rotate_left; exact yB
               refine AX (i:=6) (N:=some 39) (v:= ?_) (a':= ?_) #[true,true,true,true,true,true,true,false,false,false,false,false,false,false,false,false,false,false,false,false,false,false,false,false,false,false,false,false,false,false,false,false,false] rfl rfl (AQ HT_.out zE) (fun _ _ _ h=>h) (Or.inl ⟨by rfl,?_⟩) ?_ ?_; rotate_left; intro w'; go_simp; with_reducible rfl; rotate_left; exact yB
               refine AX (i:=7) (N:=some 40) (v:= ?_) (a':= ?_) #[true,true,true,true,true,true,true,true,false,false,false,false,false,false,false,false,false,false,false,false,false,false,false,false,false,false,false,false,false,false,false,false,false] rfl rfl (AQ HT_.out zE) (fun _ _ _ h=>h) (Or.inl ⟨by rfl,?_⟩) ?_ ?_; rotate_left; intro w'; go_simp; with_reducible rfl; rotate_left; exact yB
               refine AX (i:=8) (N:=some 41) (v:= ?_) (a':= ?_) #[true,true,true,true,true,true,true,true,true,false,false,false,false,false,false,false,false,false,false,false,false,false,false,false,false,false,false,false,false,false,false,false,false] rfl rfl (AQ HT_.out zE) (fun _ _ _ h=>h) (Or.inl ⟨by rfl,?_⟩) ?_ ?_; rotate_left; intro w'; go_simp; with_reducible rfl; rotate_left; exact yB
               refine AX (i:=9) (N:=some 42) (v:= ?_) (a':= ?_) #[true,true,true,true,true,true,true,true,true,true,false,false,false,false,false,false,false,false,false,false,false,false,false,false,false,false,false,false,false,false,false,false,false] rfl rfl (AQ HT_.out zE) (fun _ _ _ h=>h) (Or.inl ⟨by rfl,?_⟩) ?_ ?_; rotate_left; intro w'; go_simp; with_reducible rfl; rotate_left; exact yB
               refine AX (i:=10) (N:=some 43) (v:= ?_) (a':= ?_) #[true,true,true,true,true,true,true,true,true,true,true,false,false,false,false,false,false,false,false,false,false,false,false,false,false,false,false,false,false,false,false,false,false] rfl rfl (AQ HT_.out zE) (fun _ _ _ h=>h) (Or.inl ⟨by rfl,?_⟩) ?_ ?_; rotate_left; intro w'; go_simp; with_reducible rfl; rotate_left; exact yB
               refine AX (i:=11) (N:=some 44) (v:= ?_) (a':= ?_) #[true,true,true,true,true,true,true,true,true,true,true,true,false,false,false,false,false,false,false,false,false,false,false,false,false,false,false,false,false,false,false,false,false] rfl rfl (AQ HT_.out zE) (fun _ _ _ h=>h) (Or.inl ⟨by rfl,?_⟩) ?_ ?_; rotate_left; intro w'; go_simp; with_reducible rfl; rotate_left; exact yB
               refine AX (i:=13) (N:=some 46) (v:= ?_) (a':= ?_) #[true,true,true,true,true,true,true,true,true,true,true,true,false,true,false,false,false,false,false,false,false,false,false,false,false,false,false,false,false,false,false,false,false] rfl rfl (AQ HT_.out zE) (fun _ _ _ h=>h) (Or.inl ⟨by rfl,?_⟩) ?_ ?_; rotate_left; intro w'; go_simp; with_reducible rfl; rotate_left; exact yB
               refine BK (i:=12) (N:=some 45) (v:= ?_) (a':= ?_) #[true,true,true,true,true,true,true,true,true,true,true,true,true,true,false,false,false,false,false,false,false,false,false,false,false,false,false,false,false,false,false,false,false] rfl rfl (B4 HT_.out HW_.out zE) (fun _ _ _ h=>h) (Or.inl ⟨by rfl,?_⟩) hHeld ?_ ?_; rotate_left; rintro w' ⟨s0,s1,s2,s3⟩; go_simp; with_reducible rfl; rotate_left; exact yB
               refine AX (i:=14) (N:=some 47) (v:= ?_) (a':= ?_) #[true,true,true,true,true,true,true,true,true,true,true,true,true,true,true,false,false,false,false,false,false,false,false,false,false,false,false,false,false,false,false,false,false] rfl rfl (AQ HT_.out zE) (fun _ _ _ h=>h) (Or.inl ⟨by rfl,?_⟩) ?_ ?_; rotate_left; intro w'; go_simp; with_reducible rfl; rotate_left; exact yB
               refine AX (i:=15) (N:=some 48) (v:= ?_) (a':= ?_) #[true,true,true,true,true,true,true,true,true,true,true,true,true,true,true,true,false,false,false,false,false,false,false,false,false,false,false,false,false,false,false,false,false] rfl rfl (AQ HT_.out zE) (fun _ _ _ h=>h) (Or.inl ⟨by rfl,?_⟩) ?_ ?_; rotate_left; intro w'; go_simp; with_reducible rfl; rotate_left; exact yB
               refine AX (i:=16) (N:=some 49) (v:= ?_) (a':= ?_) #[true,true,true,true,true,true,true,true,true,true,true,true,true,true,true,true,true,false,false,false,false,false,false,false,false,false,false,false,false,false,false,false,false] rfl rfl (AQ HT_.out zE) (fun _ _ _ h=>h) (Or.inl ⟨by rfl,?_⟩) ?_ ?_; rotate_left; intro w'; go_simp; with_reducible rfl; rotate_left; exact yB
               refine AX (i:=17) (N:=some 50) (v:= ?_) (a':= ?_) #[true,true,true,true,true,true,true,true,true,true,true,true,true,true,true,true,true,true,false,false,false,false,false,false,false,false,false,false,false,false,false,false,false] rfl rfl (AQ HT_.out zE) (fun _ _ _ h=>h) (Or.inl ⟨by rfl,?_⟩) ?_ ?_; rotate_left; intro w'; go_simp; with_reducible rfl; rotate_left; exact yB
               refine AX (i:=18) (N:=some 51) (v:= ?_) (a':= ?_) #[true,true,true,true,true,true,true,true,true,true,true,true,true,true,true,true,true,true,true,false,false,false,false,false,false,false,false,false,false,false,false,false,false] rfl rfl (AQ HT_.out zE) (fun _ _ _ h=>h) (Or.inl ⟨by rfl,?_⟩) ?_ ?_; rotate_left; intro w'; go_simp; with_reducible rfl; rotate_left; exact yB
               refine AX (i:=19) (N:=some 52) (v:= ?_) (a':= ?_) #[true,true,true,true,true,true,true,true,true,true,true,true,true,true,true,true,true,true,true,true,false,false,false,false,false,false,false,false,false,false,false,false,false] rfl rfl (AQ HT_.out zE) (fun _ _ _ h=>h) (Or.inl ⟨by rfl,?_⟩) ?_ ?_; rotate_left; intro w'; go_simp; with_reducible rfl; rotate_left; exact yB
               refine AX (i:=20) (N:=some 53) (v:=undef) (a':= ?_) #[true,true,true,true,true,true,true,true,true,true,true,true,true,true,true,true,true,true,true,true,true,false,false,false,false,false,false,false,false,false,false,false,false] rfl rfl (AQ HT_.out zE) (fun _ _ _ h=>h) (Or.inr ⟨by rfl,rfl⟩) ?_ ?_
               rotate_left
               ·exact yB
               refine AX (i:=21) (N:=some 54) (v:=undef) (a':= ?_) #[true,true,true,true,true,true,true,true,true,true,true,true,true,true,true,true,true,true,true,true,true,true,false,false,false,false,false,false,false,false,false,false,false] rfl rfl (AQ HT_.out zE) (fun _ _ _ h=>h) (Or.inr ⟨by rfl,rfl⟩) ?_ ?_
               rotate_left
               ·exact yB
               refine AX (i:=22) (N:=some 55) (v:=undef) (a':= ?_) #[true,true,true,true,true,true,true,true,true,true,true,true,true,true,true,true,true,true,true,true,true,true,true,false,false,false,false,false,false,false,false,false,false] rfl rfl (AQ HT_.out zE) (fun _ _ _ h=>h) (Or.inr ⟨by rfl,rfl⟩) ?_ ?_
               rotate_left
               ·exact yB
               refine AX (i:=23) (N:=some 56) (v:=undef) (a':= ?_) #[true,true,true,true,true,true,true,true,true,true,true,true,true,true,true,true,true,true,true,true,true,true,true,true,false,false,false,false,false,false,false,false,false] rfl rfl (AQ HT_.out zE) (fun _ _ _ h=>h) (Or.inr ⟨by rfl,rfl⟩) ?_ ?_
               rotate_left
               ·exact yB
               refine AX (i:=24) (N:=some 57) (v:=undef) (a':= ?_) #[true,true,true,true,true,true,true,true,true,true,true,true,true,true,true,true,true,true,true,true,true,true,true,true,true,false,false,false,false,false,false,false,false] rfl rfl (AQ HT_.out zE) (fun _ _ _ h=>h) (Or.inr ⟨by rfl,rfl⟩) ?_ ?_
               rotate_left
               ·exact yB
               refine AX (i:=25) (N:=some 58) (v:=undef) (a':= ?_) #[true,true,true,true,true,true,true,true,true,true,true,true,true,true,true,true,true,true,true,true,true,true,true,true,true,true,false,false,false,false,false,false,false] rfl rfl (AQ HT_.out zE) (fun _ _ _ h=>h) (Or.inr ⟨by rfl,rfl⟩) ?_ ?_
               rotate_left
               ·exact yB
               refine AX (i:=26) (N:=some 59) (v:=undef) (a':= ?_) #[true,true,true,true,true,true,true,true,true,true,true,true,true,true,true,true,true,true,true,true,true,true,true,true,true,true,true,false,false,false,false,false,false] rfl rfl (AQ HT_.out zE) (fun _ _ _ h=>h) (Or.inr ⟨by rfl,rfl⟩) ?_ ?_
               rotate_left
               ·exact yB
               refine AX (i:=27) (N:=some 60) (v:=undef) (a':= ?_) #[true,true,true,true,true,true,true,true,true,true,true,true,true,true,true,true,true,true,true,true,true,true,true,true,true,true,true,true,false,false,false,false,false] rfl rfl (AQ HT_.out zE) (fun _ _ _ h=>h) (Or.inr ⟨by rfl,rfl⟩) ?_ ?_
               rotate_left
               ·exact yB
               refine AX (i:=28) (N:=some 61) (v:=undef) (a':= ?_) #[true,true,true,true,true,true,true,true,true,true,true,true,true,true,true,true,true,true,true,true,true,true,true,true,true,true,true,true,true,false,false,false,false] rfl rfl (AQ HT_.out zE) (fun _ _ _ h=>h) (Or.inr ⟨by rfl,rfl⟩) ?_ ?_
               rotate_left
               ·exact yB
               refine AX (i:=29) (N:=some 62) (v:=undef) (a':= ?_) #[true,true,true,true,true,true,true,true,true,true,true,true,true,true,true,true,true,true,true,true,true,true,true,true,true,true,true,true,true,true,false,false,false] rfl rfl (AQ HT_.out zE) (fun _ _ _ h=>h) (Or.inr ⟨by rfl,rfl⟩) ?_ ?_
               rotate_left
               ·exact yB
               refine AX (i:=30) (N:=some 63) (v:=undef) (a':= ?_) #[true,true,true,true,true,true,true,true,true,true,true,true,true,true,true,true,true,true,true,true,true,true,true,true,true,true,true,true,true,true,true,false,false] rfl rfl (AQ HT_.out zE) (fun _ _ _ h=>h) (Or.inr ⟨by rfl,rfl⟩) ?_ ?_
               rotate_left
               ·exact yB
               refine AX (i:=31) (N:=some 64) (v:= ?_) (a':= ?_) #[true,true,true,true,true,true,true,true,true,true,true,true,true,true,true,true,true,true,true,true,true,true,true,true,true,true,true,true,true,true,true,true,false] rfl rfl (AQ HT_.out zE) (fun _ _ _ h=>h) (Or.inl ⟨by rfl,?_⟩) ?_ ?_; rotate_left; intro w'; go_simp; with_reducible rfl; rotate_left; exact yB
               refine AX (i:=32) (N:=some 65) (v:= ?_) (a':= ?_) #[true,true,true,true,true,true,true,true,true,true,true,true,true,true,true,true,true,true,true,true,true,true,true,true,true,true,true,true,true,true,true,true,true] rfl rfl (AQ HT_.out zE) (fun _ _ _ h=>h) (Or.inl ⟨by rfl,?_⟩) ?_ ?_; rotate_left; intro w'; go_simp; with_reducible rfl; rotate_left; exact yB
               refine C7 (Bm HT_.out zE) ?_
               try go_wp2
               go_roundg k3
               case measure=>have:=HK1.out; have:=HK2.out; have:=HK3.out; omega
               case rel=>exact ⟨(x13_3),(wrap64 (x13_3+1)),zG,zG,H',⟨by have:=HK1.out; have:=HK2.out; have:=HK3.out; omega⟩,⟨by (with_reducible repeat (first|apply Kd.R_alloc|apply Kd.R_drewN|apply Kd.R_drew)); exact HO_7.out⟩,⟨by (with_reducible repeat (first|refine AG ?_ _|refine AH ?_|refine AF ?_ _)); exact BK344.out⟩,⟨by repeat (first|(with_reducible first|exact HB.out|apply AE|apply AC|apply AD|refine AI ?_ GE344.out)|exact HB.out)⟩⟩
              ·rw [if_neg c15] at H
               have c15b0:decide (x12_3<0)=false:=decide_eq_false c15
               clear c15
               by_cases c17:0≤x12_3
               ·rw [if_pos c17] at H
                have c17b0:decide (0≤x12_3)=true:=decide_eq_true c17
                clear c17
                by_cases c18:x12_3<(l1.length:Int)
                ·rw [if_pos c18] at H
                 have c18b0:decide (x12_3<(l1.length:Int))=true:=decide_eq_true c18
                 clear c18
                 by_cases c19:((Aj l1 x13_3).f1)<((Aj l1 x12_3).f1)
                 ·rw [if_pos c19] at H
                  have c19b0:decide (((Aj l1 x13_3).f1)<((Aj l1 x12_3).f1))=true:=decide_eq_true c19
                  clear c19
                  have H':=yA H
                  clear H
                  try go_wp2
                  have n0_:=yA (Kd.R_drew HO_7.out)
                  have n1_:=yA (AH BK344.out)
                  have n2_:=yA (AD HB.out)
                  clear HO_7
                  clear BK344
                  clear HB
                  have HO_7:=n0_
                  have BK344:=n1_
                  have HB:=n2_
                  clear n0_ n1_ n2_
                  have p349:0≤(x13_3:Int):=yD
                  have q349:x13_3<(l1.length:Int):=yD
                  obtain ⟨ad349,e349,hx349_0,hx349_1⟩:=BE HR1.out x13_3 p349 q349
                  have hw349_1:=hx349_1
                  have hw349_0:=hx349_0
                  cases e349
                  replace hx349_0:=yC HB.out hx349_0
                  replace hx349_1:=yC HB.out hx349_1
                  replace p349:=eq_true p349
                  replace q349:=eq_true q349
                  have p350:0≤(x13_3:Int):=yD
                  have q350:x13_3<(l1.length:Int):=yD
                  obtain ⟨ad350,e350,hx350_0,hx350_1⟩:=BE HR1.out x13_3 p350 q350
                  have hw350_1:=hx350_1
                  have hw350_0:=hx350_0
                  obtain rfl:ad349=ad350:=(by injection e350)
                  replace hx350_0:=yC HB.out hx350_0
                  replace hx350_1:=yC HB.out hx350_1
                  replace p350:=eq_true p350
                  replace q350:=eq_true q350
                  have p351:0≤(x13_3:Int):=yD
                  have q351:x13_3<(l1.length:Int):=yD
                  obtain ⟨ad351,e351,hx351_0,hx351_1⟩:=BE HR1.out x13_3 p351 q351
                  have hw351_1:=hx351_1
                  have hw351_0:=hx351_0
                  obtain rfl:ad349=ad351:=(by injection e351)
                  replace hx351_0:=yC HB.out hx351_0
                  replace hx351_1:=yC HB.out hx351_1
                  replace p351:=eq_true p351
                  replace q351:=eq_true q351
                  have p352:0≤(x12_3:Int):=yD
                  have q352:x12_3<(l1.length:Int):=yD
                  obtain ⟨ad352,e352,hx352_0,hx352_1⟩:=BE HR1.out x12_3 p352 q352
                  have hw352_1:=hx352_1
                  have hw352_0:=hx352_0
                  obtain rfl:ad349=ad352:=(by injection e352)
                  replace hx352_0:=yC HB.out hx352_0
                  replace hx352_1:=yC HB.out hx352_1
                  replace p352:=eq_true p352
                  replace q352:=eq_true q352
                  refine Bp (n:=33) (S:=fun w'=>w'.cell? (ad349.add ((x13_3).toNat*2))=some (.int .i64 ((Aj l1 x13_3).f0))∧w'.cell? ⟨(ad349.add ((x13_3).toNat*2)).block,(ad349.add ((x13_3).toNat*2)).off+1,none⟩=some (.int .i64 ((Aj l1 x13_3).f1))∧w'.cell? (ad349.add ((x13_3).toNat*2))=some (.int .i64 ((Aj l1 x13_3).f0))∧w'.cell? ⟨(ad349.add ((x13_3).toNat*2)).block,(ad349.add ((x13_3).toNat*2)).off+1,none⟩=some (.int .i64 ((Aj l1 x13_3).f1))∧w'.cell? (ad349.add ((x13_3).toNat*2))=some (.int .i64 ((Aj l1 x13_3).f0))∧w'.cell? ⟨(ad349.add ((x13_3).toNat*2)).block,(ad349.add ((x13_3).toNat*2)).off+1,none⟩=some (.int .i64 ((Aj l1 x13_3).f1))∧w'.cell? (ad349.add ((x12_3).toNat*2))=some (.int .i64 ((Aj l1 x12_3).f0))∧w'.cell? ⟨(ad349.add ((x12_3).toNat*2)).block,(ad349.add ((x12_3).toNat*2)).off+1,none⟩=some (.int .i64 ((Aj l1 x12_3).f1))) (ds:=[]) #[false,false,false,false,false,false,false,false,false,false,false,false,false,false,false,false,false,false,false,false,false,false,false,false,false,false,false,false,false,false,false,false,false] zE rfl rfl ⟨(yC HB.out hw349_0),(yC HB.out hw349_1),(yC HB.out hw350_0),(yC HB.out hw350_1),(yC HB.out hw351_0),(yC HB.out hw351_1),(yC HB.out hw352_0),(yC HB.out hw352_1)⟩ (fun hHeld=> ?_); refine BU AW.tab17 AW.bits17 (fun HT_ HW_=> ?_)
                  generalize wr.drew=w20 at HO_7 BK344 HB hx349_0 hx349_1 hx350_0 hx350_1 hx351_0 hx351_1 hx352_0 hx352_1 hHeld ⊢
                  refine AX (i:=0) (N:=some 33) (v:= ?_) (a':= ?_) #[true,false,false,false,false,false,false,false,false,false,false,false,false,false,false,false,false,false,false,false,false,false,false,false,false,false,false,false,false,false,false,false,false] rfl rfl (AQ HT_.out zE) (fun _ _ _ h=>h) (Or.inl ⟨by rfl,?_⟩) ?_ ?_; rotate_left; intro w'; go_simp; with_reducible rfl; rotate_left; exact yB
                  refine AX (i:=1) (N:=some 34) (v:= ?_) (a':= ?_) #[true,true,false,false,false,false,false,false,false,false,false,false,false,false,false,false,false,false,false,false,false,false,false,false,false,false,false,false,false,false,false,false,false] rfl rfl (AQ HT_.out zE) (fun _ _ _ h=>h) (Or.inl ⟨by rfl,?_⟩) ?_ ?_; rotate_left; intro w'; go_simp; with_reducible rfl; rotate_left; exact yB
                  refine AX (i:=2) (N:=some 35) (v:= ?_) (a':= ?_) #[true,true,true,false,false,false,false,false,false,false,false,false,false,false,false,false,false,false,false,false,false,false,false,false,false,false,false,false,false,false,false,false,false] rfl rfl (AQ HT_.out zE) (fun _ _ _ h=>h) (Or.inl ⟨by rfl,?_⟩) ?_ ?_; rotate_left; intro w'; go_simp; with_reducible rfl; rotate_left; exact yB
                  refine AX (i:=3) (N:=some 36) (v:= ?_) (a':= ?_) #[true,true,true,true,false,false,false,false,false,false,false,false,false,false,false,false,false,false,false,false,false,false,false,false,false,false,false,false,false,false,false,false,false] rfl rfl (AQ HT_.out zE) (fun _ _ _ h=>h) (Or.inl ⟨by rfl,?_⟩) ?_ ?_; rotate_left; intro w'; go_simp; with_reducible rfl; rotate_left; exact yB
                  refine AX (i:=5) (N:=some 38) (v:= ?_) (a':= ?_) #[true,true,true,true,false,true,false,false,false,false,false,false,false,false,false,false,false,false,false,false,false,false,false,false,false,false,false,false,false,false,false,false,false] rfl rfl (AQ HT_.out zE) (fun _ _ _ h=>h) (Or.inl ⟨by rfl,?_⟩) ?_ ?_; rotate_left; intro w'; go_simp; with_reducible rfl; rotate_left; exact yB
                  refine BK (i:=4) (N:=some 37) (v:= ?_) (a':= ?_) #[true,true,true,true,true,true,false,false,false,false,false,false,false,false,false,false,false,false,false,false,false,false,false,false,false,false,false,false,false,false,false,false,false] rfl rfl (B4 HT_.out HW_.out zE) (fun _ _ _ h=>h) (Or.inl ⟨by rfl,?_⟩) hHeld ?_ ?_; rotate_left; rintro w' ⟨s0,s1,s2,s3,s4,s5,s6,s7⟩; go_simp; with_reducible rfl; rotate_left; exact yB
                  refine AX (i:=6) (N:=some 39) (v:= ?_) (a':= ?_) #[true,true,true,true,true,true,true,false,false,false,false,false,false,false,false,false,false,false,false,false,false,false,false,false,false,false,false,false,false,false,false,false,false] rfl rfl (AQ HT_.out zE) (fun _ _ _ h=>h) (Or.inl ⟨by rfl,?_⟩) ?_ ?_; rotate_left; intro w'; go_simp; with_reducible rfl; rotate_left; exact yB
                  refine AX (i:=7) (N:=some 40) (v:= ?_) (a':= ?_) #[true,true,true,true,true,true,true,true,false,false,false,false,false,false,false,false,false,false,false,false,false,false,false,false,false,false,false,false,false,false,false,false,false] rfl rfl (AQ HT_.out zE) (fun _ _ _ h=>h) (Or.inl ⟨by rfl,?_⟩) ?_ ?_; rotate_left; intro w'; go_simp; with_reducible rfl; rotate_left; exact yB
                  refine AX (i:=8) (N:=some 41) (v:= ?_) (a':= ?_) #[true,true,true,true,true,true,true,true,true,false,false,false,false,false,false,false,false,false,false,false,false,false,false,false,false,false,false,false,false,false,false,false,false] rfl rfl (AQ HT_.out zE) (fun _ _ _ h=>h) (Or.inl ⟨by rfl,?_⟩) ?_ ?_; rotate_left; intro w'; go_simp; with_reducible rfl; rotate_left; exact yB
                  refine AX (i:=9) (N:=some 42) (v:= ?_) (a':= ?_) #[true,true,true,true,true,true,true,true,true,true,false,false,false,false,false,false,false,false,false,false,false,false,false,false,false,false,false,false,false,false,false,false,false] rfl rfl (AQ HT_.out zE) (fun _ _ _ h=>h) (Or.inl ⟨by rfl,?_⟩) ?_ ?_; rotate_left; intro w'; go_simp; with_reducible rfl; rotate_left; exact yB
                  refine AX (i:=10) (N:=some 43) (v:= ?_) (a':= ?_) #[true,true,true,true,true,true,true,true,true,true,true,false,false,false,false,false,false,false,false,false,false,false,false,false,false,false,false,false,false,false,false,false,false] rfl rfl (AQ HT_.out zE) (fun _ _ _ h=>h) (Or.inl ⟨by rfl,?_⟩) ?_ ?_; rotate_left; intro w'; go_simp; with_reducible rfl; rotate_left; exact yB
                  refine AX (i:=11) (N:=some 44) (v:= ?_) (a':= ?_) #[true,true,true,true,true,true,true,true,true,true,true,true,false,false,false,false,false,false,false,false,false,false,false,false,false,false,false,false,false,false,false,false,false] rfl rfl (AQ HT_.out zE) (fun _ _ _ h=>h) (Or.inl ⟨by rfl,?_⟩) ?_ ?_; rotate_left; intro w'; go_simp; with_reducible rfl; rotate_left; exact yB
                  refine AX (i:=13) (N:=some 46) (v:= ?_) (a':= ?_) #[true,true,true,true,true,true,true,true,true,true,true,true,false,true,false,false,false,false,false,false,false,false,false,false,false,false,false,false,false,false,false,false,false] rfl rfl (AQ HT_.out zE) (fun _ _ _ h=>h) (Or.inl ⟨by rfl,?_⟩) ?_ ?_; rotate_left; intro w'; go_simp; with_reducible rfl; rotate_left; exact yB
                  refine BK (i:=12) (N:=some 45) (v:= ?_) (a':= ?_) #[true,true,true,true,true,true,true,true,true,true,true,true,true,true,false,false,false,false,false,false,false,false,false,false,false,false,false,false,false,false,false,false,false] rfl rfl (B4 HT_.out HW_.out zE) (fun _ _ _ h=>h) (Or.inl ⟨by rfl,?_⟩) hHeld ?_ ?_; rotate_left; rintro w' ⟨s0,s1,s2,s3,s4,s5,s6,s7⟩; go_simp; with_reducible rfl; rotate_left; exact yB
                  refine AX (i:=14) (N:=some 47) (v:= ?_) (a':= ?_) #[true,true,true,true,true,true,true,true,true,true,true,true,true,true,true,false,false,false,false,false,false,false,false,false,false,false,false,false,false,false,false,false,false] rfl rfl (AQ HT_.out zE) (fun _ _ _ h=>h) (Or.inl ⟨by rfl,?_⟩) ?_ ?_; rotate_left; intro w'; go_simp; with_reducible rfl; rotate_left; exact yB
                  refine AX (i:=15) (N:=some 48) (v:= ?_) (a':= ?_) #[true,true,true,true,true,true,true,true,true,true,true,true,true,true,true,true,false,false,false,false,false,false,false,false,false,false,false,false,false,false,false,false,false] rfl rfl (AQ HT_.out zE) (fun _ _ _ h=>h) (Or.inl ⟨by rfl,?_⟩) ?_ ?_; rotate_left; intro w'; go_simp; with_reducible rfl; rotate_left; exact yB
                  refine AX (i:=16) (N:=some 49) (v:= ?_) (a':= ?_) #[true,true,true,true,true,true,true,true,true,true,true,true,true,true,true,true,true,false,false,false,false,false,false,false,false,false,false,false,false,false,false,false,false] rfl rfl (AQ HT_.out zE) (fun _ _ _ h=>h) (Or.inl ⟨by rfl,?_⟩) ?_ ?_; rotate_left; intro w'; go_simp; with_reducible rfl; rotate_left; exact yB
                  refine AX (i:=17) (N:=some 50) (v:= ?_) (a':= ?_) #[true,true,true,true,true,true,true,true,true,true,true,true,true,true,true,true,true,true,false,false,false,false,false,false,false,false,false,false,false,false,false,false,false] rfl rfl (AQ HT_.out zE) (fun _ _ _ h=>h) (Or.inl ⟨by rfl,?_⟩) ?_ ?_; rotate_left; intro w'; go_simp; with_reducible rfl; rotate_left; exact yB
                  refine AX (i:=18) (N:=some 51) (v:= ?_) (a':= ?_) #[true,true,true,true,true,true,true,true,true,true,true,true,true,true,true,true,true,true,true,false,false,false,false,false,false,false,false,false,false,false,false,false,false] rfl rfl (AQ HT_.out zE) (fun _ _ _ h=>h) (Or.inl ⟨by rfl,?_⟩) ?_ ?_; rotate_left; intro w'; go_simp; with_reducible rfl; rotate_left; exact yB
                  refine AX (i:=19) (N:=some 52) (v:= ?_) (a':= ?_) #[true,true,true,true,true,true,true,true,true,true,true,true,true,true,true,true,true,true,true,true,false,false,false,false,false,false,false,false,false,false,false,false,false] rfl rfl (AQ HT_.out zE) (fun _ _ _ h=>h) (Or.inl ⟨by rfl,?_⟩) ?_ ?_; rotate_left; intro w'; go_simp; with_reducible rfl; rotate_left; exact yB
                  refine AX (i:=20) (N:=some 53) (v:= ?_) (a':= ?_) #[true,true,true,true,true,true,true,true,true,true,true,true,true,true,true,true,true,true,true,true,true,false,false,false,false,false,false,false,false,false,false,false,false] rfl rfl (AQ HT_.out zE) (fun _ _ _ h=>h) (Or.inl ⟨by rfl,?_⟩) ?_ ?_; rotate_left; intro w'; go_simp; with_reducible rfl; rotate_left; exact yB
                  refine AX (i:=21) (N:=some 54) (v:= ?_) (a':= ?_) #[true,true,true,true,true,true,true,true,true,true,true,true,true,true,true,true,true,true,true,true,true,true,false,false,false,false,false,false,false,false,false,false,false] rfl rfl (AQ HT_.out zE) (fun _ _ _ h=>h) (Or.inl ⟨by rfl,?_⟩) ?_ ?_; rotate_left; intro w'; go_simp; with_reducible rfl; rotate_left; exact yB
                  refine AX (i:=22) (N:=some 55) (v:= ?_) (a':= ?_) #[true,true,true,true,true,true,true,true,true,true,true,true,true,true,true,true,true,true,true,true,true,true,true,false,false,false,false,false,false,false,false,false,false] rfl rfl (AQ HT_.out zE) (fun _ _ _ h=>h) (Or.inl ⟨by rfl,?_⟩) ?_ ?_; rotate_left; intro w'; go_simp; with_reducible rfl; rotate_left; exact yB
                  refine AX (i:=23) (N:=some 56) (v:= ?_) (a':= ?_) #[true,true,true,true,true,true,true,true,true,true,true,true,true,true,true,true,true,true,true,true,true,true,true,true,false,false,false,false,false,false,false,false,false] rfl rfl (AQ HT_.out zE) (fun _ _ _ h=>h) (Or.inl ⟨by rfl,?_⟩) ?_ ?_; rotate_left; intro w'; go_simp; with_reducible rfl; rotate_left; exact yB
                  refine AX (i:=25) (N:=some 58) (v:= ?_) (a':= ?_) #[true,true,true,true,true,true,true,true,true,true,true,true,true,true,true,true,true,true,true,true,true,true,true,true,false,true,false,false,false,false,false,false,false] rfl rfl (AQ HT_.out zE) (fun _ _ _ h=>h) (Or.inl ⟨by rfl,?_⟩) ?_ ?_; rotate_left; intro w'; go_simp; with_reducible rfl; rotate_left; exact yB
                  refine AX (i:=26) (N:=some 59) (v:= ?_) (a':= ?_) #[true,true,true,true,true,true,true,true,true,true,true,true,true,true,true,true,true,true,true,true,true,true,true,true,false,true,true,false,false,false,false,false,false] rfl rfl (AQ HT_.out zE) (fun _ _ _ h=>h) (Or.inl ⟨by rfl,?_⟩) ?_ ?_; rotate_left; intro w'; go_simp; with_reducible rfl; rotate_left; exact yB
                  refine AX (i:=27) (N:=some 60) (v:= ?_) (a':= ?_) #[true,true,true,true,true,true,true,true,true,true,true,true,true,true,true,true,true,true,true,true,true,true,true,true,false,true,true,true,false,false,false,false,false] rfl rfl (AQ HT_.out zE) (fun _ _ _ h=>h) (Or.inl ⟨by rfl,?_⟩) ?_ ?_; rotate_left; intro w'; go_simp; with_reducible rfl; rotate_left; exact yB
                  refine AX (i:=28) (N:=some 61) (v:= ?_) (a':= ?_) #[true,true,true,true,true,true,true,true,true,true,true,true,true,true,true,true,true,true,true,true,true,true,true,true,false,true,true,true,true,false,false,false,false] rfl rfl (AQ HT_.out zE) (fun _ _ _ h=>h) (Or.inl ⟨by rfl,?_⟩) ?_ ?_; rotate_left; intro w'; go_simp; with_reducible rfl; rotate_left; exact yB
                  refine BK (i:=24) (N:=some 57) (v:= ?_) (a':= ?_) #[true,true,true,true,true,true,true,true,true,true,true,true,true,true,true,true,true,true,true,true,true,true,true,true,true,true,true,true,true,false,false,false,false] rfl rfl (B4 HT_.out HW_.out zE) (fun _ _ _ h=>h) (Or.inl ⟨by rfl,?_⟩) hHeld ?_ ?_; rotate_left; rintro w' ⟨s0,s1,s2,s3,s4,s5,s6,s7⟩; go_simp; with_reducible rfl; rotate_left; exact yB
                  refine BK (i:=29) (N:=some 62) (v:= ?_) (a':= ?_) #[true,true,true,true,true,true,true,true,true,true,true,true,true,true,true,true,true,true,true,true,true,true,true,true,true,true,true,true,true,true,false,false,false] rfl rfl (B4 HT_.out HW_.out zE) (fun _ _ _ h=>h) (Or.inl ⟨by rfl,?_⟩) hHeld ?_ ?_; rotate_left; rintro w' ⟨s0,s1,s2,s3,s4,s5,s6,s7⟩; go_simp; with_reducible rfl; rotate_left; exact yB
                  refine AX (i:=30) (N:=some 63) (v:= ?_) (a':= ?_) #[true,true,true,true,true,true,true,true,true,true,true,true,true,true,true,true,true,true,true,true,true,true,true,true,true,true,true,true,true,true,true,false,false] rfl rfl (AQ HT_.out zE) (fun _ _ _ h=>h) (Or.inl ⟨by rfl,?_⟩) ?_ ?_; rotate_left; intro w'; go_simp; with_reducible rfl; rotate_left; exact yB
                  refine AX (i:=31) (N:=some 64) (v:= ?_) (a':= ?_) #[true,true,true,true,true,true,true,true,true,true,true,true,true,true,true,true,true,true,true,true,true,true,true,true,true,true,true,true,true,true,true,true,false] rfl rfl (AQ HT_.out zE) (fun _ _ _ h=>h) (Or.inl ⟨by rfl,?_⟩) ?_ ?_; rotate_left; intro w'; go_simp; with_reducible rfl; rotate_left; exact yB
                  refine AX (i:=32) (N:=some 65) (v:= ?_) (a':= ?_) #[true,true,true,true,true,true,true,true,true,true,true,true,true,true,true,true,true,true,true,true,true,true,true,true,true,true,true,true,true,true,true,true,true] rfl rfl (AQ HT_.out zE) (fun _ _ _ h=>h) (Or.inl ⟨by rfl,?_⟩) ?_ ?_; rotate_left; intro w'; go_simp; with_reducible rfl; rotate_left; exact yB
                  refine C7 (Bm HT_.out zE) ?_
                  try go_wp2
                  go_roundg k3
                  case measure=>have:=HK1.out; have:=HK2.out; have:=HK3.out; omega
                  case rel=>exact ⟨(x13_3),(wrap64 (x13_3+1)),zG,zG,H',⟨by have:=HK1.out; have:=HK2.out; have:=HK3.out; omega⟩,⟨by (with_reducible repeat (first|apply Kd.R_alloc|apply Kd.R_drewN|apply Kd.R_drew)); exact HO_7.out⟩,⟨by (with_reducible repeat (first|refine AG ?_ _|refine AH ?_|refine AF ?_ _)); exact BK344.out⟩,⟨by repeat (first|(with_reducible first|exact HB.out|apply AE|apply AC|apply AD|refine AI ?_ GE344.out)|exact HB.out)⟩⟩
                 ·rw [if_neg c19] at H
                  have c19b0:decide (((Aj l1 x13_3).f1)<((Aj l1 x12_3).f1))=false:=decide_eq_false c19
                  clear c19
                  have H':=yA H
                  clear H
                  try go_wp2
                  have n0_:=yA (Kd.R_drew HO_7.out)
                  have n1_:=yA (AH BK344.out)
                  have n2_:=yA (AD HB.out)
                  clear HO_7
                  clear BK344
                  clear HB
                  have HO_7:=n0_
                  have BK344:=n1_
                  have HB:=n2_
                  clear n0_ n1_ n2_
                  have p349:0≤(x13_3:Int):=yD
                  have q349:x13_3<(l1.length:Int):=yD
                  obtain ⟨ad349,e349,hx349_0,hx349_1⟩:=BE HR1.out x13_3 p349 q349
                  have hw349_1:=hx349_1
                  have hw349_0:=hx349_0
                  cases e349
                  replace hx349_0:=yC HB.out hx349_0
                  replace hx349_1:=yC HB.out hx349_1
                  replace p349:=eq_true p349
                  replace q349:=eq_true q349
                  have p350:0≤(x13_3:Int):=yD
                  have q350:x13_3<(l1.length:Int):=yD
                  obtain ⟨ad350,e350,hx350_0,hx350_1⟩:=BE HR1.out x13_3 p350 q350
                  have hw350_1:=hx350_1
                  have hw350_0:=hx350_0
                  obtain rfl:ad349=ad350:=(by injection e350)
                  replace hx350_0:=yC HB.out hx350_0
                  replace hx350_1:=yC HB.out hx350_1
                  replace p350:=eq_true p350
                  replace q350:=eq_true q350
                  have p351:0≤(x13_3:Int):=yD
                  have q351:x13_3<(l1.length:Int):=yD
                  obtain ⟨ad351,e351,hx351_0,hx351_1⟩:=BE HR1.out x13_3 p351 q351
                  have hw351_1:=hx351_1
                  have hw351_0:=hx351_0
                  obtain rfl:ad349=ad351:=(by injection e351)
                  replace hx351_0:=yC HB.out hx351_0
                  replace hx351_1:=yC HB.out hx351_1
                  replace p351:=eq_true p351
                  replace q351:=eq_true q351
                  have p352:0≤(x12_3:Int):=yD
                  have q352:x12_3<(l1.length:Int):=yD
                  obtain ⟨ad352,e352,hx352_0,hx352_1⟩:=BE HR1.out x12_3 p352 q352
                  have hw352_1:=hx352_1
                  have hw352_0:=hx352_0
                  obtain rfl:ad349=ad352:=(by injection e352)
                  replace hx352_0:=yC HB.out hx352_0
                  replace hx352_1:=yC HB.out hx352_1
                  replace p352:=eq_true p352
                  replace q352:=eq_true q352
                  refine Bp (n:=33) (S:=fun w'=>w'.cell? (ad349.add ((x13_3).toNat*2))=some (.int .i64 ((Aj l1 x13_3).f0))∧w'.cell? ⟨(ad349.add ((x13_3).toNat*2)).block,(ad349.add ((x13_3).toNat*2)).off+1,none⟩=some (.int .i64 ((Aj l1 x13_3).f1))∧w'.cell? (ad349.add ((x13_3).toNat*2))=some (.int .i64 ((Aj l1 x13_3).f0))∧w'.cell? ⟨(ad349.add ((x13_3).toNat*2)).block,(ad349.add ((x13_3).toNat*2)).off+1,none⟩=some (.int .i64 ((Aj l1 x13_3).f1))∧w'.cell? (ad349.add ((x13_3).toNat*2))=some (.int .i64 ((Aj l1 x13_3).f0))∧w'.cell? ⟨(ad349.add ((x13_3).toNat*2)).block,(ad349.add ((x13_3).toNat*2)).off+1,none⟩=some (.int .i64 ((Aj l1 x13_3).f1))∧w'.cell? (ad349.add ((x12_3).toNat*2))=some (.int .i64 ((Aj l1 x12_3).f0))∧w'.cell? ⟨(ad349.add ((x12_3).toNat*2)).block,(ad349.add ((x12_3).toNat*2)).off+1,none⟩=some (.int .i64 ((Aj l1 x12_3).f1))) (ds:=[]) #[false,false,false,false,false,false,false,false,false,false,false,false,false,false,false,false,false,false,false,false,false,false,false,false,false,false,false,false,false,false,false,false,false] zE rfl rfl ⟨(yC HB.out hw349_0),(yC HB.out hw349_1),(yC HB.out hw350_0),(yC HB.out hw350_1),(yC HB.out hw351_0),(yC HB.out hw351_1),(yC HB.out hw352_0),(yC HB.out hw352_1)⟩ (fun hHeld=> ?_); refine BU AW.tab17 AW.bits17 (fun HT_ HW_=> ?_)
                  generalize wr.drew=w21 at HO_7 BK344 HB hx349_0 hx349_1 hx350_0 hx350_1 hx351_0 hx351_1 hx352_0 hx352_1 hHeld ⊢
                  refine AX (i:=0) (N:=some 33) (v:= ?_) (a':= ?_) #[true,false,false,false,false,false,false,false,false,false,false,false,false,false,false,false,false,false,false,false,false,false,false,false,false,false,false,false,false,false,false,false,false] rfl rfl (AQ HT_.out zE) (fun _ _ _ h=>h) (Or.inl ⟨by rfl,?_⟩) ?_ ?_; rotate_left; intro w'; go_simp; with_reducible rfl; rotate_left; exact yB
                  refine AX (i:=1) (N:=some 34) (v:= ?_) (a':= ?_) #[true,true,false,false,false,false,false,false,false,false,false,false,false,false,false,false,false,false,false,false,false,false,false,false,false,false,false,false,false,false,false,false,false] rfl rfl (AQ HT_.out zE) (fun _ _ _ h=>h) (Or.inl ⟨by rfl,?_⟩) ?_ ?_; rotate_left; intro w'; go_simp; with_reducible rfl; rotate_left; exact yB
                  refine AX (i:=2) (N:=some 35) (v:= ?_) (a':= ?_) #[true,true,true,false,false,false,false,false,false,false,false,false,false,false,false,false,false,false,false,false,false,false,false,false,false,false,false,false,false,false,false,false,false] rfl rfl (AQ HT_.out zE) (fun _ _ _ h=>h) (Or.inl ⟨by rfl,?_⟩) ?_ ?_; rotate_left; intro w'; go_simp; with_reducible rfl; rotate_left; exact yB
                  refine AX (i:=3) (N:=some 36) (v:= ?_) (a':= ?_) #[true,true,true,true,false,false,false,false,false,false,false,false,false,false,false,false,false,false,false,false,false,false,false,false,false,false,false,false,false,false,false,false,false] rfl rfl (AQ HT_.out zE) (fun _ _ _ h=>h) (Or.inl ⟨by rfl,?_⟩) ?_ ?_; rotate_left; intro w'; go_simp; with_reducible rfl; rotate_left; exact yB
                  refine AX (i:=5) (N:=some 38) (v:= ?_) (a':= ?_) #[true,true,true,true,false,true,false,false,false,false,false,false,false,false,false,false,false,false,false,false,false,false,false,false,false,false,false,false,false,false,false,false,false] rfl rfl (AQ HT_.out zE) (fun _ _ _ h=>h) (Or.inl ⟨by rfl,?_⟩) ?_ ?_; rotate_left; intro w'; go_simp; with_reducible rfl; rotate_left; exact yB
                  refine BK (i:=4) (N:=some 37) (v:= ?_) (a':= ?_) #[true,true,true,true,true,true,false,false,false,false,false,false,false,false,false,false,false,false,false,false,false,false,false,false,false,false,false,false,false,false,false,false,false] rfl rfl (B4 HT_.out HW_.out zE) (fun _ _ _ h=>h) (Or.inl ⟨by rfl,?_⟩) hHeld ?_ ?_; rotate_left; rintro w' ⟨s0,s1,s2,s3,s4,s5,s6,s7⟩; go_simp; with_reducible rfl; rotate_left; exact yB
                  refine AX (i:=6) (N:=some 39) (v:= ?_) (a':= ?_) #[true,true,true,true,true,true,true,false,false,false,false,false,false,false,false,false,false,false,false,false,false,false,false,false,false,false,false,false,false,false,false,false,false] rfl rfl (AQ HT_.out zE) (fun _ _ _ h=>h) (Or.inl ⟨by rfl,?_⟩) ?_ ?_; rotate_left; intro w'; go_simp; with_reducible rfl; rotate_left; exact yB
                  refine AX (i:=7) (N:=some 40) (v:= ?_) (a':= ?_) #[true,true,true,true,true,true,true,true,false,false,false,false,false,false,false,false,false,false,false,false,false,false,false,false,false,false,false,false,false,false,false,false,false] rfl rfl (AQ HT_.out zE) (fun _ _ _ h=>h) (Or.inl ⟨by rfl,?_⟩) ?_ ?_; rotate_left; intro w'; go_simp; with_reducible rfl; rotate_left; exact yB
                  refine AX (i:=8) (N:=some 41) (v:= ?_) (a':= ?_) #[true,true,true,true,true,true,true,true,true,false,false,false,false,false,false,false,false,false,false,false,false,false,false,false,false,false,false,false,false,false,false,false,false] rfl rfl (AQ HT_.out zE) (fun _ _ _ h=>h) (Or.inl ⟨by rfl,?_⟩) ?_ ?_; rotate_left; intro w'; go_simp; with_reducible rfl; rotate_left; exact yB
                  refine AX (i:=9) (N:=some 42) (v:= ?_) (a':= ?_) #[true,true,true,true,true,true,true,true,true,true,false,false,false,false,false,false,false,false,false,false,false,false,false,false,false,false,false,false,false,false,false,false,false] rfl rfl (AQ HT_.out zE) (fun _ _ _ h=>h) (Or.inl ⟨by rfl,?_⟩) ?_ ?_; rotate_left; intro w'; go_simp; with_reducible rfl; rotate_left; exact yB
                  refine AX (i:=10) (N:=some 43) (v:= ?_) (a':= ?_) #[true,true,true,true,true,true,true,true,true,true,true,false,false,false,false,false,false,false,false,false,false,false,false,false,false,false,false,false,false,false,false,false,false] rfl rfl (AQ HT_.out zE) (fun _ _ _ h=>h) (Or.inl ⟨by rfl,?_⟩) ?_ ?_; rotate_left; intro w'; go_simp; with_reducible rfl; rotate_left; exact yB
                  refine AX (i:=11) (N:=some 44) (v:= ?_) (a':= ?_) #[true,true,true,true,true,true,true,true,true,true,true,true,false,false,false,false,false,false,false,false,false,false,false,false,false,false,false,false,false,false,false,false,false] rfl rfl (AQ HT_.out zE) (fun _ _ _ h=>h) (Or.inl ⟨by rfl,?_⟩) ?_ ?_; rotate_left; intro w'; go_simp; with_reducible rfl; rotate_left; exact yB
                  refine AX (i:=13) (N:=some 46) (v:= ?_) (a':= ?_) #[true,true,true,true,true,true,true,true,true,true,true,true,false,true,false,false,false,false,false,false,false,false,false,false,false,false,false,false,false,false,false,false,false] rfl rfl (AQ HT_.out zE) (fun _ _ _ h=>h) (Or.inl ⟨by rfl,?_⟩) ?_ ?_; rotate_left; intro w'; go_simp; with_reducible rfl; rotate_left; exact yB
                  refine BK (i:=12) (N:=some 45) (v:= ?_) (a':= ?_) #[true,true,true,true,true,true,true,true,true,true,true,true,true,true,false,false,false,false,false,false,false,false,false,false,false,false,false,false,false,false,false,false,false] rfl rfl (B4 HT_.out HW_.out zE) (fun _ _ _ h=>h) (Or.inl ⟨by rfl,?_⟩) hHeld ?_ ?_; rotate_left; rintro w' ⟨s0,s1,s2,s3,s4,s5,s6,s7⟩; go_simp; with_reducible rfl; rotate_left; exact yB
                  refine AX (i:=14) (N:=some 47) (v:= ?_) (a':= ?_) #[true,true,true,true,true,true,true,true,true,true,true,true,true,true,true,false,false,false,false,false,false,false,false,false,false,false,false,false,false,false,false,false,false] rfl rfl (AQ HT_.out zE) (fun _ _ _ h=>h) (Or.inl ⟨by rfl,?_⟩) ?_ ?_; rotate_left; intro w'; go_simp; with_reducible rfl; rotate_left; exact yB
                  refine AX (i:=15) (N:=some 48) (v:= ?_) (a':= ?_) #[true,true,true,true,true,true,true,true,true,true,true,true,true,true,true,true,false,false,false,false,false,false,false,false,false,false,false,false,false,false,false,false,false] rfl rfl (AQ HT_.out zE) (fun _ _ _ h=>h) (Or.inl ⟨by rfl,?_⟩) ?_ ?_; rotate_left; intro w'; go_simp; with_reducible rfl; rotate_left; exact yB
                  refine AX (i:=16) (N:=some 49) (v:= ?_) (a':= ?_) #[true,true,true,true,true,true,true,true,true,true,true,true,true,true,true,true,true,false,false,false,false,false,false,false,false,false,false,false,false,false,false,false,false] rfl rfl (AQ HT_.out zE) (fun _ _ _ h=>h) (Or.inl ⟨by rfl,?_⟩) ?_ ?_; rotate_left; intro w'; go_simp; with_reducible rfl; rotate_left; exact yB
                  refine AX (i:=17) (N:=some 50) (v:= ?_) (a':= ?_) #[true,true,true,true,true,true,true,true,true,true,true,true,true,true,true,true,true,true,false,false,false,false,false,false,false,false,false,false,false,false,false,false,false] rfl rfl (AQ HT_.out zE) (fun _ _ _ h=>h) (Or.inl ⟨by rfl,?_⟩) ?_ ?_; rotate_left; intro w'; go_simp; with_reducible rfl; rotate_left; exact yB
                  refine AX (i:=18) (N:=some 51) (v:= ?_) (a':= ?_) #[true,true,true,true,true,true,true,true,true,true,true,true,true,true,true,true,true,true,true,false,false,false,false,false,false,false,false,false,false,false,false,false,false] rfl rfl (AQ HT_.out zE) (fun _ _ _ h=>h) (Or.inl ⟨by rfl,?_⟩) ?_ ?_; rotate_left; intro w'; go_simp; with_reducible rfl; rotate_left; exact yB
                  refine AX (i:=19) (N:=some 52) (v:= ?_) (a':= ?_) #[true,true,true,true,true,true,true,true,true,true,true,true,true,true,true,true,true,true,true,true,false,false,false,false,false,false,false,false,false,false,false,false,false] rfl rfl (AQ HT_.out zE) (fun _ _ _ h=>h) (Or.inl ⟨by rfl,?_⟩) ?_ ?_; rotate_left; intro w'; go_simp; with_reducible rfl; rotate_left; exact yB
                  refine AX (i:=20) (N:=some 53) (v:= ?_) (a':= ?_) #[true,true,true,true,true,true,true,true,true,true,true,true,true,true,true,true,true,true,true,true,true,false,false,false,false,false,false,false,false,false,false,false,false] rfl rfl (AQ HT_.out zE) (fun _ _ _ h=>h) (Or.inl ⟨by rfl,?_⟩) ?_ ?_; rotate_left; intro w'; go_simp; with_reducible rfl; rotate_left; exact yB
                  refine AX (i:=21) (N:=some 54) (v:= ?_) (a':= ?_) #[true,true,true,true,true,true,true,true,true,true,true,true,true,true,true,true,true,true,true,true,true,true,false,false,false,false,false,false,false,false,false,false,false] rfl rfl (AQ HT_.out zE) (fun _ _ _ h=>h) (Or.inl ⟨by rfl,?_⟩) ?_ ?_; rotate_left; intro w'; go_simp; with_reducible rfl; rotate_left; exact yB
                  refine AX (i:=22) (N:=some 55) (v:= ?_) (a':= ?_) #[true,true,true,true,true,true,true,true,true,true,true,true,true,true,true,true,true,true,true,true,true,true,true,false,false,false,false,false,false,false,false,false,false] rfl rfl (AQ HT_.out zE) (fun _ _ _ h=>h) (Or.inl ⟨by rfl,?_⟩) ?_ ?_; rotate_left; intro w'; go_simp; with_reducible rfl; rotate_left; exact yB
                  refine AX (i:=23) (N:=some 56) (v:= ?_) (a':= ?_) #[true,true,true,true,true,true,true,true,true,true,true,true,true,true,true,true,true,true,true,true,true,true,true,true,false,false,false,false,false,false,false,false,false] rfl rfl (AQ HT_.out zE) (fun _ _ _ h=>h) (Or.inl ⟨by rfl,?_⟩) ?_ ?_; rotate_left; intro w'; go_simp; with_reducible rfl; rotate_left; exact yB
                  refine AX (i:=25) (N:=some 58) (v:= ?_) (a':= ?_) #[true,true,true,true,true,true,true,true,true,true,true,true,true,true,true,true,true,true,true,true,true,true,true,true,false,true,false,false,false,false,false,false,false] rfl rfl (AQ HT_.out zE) (fun _ _ _ h=>h) (Or.inl ⟨by rfl,?_⟩) ?_ ?_; rotate_left; intro w'; go_simp; with_reducible rfl; rotate_left; exact yB
                  refine AX (i:=26) (N:=some 59) (v:= ?_) (a':= ?_) #[true,true,true,true,true,true,true,true,true,true,true,true,true,true,true,true,true,true,true,true,true,true,true,true,false,true,true,false,false,false,false,false,false] rfl rfl (AQ HT_.out zE) (fun _ _ _ h=>h) (Or.inl ⟨by rfl,?_⟩) ?_ ?_; rotate_left; intro w'; go_simp; with_reducible rfl; rotate_left; exact yB
                  refine AX (i:=27) (N:=some 60) (v:= ?_) (a':= ?_) #[true,true,true,true,true,true,true,true,true,true,true,true,true,true,true,true,true,true,true,true,true,true,true,true,false,true,true,true,false,false,false,false,false] rfl rfl (AQ HT_.out zE) (fun _ _ _ h=>h) (Or.inl ⟨by rfl,?_⟩) ?_ ?_; rotate_left; intro w'; go_simp; with_reducible rfl; rotate_left; exact yB
                  refine AX (i:=28) (N:=some 61) (v:= ?_) (a':= ?_) #[true,true,true,true,true,true,true,true,true,true,true,true,true,true,true,true,true,true,true,true,true,true,true,true,false,true,true,true,true,false,false,false,false] rfl rfl (AQ HT_.out zE) (fun _ _ _ h=>h) (Or.inl ⟨by rfl,?_⟩) ?_ ?_; rotate_left; intro w'; go_simp; with_reducible rfl; rotate_left; exact yB
                  refine BK (i:=24) (N:=some 57) (v:= ?_) (a':= ?_) #[true,true,true,true,true,true,true,true,true,true,true,true,true,true,true,true,true,true,true,true,true,true,true,true,true,true,true,true,true,false,false,false,false] rfl rfl (B4 HT_.out HW_.out zE) (fun _ _ _ h=>h) (Or.inl ⟨by rfl,?_⟩) hHeld ?_ ?_; rotate_left; rintro w' ⟨s0,s1,s2,s3,s4,s5,s6,s7⟩; go_simp; with_reducible rfl; rotate_left; exact yB
                  refine BK (i:=29) (N:=some 62) (v:= ?_) (a':= ?_) #[true,true,true,true,true,true,true,true,true,true,true,true,true,true,true,true,true,true,true,true,true,true,true,true,true,true,true,true,true,true,false,false,false] rfl rfl (B4 HT_.out HW_.out zE) (fun _ _ _ h=>h) (Or.inl ⟨by rfl,?_⟩) hHeld ?_ ?_; rotate_left; rintro w' ⟨s0,s1,s2,s3,s4,s5,s6,s7⟩; go_simp; with_reducible rfl; rotate_left; exact yB
                  refine AX (i:=30) (N:=some 63) (v:= ?_) (a':= ?_) #[true,true,true,true,true,true,true,true,true,true,true,true,true,true,true,true,true,true,true,true,true,true,true,true,true,true,true,true,true,true,true,false,false] rfl rfl (AQ HT_.out zE) (fun _ _ _ h=>h) (Or.inl ⟨by rfl,?_⟩) ?_ ?_; rotate_left; intro w'; go_simp; with_reducible rfl; rotate_left; exact yB
                  refine AX (i:=31) (N:=some 64) (v:= ?_) (a':= ?_) #[true,true,true,true,true,true,true,true,true,true,true,true,true,true,true,true,true,true,true,true,true,true,true,true,true,true,true,true,true,true,true,true,false] rfl rfl (AQ HT_.out zE) (fun _ _ _ h=>h) (Or.inl ⟨by rfl,?_⟩) ?_ ?_; rotate_left; intro w'; go_simp; with_reducible rfl; rotate_left; exact yB
                  refine AX (i:=32) (N:=some 65) (v:= ?_) (a':= ?_) #[true,true,true,true,true,true,true,true,true,true,true,true,true,true,true,true,true,true,true,true,true,true,true,true,true,true,true,true,true,true,true,true,true] rfl rfl (AQ HT_.out zE) (fun _ _ _ h=>h) (Or.inl ⟨by rfl,?_⟩) ?_ ?_; rotate_left; intro w'; go_simp; with_reducible rfl; rotate_left; exact yB
                  refine C7 (Bm HT_.out zE) ?_
                  try go_wp2
                  go_roundg k3
                  case measure=>have:=HK1.out; have:=HK2.out; have:=HK3.out; omega
                  case rel=>exact ⟨(x12_3),(wrap64 (x13_3+1)),zG,zG,H',⟨by have:=HK1.out; have:=HK2.out; have:=HK3.out; omega⟩,⟨by (with_reducible repeat (first|apply Kd.R_alloc|apply Kd.R_drewN|apply Kd.R_drew)); exact HO_7.out⟩,⟨by (with_reducible repeat (first|refine AG ?_ _|refine AH ?_|refine AF ?_ _)); exact BK344.out⟩,⟨by repeat (first|(with_reducible first|exact HB.out|apply AE|apply AC|apply AD|refine AI ?_ GE344.out)|exact HB.out)⟩⟩
                ·rw [if_neg c18] at H
                 exact absurd H zA6
               ·rw [if_neg c17] at H
                exact absurd H zA6
             ·rw [if_neg c14] at H
              have c14b0:decide (x10_2<((Aj l1 x13_3).f1))=false:=decide_eq_false c14
              clear c14
              have H':=yA H
              clear H
              try go_wp2
              have n0_:=yA (Kd.R_drew HO_7.out)
              have n1_:=yA (AH BK344.out)
              have n2_:=yA (AD HB.out)
              clear HO_7
              clear BK344
              clear HB
              have HO_7:=n0_
              have BK344:=n1_
              have HB:=n2_
              clear n0_ n1_ n2_
              have p349:0≤(x13_3:Int):=yD
              have q349:x13_3<(l1.length:Int):=yD
              obtain ⟨ad349,e349,hx349_0,hx349_1⟩:=BE HR1.out x13_3 p349 q349
              have hw349_1:=hx349_1
              have hw349_0:=hx349_0
              cases e349
              replace hx349_0:=yC HB.out hx349_0
              replace hx349_1:=yC HB.out hx349_1
              replace p349:=eq_true p349
              replace q349:=eq_true q349
              have p350:0≤(x13_3:Int):=yD
              have q350:x13_3<(l1.length:Int):=yD
              obtain ⟨ad350,e350,hx350_0,hx350_1⟩:=BE HR1.out x13_3 p350 q350
              have hw350_1:=hx350_1
              have hw350_0:=hx350_0
              obtain rfl:ad349=ad350:=(by injection e350)
              replace hx350_0:=yC HB.out hx350_0
              replace hx350_1:=yC HB.out hx350_1
              replace p350:=eq_true p350
              replace q350:=eq_true q350
              refine Bp (n:=33) (S:=fun w'=>w'.cell? (ad349.add ((x13_3).toNat*2))=some (.int .i64 ((Aj l1 x13_3).f0))∧w'.cell? ⟨(ad349.add ((x13_3).toNat*2)).block,(ad349.add ((x13_3).toNat*2)).off+1,none⟩=some (.int .i64 ((Aj l1 x13_3).f1))∧w'.cell? (ad349.add ((x13_3).toNat*2))=some (.int .i64 ((Aj l1 x13_3).f0))∧w'.cell? ⟨(ad349.add ((x13_3).toNat*2)).block,(ad349.add ((x13_3).toNat*2)).off+1,none⟩=some (.int .i64 ((Aj l1 x13_3).f1))) (ds:=[]) #[false,false,false,false,false,false,false,false,false,false,false,false,false,false,false,false,false,false,false,false,false,false,false,false,false,false,false,false,false,false,false,false,false] zE rfl rfl ⟨(yC HB.out hw349_0),(yC HB.out hw349_1),(yC HB.out hw350_0),(yC HB.out hw350_1)⟩ (fun hHeld=> ?_); refine BU AW.tab17 AW.bits17 (fun HT_ HW_=> ?_)
              generalize wr.drew=w22 at HO_7 BK344 HB hx349_0 hx349_1 hx350_0 hx350_1 hHeld ⊢
              refine AX (i:=0) (N:=some 33) (v:= ?_) (a':= ?_) #[true,false,false,false,false,false,false,false,false,false,false,false,false,false,false,false,false,false,false,false,false,false,false,false,false,false,false,false,false,false,false,false,false] rfl rfl (AQ HT_.out zE) (fun _ _ _ h=>h) (Or.inl ⟨by rfl,?_⟩) ?_ ?_; rotate_left; intro w'; go_simp; with_reducible rfl; rotate_left; exact yB
              refine AX (i:=1) (N:=some 34) (v:= ?_) (a':= ?_) #[true,true,false,false,false,false,false,false,false,false,false,false,false,false,false,false,false,false,false,false,false,false,false,false,false,false,false,false,false,false,false,false,false] rfl rfl (AQ HT_.out zE) (fun _ _ _ h=>h) (Or.inl ⟨by rfl,?_⟩) ?_ ?_; rotate_left; intro w'; go_simp; with_reducible rfl; rotate_left; exact yB
              refine AX (i:=2) (N:=some 35) (v:= ?_) (a':= ?_) #[true,true,true,false,false,false,false,false,false,false,false,false,false,false,false,false,false,false,false,false,false,false,false,false,false,false,false,false,false,false,false,false,false] rfl rfl (AQ HT_.out zE) (fun _ _ _ h=>h) (Or.inl ⟨by rfl,?_⟩) ?_ ?_; rotate_left; intro w'; go_simp; with_reducible rfl; rotate_left; exact yB
              refine AX (i:=3) (N:=some 36) (v:= ?_) (a':= ?_) #[true,true,true,true,false,false,false,false,false,false,false,false,false,false,false,false,false,false,false,false,false,false,false,false,false,false,false,false,false,false,false,false,false] rfl rfl (AQ HT_.out zE) (fun _ _ _ h=>h) (Or.inl ⟨by rfl,?_⟩) ?_ ?_; rotate_left; intro w'; go_simp; with_reducible rfl; rotate_left; exact yB
              refine AX (i:=5) (N:=some 38) (v:= ?_) (a':= ?_) #[true,true,true,true,false,true,false,false,false,false,false,false,false,false,false,false,false,false,false,false,false,false,false,false,false,false,false,false,false,false,false,false,false] rfl rfl (AQ HT_.out zE) (fun _ _ _ h=>h) (Or.inl ⟨by rfl,?_⟩) ?_ ?_; rotate_left; intro w'; go_simp; with_reducible rfl; rotate_left; exact yB
              refine BK (i:=4) (N:=some 37) (v:= ?_) (a':= ?_) #[true,true,true,true,true,true,false,false,false,false,false,false,false,false,false,false,false,false,false,false,false,false,false,false,false,false,false,false,false,false,false,false,false] rfl rfl (B4 HT_.out HW_.out zE) (fun _ _ _ h=>h) (Or.inl ⟨by rfl,?_⟩) hHeld ?_ ?_; rotate_left; rintro w' ⟨s0,s1,s2,s3⟩; go_simp; with_reducible rfl; rotate_left; exact yB
              refine AX (i:=6) (N:=some 39) (v:= ?_) (a':= ?_) #[true,true,true,true,true,true,true,false,false,false,false,false,false,false,false,false,false,false,false,false,false,false,false,false,false,false,false,false,false,false,false,false,false] rfl rfl (AQ HT_.out zE) (fun _ _ _ h=>h) (Or.inl ⟨by rfl,?_⟩) ?_ ?_; rotate_left; intro w'; go_simp; with_reducible rfl; rotate_left; exact yB
              refine AX (i:=7) (N:=some 40) (v:= ?_) (a':= ?_) #[true,true,true,true,true,true,true,true,false,false,false,false,false,false,false,false,false,false,false,false,false,false,false,false,false,false,false,false,false,false,false,false,false] rfl rfl (AQ HT_.out zE) (fun _ _ _ h=>h) (Or.inl ⟨by rfl,?_⟩) ?_ ?_; rotate_left; intro w'; go_simp; with_reducible rfl; rotate_left; exact yB
              refine AX (i:=8) (N:=some 41) (v:= ?_) (a':= ?_) #[true,true,true,true,true,true,true,true,true,false,false,false,false,false,false,false,false,false,false,false,false,false,false,false,false,false,false,false,false,false,false,false,false] rfl rfl (AQ HT_.out zE) (fun _ _ _ h=>h) (Or.inl ⟨by rfl,?_⟩) ?_ ?_; rotate_left; intro w'; go_simp; with_reducible rfl; rotate_left; exact yB
              refine AX (i:=9) (N:=some 42) (v:= ?_) (a':= ?_) #[true,true,true,true,true,true,true,true,true,true,false,false,false,false,false,false,false,false,false,false,false,false,false,false,false,false,false,false,false,false,false,false,false] rfl rfl (AQ HT_.out zE) (fun _ _ _ h=>h) (Or.inl ⟨by rfl,?_⟩) ?_ ?_; rotate_left; intro w'; go_simp; with_reducible rfl; rotate_left; exact yB
              refine AX (i:=10) (N:=some 43) (v:= ?_) (a':= ?_) #[true,true,true,true,true,true,true,true,true,true,true,false,false,false,false,false,false,false,false,false,false,false,false,false,false,false,false,false,false,false,false,false,false] rfl rfl (AQ HT_.out zE) (fun _ _ _ h=>h) (Or.inl ⟨by rfl,?_⟩) ?_ ?_; rotate_left; intro w'; go_simp; with_reducible rfl; rotate_left; exact yB
              refine AX (i:=11) (N:=some 44) (v:= ?_) (a':= ?_) #[true,true,true,true,true,true,true,true,true,true,true,true,false,false,false,false,false,false,false,false,false,false,false,false,false,false,false,false,false,false,false,false,false] rfl rfl (AQ HT_.out zE) (fun _ _ _ h=>h) (Or.inl ⟨by rfl,?_⟩) ?_ ?_; rotate_left; intro w'; go_simp; with_reducible rfl; rotate_left; exact yB
              refine AX (i:=13) (N:=some 46) (v:= ?_) (a':= ?_) #[true,true,true,true,true,true,true,true,true,true,true,true,false,true,false,false,false,false,false,false,false,false,false,false,false,false,false,false,false,false,false,false,false] rfl rfl (AQ HT_.out zE) (fun _ _ _ h=>h) (Or.inl ⟨by rfl,?_⟩) ?_ ?_; rotate_left; intro w'; go_simp; with_reducible rfl; rotate_left; exact yB
              refine BK (i:=12) (N:=some 45) (v:= ?_) (a':= ?_) #[true,true,true,true,true,true,true,true,true,true,true,true,true,true,false,false,false,false,false,false,false,false,false,false,false,false,false,false,false,false,false,false,false] rfl rfl (B4 HT_.out HW_.out zE) (fun _ _ _ h=>h) (Or.inl ⟨by rfl,?_⟩) hHeld ?_ ?_; rotate_left; rintro w' ⟨s0,s1,s2,s3⟩; go_simp; with_reducible rfl; rotate_left; exact yB
              refine AX (i:=14) (N:=some 47) (v:= ?_) (a':= ?_) #[true,true,true,true,true,true,true,true,true,true,true,true,true,true,true,false,false,false,false,false,false,false,false,false,false,false,false,false,false,false,false,false,false] rfl rfl (AQ HT_.out zE) (fun _ _ _ h=>h) (Or.inl ⟨by rfl,?_⟩) ?_ ?_; rotate_left; intro w'; go_simp; with_reducible rfl; rotate_left; exact yB
              refine AX (i:=15) (N:=some 48) (v:= ?_) (a':= ?_) #[true,true,true,true,true,true,true,true,true,true,true,true,true,true,true,true,false,false,false,false,false,false,false,false,false,false,false,false,false,false,false,false,false] rfl rfl (AQ HT_.out zE) (fun _ _ _ h=>h) (Or.inl ⟨by rfl,?_⟩) ?_ ?_; rotate_left; intro w'; go_simp; with_reducible rfl; rotate_left; exact yB
              refine AX (i:=16) (N:=some 49) (v:= ?_) (a':= ?_) #[true,true,true,true,true,true,true,true,true,true,true,true,true,true,true,true,true,false,false,false,false,false,false,false,false,false,false,false,false,false,false,false,false] rfl rfl (AQ HT_.out zE) (fun _ _ _ h=>h) (Or.inl ⟨by rfl,?_⟩) ?_ ?_; rotate_left; intro w'; go_simp; with_reducible rfl; rotate_left; exact yB
              refine AX (i:=17) (N:=some 50) (v:=undef) (a':= ?_) #[true,true,true,true,true,true,true,true,true,true,true,true,true,true,true,true,true,true,false,false,false,false,false,false,false,false,false,false,false,false,false,false,false] rfl rfl (AQ HT_.out zE) (fun _ _ _ h=>h) (Or.inr ⟨by rfl,rfl⟩) ?_ ?_
              rotate_left
              ·exact yB
              refine AX (i:=18) (N:=some 51) (v:=undef) (a':= ?_) #[true,true,true,true,true,true,true,true,true,true,true,true,true,true,true,true,true,true,true,false,false,false,false,false,false,false,false,false,false,false,false,false,false] rfl rfl (AQ HT_.out zE) (fun _ _ _ h=>h) (Or.inr ⟨by rfl,rfl⟩) ?_ ?_
              rotate_left
              ·exact yB
              refine AX (i:=19) (N:=some 52) (v:=undef) (a':= ?_) #[true,true,true,true,true,true,true,true,true,true,true,true,true,true,true,true,true,true,true,true,false,false,false,false,false,false,false,false,false,false,false,false,false] rfl rfl (AQ HT_.out zE) (fun _ _ _ h=>h) (Or.inr ⟨by rfl,rfl⟩) ?_ ?_
              rotate_left
              ·exact yB
              refine AX (i:=20) (N:=some 53) (v:=undef) (a':= ?_) #[true,true,true,true,true,true,true,true,true,true,true,true,true,true,true,true,true,true,true,true,true,false,false,false,false,false,false,false,false,false,false,false,false] rfl rfl (AQ HT_.out zE) (fun _ _ _ h=>h) (Or.inr ⟨by rfl,rfl⟩) ?_ ?_
              rotate_left
              ·exact yB
              refine AX (i:=21) (N:=some 54) (v:=undef) (a':= ?_) #[true,true,true,true,true,true,true,true,true,true,true,true,true,true,true,true,true,true,true,true,true,true,false,false,false,false,false,false,false,false,false,false,false] rfl rfl (AQ HT_.out zE) (fun _ _ _ h=>h) (Or.inr ⟨by rfl,rfl⟩) ?_ ?_
              rotate_left
              ·exact yB
              refine AX (i:=22) (N:=some 55) (v:=undef) (a':= ?_) #[true,true,true,true,true,true,true,true,true,true,true,true,true,true,true,true,true,true,true,true,true,true,true,false,false,false,false,false,false,false,false,false,false] rfl rfl (AQ HT_.out zE) (fun _ _ _ h=>h) (Or.inr ⟨by rfl,rfl⟩) ?_ ?_
              rotate_left
              ·exact yB
              refine AX (i:=23) (N:=some 56) (v:=undef) (a':= ?_) #[true,true,true,true,true,true,true,true,true,true,true,true,true,true,true,true,true,true,true,true,true,true,true,true,false,false,false,false,false,false,false,false,false] rfl rfl (AQ HT_.out zE) (fun _ _ _ h=>h) (Or.inr ⟨by rfl,rfl⟩) ?_ ?_
              rotate_left
              ·exact yB
              refine AX (i:=24) (N:=some 57) (v:=undef) (a':= ?_) #[true,true,true,true,true,true,true,true,true,true,true,true,true,true,true,true,true,true,true,true,true,true,true,true,true,false,false,false,false,false,false,false,false] rfl rfl (AQ HT_.out zE) (fun _ _ _ h=>h) (Or.inr ⟨by rfl,rfl⟩) ?_ ?_
              rotate_left
              ·exact yB
              refine AX (i:=25) (N:=some 58) (v:=undef) (a':= ?_) #[true,true,true,true,true,true,true,true,true,true,true,true,true,true,true,true,true,true,true,true,true,true,true,true,true,true,false,false,false,false,false,false,false] rfl rfl (AQ HT_.out zE) (fun _ _ _ h=>h) (Or.inr ⟨by rfl,rfl⟩) ?_ ?_
              rotate_left
              ·exact yB
              refine AX (i:=26) (N:=some 59) (v:=undef) (a':= ?_) #[true,true,true,true,true,true,true,true,true,true,true,true,true,true,true,true,true,true,true,true,true,true,true,true,true,true,true,false,false,false,false,false,false] rfl rfl (AQ HT_.out zE) (fun _ _ _ h=>h) (Or.inr ⟨by rfl,rfl⟩) ?_ ?_
              rotate_left
              ·exact yB
              refine AX (i:=27) (N:=some 60) (v:=undef) (a':= ?_) #[true,true,true,true,true,true,true,true,true,true,true,true,true,true,true,true,true,true,true,true,true,true,true,true,true,true,true,true,false,false,false,false,false] rfl rfl (AQ HT_.out zE) (fun _ _ _ h=>h) (Or.inr ⟨by rfl,rfl⟩) ?_ ?_
              rotate_left
              ·exact yB
              refine AX (i:=28) (N:=some 61) (v:=undef) (a':= ?_) #[true,true,true,true,true,true,true,true,true,true,true,true,true,true,true,true,true,true,true,true,true,true,true,true,true,true,true,true,true,false,false,false,false] rfl rfl (AQ HT_.out zE) (fun _ _ _ h=>h) (Or.inr ⟨by rfl,rfl⟩) ?_ ?_
              rotate_left
              ·exact yB
              refine AX (i:=29) (N:=some 62) (v:=undef) (a':= ?_) #[true,true,true,true,true,true,true,true,true,true,true,true,true,true,true,true,true,true,true,true,true,true,true,true,true,true,true,true,true,true,false,false,false] rfl rfl (AQ HT_.out zE) (fun _ _ _ h=>h) (Or.inr ⟨by rfl,rfl⟩) ?_ ?_
              rotate_left
              ·exact yB
              refine AX (i:=30) (N:=some 63) (v:=undef) (a':= ?_) #[true,true,true,true,true,true,true,true,true,true,true,true,true,true,true,true,true,true,true,true,true,true,true,true,true,true,true,true,true,true,true,false,false] rfl rfl (AQ HT_.out zE) (fun _ _ _ h=>h) (Or.inr ⟨by rfl,rfl⟩) ?_ ?_
              rotate_left
              ·exact yB
              refine AX (i:=31) (N:=some 64) (v:=undef) (a':= ?_) #[true,true,true,true,true,true,true,true,true,true,true,true,true,true,true,true,true,true,true,true,true,true,true,true,true,true,true,true,true,true,true,true,false] rfl rfl (AQ HT_.out zE) (fun _ _ _ h=>h) (Or.inr ⟨by rfl,rfl⟩) ?_ ?_
              rotate_left
              ·exact yB
              refine AX (i:=32) (N:=some 65) (v:= ?_) (a':= ?_) #[true,true,true,true,true,true,true,true,true,true,true,true,true,true,true,true,true,true,true,true,true,true,true,true,true,true,true,true,true,true,true,true,true] rfl rfl (AQ HT_.out zE) (fun _ _ _ h=>h) (Or.inl ⟨by rfl,?_⟩) ?_ ?_; rotate_left; intro w'; go_simp; with_reducible rfl; rotate_left; exact yB
              refine C7 (Bm HT_.out zE) ?_
              try go_wp2
              go_roundg k3
              case measure=>have:=HK1.out; have:=HK2.out; have:=HK3.out; omega
              case rel=>exact ⟨(x12_3),(wrap64 (x13_3+1)),zG,zG,H',⟨by have:=HK1.out; have:=HK2.out; have:=HK3.out; omega⟩,⟨by (with_reducible repeat (first|apply Kd.R_alloc|apply Kd.R_drewN|apply Kd.R_drew)); exact HO_7.out⟩,⟨by (with_reducible repeat (first|refine AG ?_ _|refine AH ?_|refine AF ?_ _)); exact BK344.out⟩,⟨by repeat (first|(with_reducible first|exact HB.out|apply AE|apply AC|apply AD|refine AI ?_ GE344.out)|exact HB.out)⟩⟩
            ·rw [if_neg c13] at H
             have c13b0:(((Aj l1 x13_3).f0)==x8_1)=false:=beq_eq_false_iff_ne.mpr c13
             have c13b1:(((Aj l1 x13_3).f0) !=x8_1)=true:=bne_iff_ne.mpr c13
             have H':=yA H
             clear H
             try go_wp2
             have n0_:=yA (Kd.R_drew HO_7.out)
             have n1_:=yA (AH BK344.out)
             have n2_:=yA (AD HB.out)
             clear HO_7
             clear BK344
             clear HB
             have HO_7:=n0_
             have BK344:=n1_
             have HB:=n2_
             clear n0_ n1_ n2_
             have p349:0≤(x13_3:Int):=yD
             have q349:x13_3<(l1.length:Int):=yD
             obtain ⟨ad349,e349,hx349_0,hx349_1⟩:=BE HR1.out x13_3 p349 q349
             have hw349_1:=hx349_1
             have hw349_0:=hx349_0
             cases e349
             replace hx349_0:=yC HB.out hx349_0
             replace hx349_1:=yC HB.out hx349_1
             replace p349:=eq_true p349
             replace q349:=eq_true q349
             refine Bp (n:=33) (S:=fun w'=>w'.cell? (ad349.add ((x13_3).toNat*2))=some (.int .i64 ((Aj l1 x13_3).f0))∧w'.cell? ⟨(ad349.add ((x13_3).toNat*2)).block,(ad349.add ((x13_3).toNat*2)).off+1,none⟩=some (.int .i64 ((Aj l1 x13_3).f1))) (ds:=[]) #[false,false,false,false,false,false,false,false,false,false,false,false,false,false,false,false,false,false,false,false,false,false,false,false,false,false,false,false,false,false,false,false,false] zE rfl rfl ⟨(yC HB.out hw349_0),(yC HB.out hw349_1)⟩ (fun hHeld=> ?_); refine BU AW.tab17 AW.bits17 (fun HT_ HW_=> ?_)
             generalize wr.drew=w23 at HO_7 BK344 HB hx349_0 hx349_1 hHeld ⊢
             refine AX (i:=0) (N:=some 33) (v:= ?_) (a':= ?_) #[true,false,false,false,false,false,false,false,false,false,false,false,false,false,false,false,false,false,false,false,false,false,false,false,false,false,false,false,false,false,false,false,false] rfl rfl (AQ HT_.out zE) (fun _ _ _ h=>h) (Or.inl ⟨by rfl,?_⟩) ?_ ?_; rotate_left; intro w'; go_simp; with_reducible rfl; rotate_left; exact yB
             refine AX (i:=1) (N:=some 34) (v:= ?_) (a':= ?_) #[true,true,false,false,false,false,false,false,false,false,false,false,false,false,false,false,false,false,false,false,false,false,false,false,false,false,false,false,false,false,false,false,false] rfl rfl (AQ HT_.out zE) (fun _ _ _ h=>h) (Or.inl ⟨by rfl,?_⟩) ?_ ?_; rotate_left; intro w'; go_simp; with_reducible rfl; rotate_left; exact yB
             refine AX (i:=2) (N:=some 35) (v:= ?_) (a':= ?_) #[true,true,true,false,false,false,false,false,false,false,false,false,false,false,false,false,false,false,false,false,false,false,false,false,false,false,false,false,false,false,false,false,false] rfl rfl (AQ HT_.out zE) (fun _ _ _ h=>h) (Or.inl ⟨by rfl,?_⟩) ?_ ?_; rotate_left; intro w'; go_simp; with_reducible rfl; rotate_left; exact yB
             refine AX (i:=3) (N:=some 36) (v:= ?_) (a':= ?_) #[true,true,true,true,false,false,false,false,false,false,false,false,false,false,false,false,false,false,false,false,false,false,false,false,false,false,false,false,false,false,false,false,false] rfl rfl (AQ HT_.out zE) (fun _ _ _ h=>h) (Or.inl ⟨by rfl,?_⟩) ?_ ?_; rotate_left; intro w'; go_simp; with_reducible rfl; rotate_left; exact yB
             refine AX (i:=5) (N:=some 38) (v:= ?_) (a':= ?_) #[true,true,true,true,false,true,false,false,false,false,false,false,false,false,false,false,false,false,false,false,false,false,false,false,false,false,false,false,false,false,false,false,false] rfl rfl (AQ HT_.out zE) (fun _ _ _ h=>h) (Or.inl ⟨by rfl,?_⟩) ?_ ?_; rotate_left; intro w'; go_simp; with_reducible rfl; rotate_left; exact yB
             refine BK (i:=4) (N:=some 37) (v:= ?_) (a':= ?_) #[true,true,true,true,true,true,false,false,false,false,false,false,false,false,false,false,false,false,false,false,false,false,false,false,false,false,false,false,false,false,false,false,false] rfl rfl (B4 HT_.out HW_.out zE) (fun _ _ _ h=>h) (Or.inl ⟨by rfl,?_⟩) hHeld ?_ ?_; rotate_left; rintro w' ⟨s0,s1⟩; go_simp; with_reducible rfl; rotate_left; exact yB
             refine AX (i:=6) (N:=some 39) (v:= ?_) (a':= ?_) #[true,true,true,true,true,true,true,false,false,false,false,false,false,false,false,false,false,false,false,false,false,false,false,false,false,false,false,false,false,false,false,false,false] rfl rfl (AQ HT_.out zE) (fun _ _ _ h=>h) (Or.inl ⟨by rfl,?_⟩) ?_ ?_; rotate_left; intro w'; go_simp; with_reducible rfl; rotate_left; exact yB
             refine AX (i:=7) (N:=some 40) (v:= ?_) (a':= ?_) #[true,true,true,true,true,true,true,true,false,false,false,false,false,false,false,false,false,false,false,false,false,false,false,false,false,false,false,false,false,false,false,false,false] rfl rfl (AQ HT_.out zE) (fun _ _ _ h=>h) (Or.inl ⟨by rfl,?_⟩) ?_ ?_; rotate_left; intro w'; go_simp; with_reducible rfl; rotate_left; exact yB
             refine AX (i:=8) (N:=some 41) (v:=undef) (a':= ?_) #[true,true,true,true,true,true,true,true,true,false,false,false,false,false,false,false,false,false,false,false,false,false,false,false,false,false,false,false,false,false,false,false,false] rfl rfl (AQ HT_.out zE) (fun _ _ _ h=>h) (Or.inr ⟨by rfl,rfl⟩) ?_ ?_
             rotate_left
             ·exact yB
             refine AX (i:=9) (N:=some 42) (v:=undef) (a':= ?_) #[true,true,true,true,true,true,true,true,true,true,false,false,false,false,false,false,false,false,false,false,false,false,false,false,false,false,false,false,false,false,false,false,false] rfl rfl (AQ HT_.out zE) (fun _ _ _ h=>h) (Or.inr ⟨by rfl,rfl⟩) ?_ ?_
             rotate_left
             ·exact yB
             refine AX (i:=10) (N:=some 43) (v:=undef) (a':= ?_) #[true,true,true,true,true,true,true,true,true,true,true,false,false,false,false,false,false,false,false,false,false,false,false,false,false,false,false,false,false,false,false,false,false] rfl rfl (AQ HT_.out zE) (fun _ _ _ h=>h) (Or.inr ⟨by rfl,rfl⟩) ?_ ?_
             rotate_left
             ·exact yB
             refine AX (i:=11) (N:=some 44) (v:=undef) (a':= ?_) #[true,true,true,true,true,true,true,true,true,true,true,true,false,false,false,false,false,false,false,false,false,false,false,false,false,false,false,false,false,false,false,false,false] rfl rfl (AQ HT_.out zE) (fun _ _ _ h=>h) (Or.inr ⟨by rfl,rfl⟩) ?_ ?_
             rotate_left
             ·exact yB
             refine AX (i:=12) (N:=some 45) (v:=undef) (a':= ?_) #[true,true,true,true,true,true,true,true,true,true,true,true,true,false,false,false,false,false,false,false,false,false,false,false,false,false,false,false,false,false,false,false,false] rfl rfl (AQ HT_.out zE) (fun _ _ _ h=>h) (Or.inr ⟨by rfl,rfl⟩) ?_ ?_
             rotate_left
             ·exact yB
             refine AX (i:=13) (N:=some 46) (v:=undef) (a':= ?_) #[true,true,true,true,true,true,true,true,true,true,true,true,true,true,false,false,false,false,false,false,false,false,false,false,false,false,false,false,false,false,false,false,false] rfl rfl (AQ HT_.out zE) (fun _ _ _ h=>h) (Or.inr ⟨by rfl,rfl⟩) ?_ ?_
             rotate_left
             ·exact yB
             refine AX (i:=14) (N:=some 47) (v:=undef) (a':= ?_) #[true,true,true,true,true,true,true,true,true,true,true,true,true,true,true,false,false,false,false,false,false,false,false,false,false,false,false,false,false,false,false,false,false] rfl rfl (AQ HT_.out zE) (fun _ _ _ h=>h) (Or.inr ⟨by rfl,rfl⟩) ?_ ?_
             rotate_left
             ·exact yB
             refine AX (i:=15) (N:=some 48) (v:= ?_) (a':= ?_) #[true,true,true,true,true,true,true,true,true,true,true,true,true,true,true,true,false,false,false,false,false,false,false,false,false,false,false,false,false,false,false,false,false] rfl rfl (AQ HT_.out zE) (fun _ _ _ h=>h) (Or.inl ⟨by rfl,?_⟩) ?_ ?_; rotate_left; intro w'; go_simp; with_reducible rfl; rotate_left; exact yB
             refine AX (i:=16) (N:=some 49) (v:= ?_) (a':= ?_) #[true,true,true,true,true,true,true,true,true,true,true,true,true,true,true,true,true,false,false,false,false,false,false,false,false,false,false,false,false,false,false,false,false] rfl rfl (AQ HT_.out zE) (fun _ _ _ h=>h) (Or.inl ⟨by rfl,?_⟩) ?_ ?_; rotate_left; intro w'; go_simp; with_reducible rfl; rotate_left; exact yB
             refine AX (i:=17) (N:=some 50) (v:=undef) (a':= ?_) #[true,true,true,true,true,true,true,true,true,true,true,true,true,true,true,true,true,true,false,false,false,false,false,false,false,false,false,false,false,false,false,false,false] rfl rfl (AQ HT_.out zE) (fun _ _ _ h=>h) (Or.inr ⟨by rfl,rfl⟩) ?_ ?_
             rotate_left
             ·exact yB
             refine AX (i:=18) (N:=some 51) (v:=undef) (a':= ?_) #[true,true,true,true,true,true,true,true,true,true,true,true,true,true,true,true,true,true,true,false,false,false,false,false,false,false,false,false,false,false,false,false,false] rfl rfl (AQ HT_.out zE) (fun _ _ _ h=>h) (Or.inr ⟨by rfl,rfl⟩) ?_ ?_
             rotate_left
             ·exact yB
             refine AX (i:=19) (N:=some 52) (v:=undef) (a':= ?_) #[true,true,true,true,true,true,true,true,true,true,true,true,true,true,true,true,true,true,true,true,false,false,false,false,false,false,false,false,false,false,false,false,false] rfl rfl (AQ HT_.out zE) (fun _ _ _ h=>h) (Or.inr ⟨by rfl,rfl⟩) ?_ ?_
             rotate_left
             ·exact yB
             refine AX (i:=20) (N:=some 53) (v:=undef) (a':= ?_) #[true,true,true,true,true,true,true,true,true,true,true,true,true,true,true,true,true,true,true,true,true,false,false,false,false,false,false,false,false,false,false,false,false] rfl rfl (AQ HT_.out zE) (fun _ _ _ h=>h) (Or.inr ⟨by rfl,rfl⟩) ?_ ?_
             rotate_left
             ·exact yB
             refine AX (i:=21) (N:=some 54) (v:=undef) (a':= ?_) #[true,true,true,true,true,true,true,true,true,true,true,true,true,true,true,true,true,true,true,true,true,true,false,false,false,false,false,false,false,false,false,false,false] rfl rfl (AQ HT_.out zE) (fun _ _ _ h=>h) (Or.inr ⟨by rfl,rfl⟩) ?_ ?_
             rotate_left
             ·exact yB
             refine AX (i:=22) (N:=some 55) (v:=undef) (a':= ?_) #[true,true,true,true,true,true,true,true,true,true,true,true,true,true,true,true,true,true,true,true,true,true,true,false,false,false,false,false,false,false,false,false,false] rfl rfl (AQ HT_.out zE) (fun _ _ _ h=>h) (Or.inr ⟨by rfl,rfl⟩) ?_ ?_
             rotate_left
             ·exact yB
             refine AX (i:=23) (N:=some 56) (v:=undef) (a':= ?_) #[true,true,true,true,true,true,true,true,true,true,true,true,true,true,true,true,true,true,true,true,true,true,true,true,false,false,false,false,false,false,false,false,false] rfl rfl (AQ HT_.out zE) (fun _ _ _ h=>h) (Or.inr ⟨by rfl,rfl⟩) ?_ ?_
             rotate_left
             ·exact yB
             refine AX (i:=24) (N:=some 57) (v:=undef) (a':= ?_) #[true,true,true,true,true,true,true,true,true,true,true,true,true,true,true,true,true,true,true,true,true,true,true,true,true,false,false,false,false,false,false,false,false] rfl rfl (AQ HT_.out zE) (fun _ _ _ h=>h) (Or.inr ⟨by rfl,rfl⟩) ?_ ?_
             rotate_left
             ·exact yB
             refine AX (i:=25) (N:=some 58) (v:=undef) (a':= ?_) #[true,true,true,true,true,true,true,true,true,true,true,true,true,true,true,true,true,true,true,true,true,true,true,true,true,true,false,false,false,false,false,false,false] rfl rfl (AQ HT_.out zE) (fun _ _ _ h=>h) (Or.inr ⟨by rfl,rfl⟩) ?_ ?_
             rotate_left
             ·exact yB
             refine AX (i:=26) (N:=some 59) (v:=undef) (a':= ?_) #[true,true,true,true,true,true,true,true,true,true,true,true,true,true,true,true,true,true,true,true,true,true,true,true,true,true,true,false,false,false,false,false,false] rfl rfl (AQ HT_.out zE) (fun _ _ _ h=>h) (Or.inr ⟨by rfl,rfl⟩) ?_ ?_
             rotate_left
             ·exact yB
             refine AX (i:=27) (N:=some 60) (v:=undef) (a':= ?_) #[true,true,true,true,true,true,true,true,true,true,true,true,true,true,true,true,true,true,true,true,true,true,true,true,true,true,true,true,false,false,false,false,false] rfl rfl (AQ HT_.out zE) (fun _ _ _ h=>h) (Or.inr ⟨by rfl,rfl⟩) ?_ ?_
             rotate_left
             ·exact yB
             refine AX (i:=28) (N:=some 61) (v:=undef) (a':= ?_) #[true,true,true,true,true,true,true,true,true,true,true,true,true,true,true,true,true,true,true,true,true,true,true,true,true,true,true,true,true,false,false,false,false] rfl rfl (AQ HT_.out zE) (fun _ _ _ h=>h) (Or.inr ⟨by rfl,rfl⟩) ?_ ?_
             rotate_left
             ·exact yB
             refine AX (i:=29) (N:=some 62) (v:=undef) (a':= ?_) #[true,true,true,true,true,true,true,true,true,true,true,true,true,true,true,true,true,true,true,true,true,true,true,true,true,true,true,true,true,true,false,false,false] rfl rfl (AQ HT_.out zE) (fun _ _ _ h=>h) (Or.inr ⟨by rfl,rfl⟩) ?_ ?_
             rotate_left
             ·exact yB
             refine AX (i:=30) (N:=some 63) (v:=undef) (a':= ?_) #[true,true,true,true,true,true,true,true,true,true,true,true,true,true,true,true,true,true,true,true,true,true,true,true,true,true,true,true,true,true,true,false,false] rfl rfl (AQ HT_.out zE) (fun _ _ _ h=>h) (Or.inr ⟨by rfl,rfl⟩) ?_ ?_
             rotate_left
             ·exact yB
             refine AX (i:=31) (N:=some 64) (v:=undef) (a':= ?_) #[true,true,true,true,true,true,true,true,true,true,true,true,true,true,true,true,true,true,true,true,true,true,true,true,true,true,true,true,true,true,true,true,false] rfl rfl (AQ HT_.out zE) (fun _ _ _ h=>h) (Or.inr ⟨by rfl,rfl⟩) ?_ ?_
             rotate_left
             ·exact yB
             refine AX (i:=32) (N:=some 65) (v:= ?_) (a':= ?_) #[true,true,true,true,true,true,true,true,true,true,true,true,true,true,true,true,true,true,true,true,true,true,true,true,true,true,true,true,true,true,true,true,true] rfl rfl (AQ HT_.out zE) (fun _ _ _ h=>h) (Or.inl ⟨by rfl,?_⟩) ?_ ?_; rotate_left; intro w'; go_simp; with_reducible rfl; rotate_left; exact yB
             refine C7 (Bm HT_.out zE) ?_
             try go_wp2
             go_roundg k3
             case measure=>have:=HK1.out; have:=HK2.out; have:=HK3.out; omega
             case rel=>exact ⟨(x12_3),(wrap64 (x13_3+1)),zG,zG,H',⟨by have:=HK1.out; have:=HK2.out; have:=HK3.out; omega⟩,⟨by (with_reducible repeat (first|apply Kd.R_alloc|apply Kd.R_drewN|apply Kd.R_drew)); exact HO_7.out⟩,⟨by (with_reducible repeat (first|refine AG ?_ _|refine AH ?_|refine AF ?_ _)); exact BK344.out⟩,⟨by repeat (first|(with_reducible first|exact HB.out|apply AE|apply AC|apply AD|refine AI ?_ GE344.out)|exact HB.out)⟩⟩
           ·rw [if_neg c12] at H
            exact absurd H zA6
          ·rw [if_neg c11] at H
           have c11b0:decide (x13_3<(l1.length:Int))=false:=decide_eq_false c11
           clear c11
           by_cases c24:x12_3≥0
           ·rw [if_pos c24] at H
            have c24b0:decide (0≤x12_3)=true:=decide_eq_true c24
            clear c24
            by_cases c25:x9_2.toList=([]:List UInt8)
            ·rw [if_pos c25] at H
             have c25b0:(x9_2.toList==([]:List UInt8))=true:=beq_iff_eq.mpr c25
             have c25b1:(x9_2.toList !=([]:List UInt8))=false:=bne_eq_false_iff_eq.mpr c25
             clear c25
             by_cases c26:0≤x12_3
             ·rw [if_pos c26] at H
              have c26b0:decide (0≤x12_3)=true:=decide_eq_true c26
              clear c26
              by_cases c27:x12_3<(l0_1.length:Int)
              ·rw [if_pos c27] at H
               have c27b0:decide (x12_3<(l0_1.length:Int))=true:=decide_eq_true c27
               clear c27
               by_cases c28:((AL l0_1 x12_3).f0).size+1≤9223372036854775807
               ·rw [if_pos c28] at H
                have c28b0:=eq_true c28
                have c28b1:decide (((AL l0_1 x12_3).f0).size+1≤9223372036854775807)=true:=decide_eq_true c28
                try have c28b2:(9223372036854775807<((AL l0_1 x12_3).f0).size+1)=False:=eq_false (Nat.not_lt.2 c28)
                by_cases c29:x12_3<(l1.length:Int)
                ·rw [if_pos c29] at H
                 have c29b0:decide (x12_3<(l1.length:Int))=true:=decide_eq_true c29
                 clear c29
                 replace H:=Option.bind_eq_some_iff.mp H
                 obtain ⟨t355,A300,H⟩:=H
                 replace H:(if (((AL l0_1 x12_3).f0)++(⟨#[64]⟩:ByteArray)).size+t355.size≤9223372036854775807 then (if x9_2.size+((((AL l0_1 x12_3).f0)++(⟨#[64]⟩:ByteArray))++t355).size≤9223372036854775807 then (AW.l1 k3 l1 x7_1 x8_1 (x9_2++((((AL l0_1 x12_3).f0)++(⟨#[64]⟩:ByteArray))++t355)) ((Aj l1 x12_3).f1) true A8 l0_1) else (none)) else (none))=some (r1,r2):=H
                 have A30:=yA A300
                 clear A300
                 by_cases c31:(((AL l0_1 x12_3).f0)++(⟨#[64]⟩:ByteArray)).size+t355.size≤9223372036854775807
                 ·rw [if_pos c31] at H
                  have c31b0:=eq_true c31
                  have c31b1:decide ((((AL l0_1 x12_3).f0)++(⟨#[64]⟩:ByteArray)).size+t355.size≤9223372036854775807)=true:=decide_eq_true c31
                  try have c31b2:(9223372036854775807<(((AL l0_1 x12_3).f0)++(⟨#[64]⟩:ByteArray)).size+t355.size)=False:=eq_false (Nat.not_lt.2 c31)
                  (try have c31b3:=c31b2)
                  (try simp only [ByteArray.size_append,(show (⟨#[64]⟩:ByteArray).size=1 from rfl),(show (⟨#[32]⟩:ByteArray).size=1 from rfl)] at c31b3)
                  by_cases c32:x9_2.size+((((AL l0_1 x12_3).f0)++(⟨#[64]⟩:ByteArray))++t355).size≤9223372036854775807
                  ·rw [if_pos c32] at H
                   have c32b0:=eq_true c32
                   have c32b1:decide (x9_2.size+((((AL l0_1 x12_3).f0)++(⟨#[64]⟩:ByteArray))++t355).size≤9223372036854775807)=true:=decide_eq_true c32
                   try have c32b2:(9223372036854775807<x9_2.size+((((AL l0_1 x12_3).f0)++(⟨#[64]⟩:ByteArray))++t355).size)=False:=eq_false (Nat.not_lt.2 c32)
                   (try have c32b3:=c32b2)
                   (try simp only [ByteArray.size_append,(show (⟨#[64]⟩:ByteArray).size=1 from rfl),(show (⟨#[32]⟩:ByteArray).size=1 from rfl)] at c32b3)
                   have H':=yA H
                   clear H
                   try go_wp2
                   have n0_:=yA (Kd.R_drew HO_7.out)
                   have n1_:=yA (AH BK344.out)
                   have n2_:=yA (AD HB.out)
                   clear HO_7
                   clear BK344
                   clear HB
                   have HO_7:=n0_
                   have BK344:=n1_
                   have HB:=n2_
                   clear n0_ n1_ n2_
                   have p353:0≤(x12_3:Int):=yD
                   have q353:x12_3<(l0_1.length:Int):=yD
                   obtain ⟨ad353,A353_3,c353_3,e353,hx353_0,hx353_1,hx353_2,hx353_3,hl353_3,hi353_3⟩:=Bb HR0_1.out x12_3 p353 q353
                   have hw353_3:=hx353_3
                   have hw353_2:=hx353_2
                   have hw353_1:=hx353_1
                   have hw353_0:=hx353_0
                   cases e353
                   replace hx353_0:=yC HB.out hx353_0
                   replace hx353_1:=yC HB.out hx353_1
                   replace hx353_2:=yC HB.out hx353_2
                   replace hx353_3:=yC HB.out hx353_3
                   have HR353_3:=yA hi353_3
                   have HC353_3:=yA hl353_3
                   clear hi353_3 hl353_3
                   replace p353:=eq_true p353
                   replace q353:=eq_true q353
                   have p354:0≤(x12_3:Int):=yD
                   have q354:x12_3<(l1.length:Int):=yD
                   obtain ⟨ad354,e354,hx354_0,hx354_1⟩:=BE HR1.out x12_3 p354 q354
                   have hw354_1:=hx354_1
                   have hw354_0:=hx354_0
                   cases e354
                   replace hx354_0:=yC HB.out hx354_0
                   replace hx354_1:=yC HB.out hx354_1
                   replace p354:=eq_true p354
                   replace q354:=eq_true q354
                   refine Bp (n:=17) (S:=fun w'=>w'.cell? ⟨gb344,0,none⟩=some (.int .i64 A8)∧w'.cell? ⟨gb344,1,none⟩=some (.slice (some ad353) l0_1.length c0_1)∧w'.cell? (ad353.add ((x12_3).toNat*4))=some (.string ((AL l0_1 x12_3).f0))∧w'.cell? ⟨(ad353.add ((x12_3).toNat*4)).block,(ad353.add ((x12_3).toNat*4)).off+1,none⟩=some (.int .i64 ((AL l0_1 x12_3).f1))∧w'.cell? ⟨(ad353.add ((x12_3).toNat*4)).block,(ad353.add ((x12_3).toNat*4)).off+2,none⟩=some (.int .i64 ((AL l0_1 x12_3).f2))∧w'.cell? ⟨(ad353.add ((x12_3).toNat*4)).block,(ad353.add ((x12_3).toNat*4)).off+3,none⟩=some (.slice A353_3 ((AL l0_1 x12_3).f3).length c353_3)∧w'.cell? (ad354.add ((x12_3).toNat*2))=some (.int .i64 ((Aj l1 x12_3).f0))∧w'.cell? ⟨(ad354.add ((x12_3).toNat*2)).block,(ad354.add ((x12_3).toNat*2)).off+1,none⟩=some (.int .i64 ((Aj l1 x12_3).f1))) (ds:=[]) #[false,false,false,false,false,false,false,false,false,false,false,false,false,false,false,false,false] zE rfl rfl ⟨(AK BK344.out 0).trans rfl,(AK BK344.out 1).trans rfl,(yC HB.out hw353_0),(yC HB.out hw353_1),(yC HB.out hw353_2),(yC HB.out hw353_3),(yC HB.out hw354_0),(yC HB.out hw354_1)⟩ (fun hHeld=> ?_); refine BU AW.tab22 AW.bits22 (fun HT_ HW_=> ?_)
                   generalize wr.drew=w33 at HO_7 BK344 HB HR353_3 hx353_0 hx353_1 hx353_2 hx353_3 hx354_0 hx354_1 hHeld ⊢
                   refine AX (i:=0) (N:=some 73) (v:= ?_) (a':= ?_) #[true,false,false,false,false,false,false,false,false,false,false,false,false,false,false,false,false] rfl rfl (AQ HT_.out zE) (fun _ _ _ h=>h) (Or.inl ⟨by rfl,?_⟩) ?_ ?_; rotate_left; intro w'; go_simp; with_reducible rfl; rotate_left; exact yB
                   refine AX (i:=1) (N:=some 74) (v:= ?_) (a':= ?_) #[true,true,false,false,false,false,false,false,false,false,false,false,false,false,false,false,false] rfl rfl (AQ HT_.out zE) (fun _ _ _ h=>h) (Or.inl ⟨by rfl,?_⟩) ?_ ?_; rotate_left; intro w'; go_simp; with_reducible rfl; rotate_left; exact yB
                   refine AX (i:=3) (N:=some 76) (v:= ?_) (a':= ?_) #[true,true,false,true,false,false,false,false,false,false,false,false,false,false,false,false,false] rfl rfl (AQ HT_.out zE) (fun _ _ _ h=>h) (Or.inl ⟨by rfl,?_⟩) ?_ ?_; rotate_left; intro w'; go_simp; with_reducible rfl; rotate_left; exact yB
                   refine AX (i:=8) (N:=some 81) (v:= ?_) (a':= ?_) #[true,true,false,true,false,false,false,false,true,false,false,false,false,false,false,false,false] rfl rfl (AQ HT_.out zE) (fun _ _ _ h=>h) (Or.inl ⟨by rfl,?_⟩) ?_ ?_; rotate_left; intro w'; go_simp; with_reducible rfl; rotate_left; exact yB
                   refine AX (i:=9) (N:=some 82) (v:= ?_) (a':= ?_) #[true,true,false,true,false,false,false,false,true,true,false,false,false,false,false,false,false] rfl rfl (AQ HT_.out zE) (fun _ _ _ h=>h) (Or.inl ⟨by rfl,?_⟩) ?_ ?_; rotate_left; intro w'; go_simp; with_reducible rfl; rotate_left; exact yB
                   refine AX (i:=10) (N:=some 83) (v:= ?_) (a':= ?_) #[true,true,false,true,false,false,false,false,true,true,true,false,false,false,false,false,false] rfl rfl (AQ HT_.out zE) (fun _ _ _ h=>h) (Or.inl ⟨by rfl,?_⟩) ?_ ?_; rotate_left; intro w'; go_simp; with_reducible rfl; rotate_left; exact yB
                   refine AX (i:=11) (N:=some 84) (v:= ?_) (a':= ?_) #[true,true,false,true,false,false,false,false,true,true,true,true,false,false,false,false,false] rfl rfl (AQ HT_.out zE) (fun _ _ _ h=>h) (Or.inl ⟨by rfl,?_⟩) ?_ ?_; rotate_left; intro w'; go_simp; with_reducible rfl; rotate_left; exact yB
                   refine BK (i:=2) (N:=some 75) (v:= ?_) (a':= ?_) #[true,true,true,true,false,false,false,false,true,true,true,true,false,false,false,false,false] rfl rfl (B4 HT_.out HW_.out zE) (fun _ _ _ h=>h) (Or.inl ⟨by rfl,?_⟩) hHeld ?_ ?_; rotate_left; rintro w' ⟨s0,s1,s2,s3,s4,s5,s6,s7⟩; go_simp; with_reducible rfl; rotate_left; exact yB
                   refine AX (i:=4) (N:=some 77) (v:= ?_) (a':= ?_) #[true,true,true,true,true,false,false,false,true,true,true,true,false,false,false,false,false] rfl rfl (AQ HT_.out zE) (fun _ _ _ h=>h) (Or.inl ⟨by rfl,?_⟩) ?_ ?_; rotate_left; intro w'; go_simp; with_reducible rfl; rotate_left; exact yB
                   refine AX (i:=5) (N:=some 78) (v:= ?_) (a':= ?_) #[true,true,true,true,true,true,false,false,true,true,true,true,false,false,false,false,false] rfl rfl (AQ HT_.out zE) (fun _ _ _ h=>h) (Or.inl ⟨by rfl,?_⟩) ?_ ?_; rotate_left; intro w'; go_simp; with_reducible rfl; rotate_left; exact yB
                   refine BK (i:=6) (N:=some 79) (v:= ?_) (a':= ?_) #[true,true,true,true,true,true,true,false,true,true,true,true,false,false,false,false,false] rfl rfl (B4 HT_.out HW_.out zE) (fun _ _ _ h=>h) (Or.inl ⟨by rfl,?_⟩) hHeld ?_ ?_; rotate_left; rintro w' ⟨s0,s1,s2,s3,s4,s5,s6,s7⟩; go_simp; with_reducible rfl; rotate_left; exact yB
                   refine AX (i:=7) (N:=some 80) (v:= ?_) (a':= ?_) #[true,true,true,true,true,true,true,true,true,true,true,true,false,false,false,false,false] rfl rfl (AQ HT_.out zE) (fun _ _ _ h=>h) (Or.inl ⟨by rfl,?_⟩) ?_ ?_; rotate_left; intro w'; go_simp; with_reducible rfl; rotate_left; exact yB
                   refine BK (i:=12) (N:=some 85) (v:= ?_) (a':= ?_) #[true,true,true,true,true,true,true,true,true,true,true,true,true,false,false,false,false] rfl rfl (B4 HT_.out HW_.out zE) (fun _ _ _ h=>h) (Or.inl ⟨by rfl,?_⟩) hHeld ?_ ?_; rotate_left; rintro w' ⟨s0,s1,s2,s3,s4,s5,s6,s7⟩; go_simp; with_reducible rfl; rotate_left; exact yB
                   refine one_ (i:=13) (N:=some 86) #[true,true,true,true,true,true,true,true,true,true,true,true,true,true,false,false,false] rfl rfl (Bi HT_.out zE) zA2 (fun K hK=> ?_)
                   refine C1 Tryd.func28 zE rfl #[.int .i64 ((Aj l1 x12_3).f1)] (by rfl) rfl rfl zD ?_
                   with_reducible refine (Az.calls k3 ((Aj l1 x12_3).f1) t355 _ A30.out).mono ?_
                   rintro e w34 ⟨rfl,hb⟩
                   refine ⟨_,rfl,?_⟩
                   have n0_:=yA (Kd.R_below zY hb)
                   have n1_:=yA (AP (g:=gb344) (o:= .cells #[.int .i64 A8,.slice (some ad353) l0_1.length c0_1] 24 (0,0)) (by (with_reducible repeat (first|refine AG ?_ _|refine AH ?_|refine AF ?_ _)); exact BK344.out) hb)
                   have n2_:=yA (AO zC3 hb)
                   clear HO_7
                   clear BK344
                   clear HB
                   have HO_7:=n0_
                   have BK344:=n1_
                   have HB:=n2_
                   clear n0_ n1_ n2_
                   (try clear hb)
                   (try clear hb2)
                   (try clear hk)
                   (try clear hi)
                   refine hK.out _ _ ⟨(AK BK344.out 0).trans rfl,(AK BK344.out 1).trans rfl,(yC HB.out hw353_0),(yC HB.out hw353_1),(yC HB.out hw353_2),(yC HB.out hw353_3),(yC HB.out hw354_0),(yC HB.out hw354_1)⟩ (fun hHeld=> ?_)
                   clear hK K
                   refine Bq (a':= ?_) ?_ ?_; rotate_left; show Act.put _ (some 86) _=_; exact yB
                   refine AX (i:=14) (N:=some 87) (v:= ?_) (a':= ?_) #[true,true,true,true,true,true,true,true,true,true,true,true,true,true,true,false,false] rfl rfl (AQ HT_.out zE) (fun _ _ _ h=>h) (Or.inl ⟨by rfl,?_⟩) ?_ ?_; rotate_left; intro w'; go_simp; with_reducible rfl; rotate_left; exact yB
                   refine AX (i:=15) (N:=some 88) (v:= ?_) (a':= ?_) #[true,true,true,true,true,true,true,true,true,true,true,true,true,true,true,true,false] rfl rfl (AQ HT_.out zE) (fun _ _ _ h=>h) (Or.inl ⟨by rfl,?_⟩) ?_ ?_; rotate_left; intro w'; go_simp; with_reducible rfl; rotate_left; exact yB
                   refine AX (i:=16) (N:=some 9) (v:= ?_) (a':= ?_) #[true,true,true,true,true,true,true,true,true,true,true,true,true,true,true,true,true] rfl rfl (AQ HT_.out zE) (fun _ _ _ h=>h) (Or.inl ⟨by rfl,?_⟩) ?_ ?_; rotate_left; intro w'; go_simp; with_reducible rfl; rotate_left; exact yB
                   refine C7 (Bm HT_.out zE) ?_
                   have p356:0≤(x12_3:Int):=yD
                   have q356:x12_3<(l1.length:Int):=yD
                   obtain ⟨ad356,e356,hx356_0,hx356_1⟩:=BE HR1.out x12_3 p356 q356
                   obtain rfl:ad354=ad356:=(by injection e356)
                   replace hx356_0:=yC HB.out hx356_0
                   replace hx356_1:=yC HB.out hx356_1
                   replace p356:=eq_true p356
                   replace q356:=eq_true q356
                   try go_wp2
                   go_roundg k3
                   case measure=>have:=HK1.out; have:=HK2.out; have:=HK3.out; omega
                   case rel=>exact ⟨(x9_2++((((AL l0_1 x12_3).f0)++(⟨#[64]⟩:ByteArray))++t355)),((Aj l1 x12_3).f1),(true),zG,zG,zG,H',⟨by have:=HK1.out; have:=HK2.out; have:=HK3.out; omega⟩,⟨by (with_reducible repeat (first|apply Kd.R_alloc|apply Kd.R_drewN|apply Kd.R_drew)); exact HO_7.out⟩,⟨by (with_reducible repeat (first|refine AG ?_ _|refine AH ?_|refine AF ?_ _)); exact BK344.out⟩,⟨by repeat (first|(with_reducible first|exact HB.out|apply AE|apply AC|apply AD|refine AI ?_ GE344.out)|exact HB.out)⟩⟩
                  ·rw [if_neg c32] at H
                   exact absurd H zA6
                 ·rw [if_neg c31] at H
                  exact absurd H zA6
                ·rw [if_neg c29] at H
                 exact absurd H zA6
               ·rw [if_neg c28] at H
                exact absurd H zA6
              ·rw [if_neg c27] at H
               exact absurd H zA6
             ·rw [if_neg c26] at H
              exact absurd H zA6
            ·rw [if_neg c25] at H
             have c25b0:(x9_2.toList==([]:List UInt8))=false:=beq_eq_false_iff_ne.mpr c25
             have c25b1:(x9_2.toList !=([]:List UInt8))=true:=bne_iff_ne.mpr c25
             by_cases c35:x9_2.size+1≤9223372036854775807
             ·rw [if_pos c35] at H
              have c35b0:=eq_true c35
              have c35b1:decide (x9_2.size+1≤9223372036854775807)=true:=decide_eq_true c35
              try have c35b2:(9223372036854775807<x9_2.size+1)=False:=eq_false (Nat.not_lt.2 c35)
              by_cases c36:0≤x12_3
              ·rw [if_pos c36] at H
               have c36b0:decide (0≤x12_3)=true:=decide_eq_true c36
               clear c36
               by_cases c37:x12_3<(l0_1.length:Int)
               ·rw [if_pos c37] at H
                have c37b0:decide (x12_3<(l0_1.length:Int))=true:=decide_eq_true c37
                clear c37
                by_cases c38:((AL l0_1 x12_3).f0).size+1≤9223372036854775807
                ·rw [if_pos c38] at H
                 have c38b0:=eq_true c38
                 have c38b1:decide (((AL l0_1 x12_3).f0).size+1≤9223372036854775807)=true:=decide_eq_true c38
                 try have c38b2:(9223372036854775807<((AL l0_1 x12_3).f0).size+1)=False:=eq_false (Nat.not_lt.2 c38)
                 by_cases c39:x12_3<(l1.length:Int)
                 ·rw [if_pos c39] at H
                  have c39b0:decide (x12_3<(l1.length:Int))=true:=decide_eq_true c39
                  clear c39
                  replace H:=Option.bind_eq_some_iff.mp H
                  obtain ⟨t359,A400,H⟩:=H
                  replace H:(if (((AL l0_1 x12_3).f0)++(⟨#[64]⟩:ByteArray)).size+t359.size≤9223372036854775807 then (if (x9_2++(⟨#[32]⟩:ByteArray)).size+((((AL l0_1 x12_3).f0)++(⟨#[64]⟩:ByteArray))++t359).size≤9223372036854775807 then (AW.l1 k3 l1 x7_1 x8_1 ((x9_2++(⟨#[32]⟩:ByteArray))++((((AL l0_1 x12_3).f0)++(⟨#[64]⟩:ByteArray))++t359)) ((Aj l1 x12_3).f1) true A8 l0_1) else (none)) else (none))=some (r1,r2):=H
                  have A40:=yA A400
                  clear A400
                  by_cases c41:(((AL l0_1 x12_3).f0)++(⟨#[64]⟩:ByteArray)).size+t359.size≤9223372036854775807
                  ·rw [if_pos c41] at H
                   have c41b0:=eq_true c41
                   have c41b1:decide ((((AL l0_1 x12_3).f0)++(⟨#[64]⟩:ByteArray)).size+t359.size≤9223372036854775807)=true:=decide_eq_true c41
                   try have c41b2:(9223372036854775807<(((AL l0_1 x12_3).f0)++(⟨#[64]⟩:ByteArray)).size+t359.size)=False:=eq_false (Nat.not_lt.2 c41)
                   (try have c41b3:=c41b2)
                   (try simp only [ByteArray.size_append,(show (⟨#[64]⟩:ByteArray).size=1 from rfl),(show (⟨#[32]⟩:ByteArray).size=1 from rfl)] at c41b3)
                   by_cases c42:(x9_2++(⟨#[32]⟩:ByteArray)).size+((((AL l0_1 x12_3).f0)++(⟨#[64]⟩:ByteArray))++t359).size≤9223372036854775807
                   ·rw [if_pos c42] at H
                    have c42b0:=eq_true c42
                    have c42b1:decide ((x9_2++(⟨#[32]⟩:ByteArray)).size+((((AL l0_1 x12_3).f0)++(⟨#[64]⟩:ByteArray))++t359).size≤9223372036854775807)=true:=decide_eq_true c42
                    try have c42b2:(9223372036854775807<(x9_2++(⟨#[32]⟩:ByteArray)).size+((((AL l0_1 x12_3).f0)++(⟨#[64]⟩:ByteArray))++t359).size)=False:=eq_false (Nat.not_lt.2 c42)
                    (try have c42b3:=c42b2)
                    (try simp only [ByteArray.size_append,(show (⟨#[64]⟩:ByteArray).size=1 from rfl),(show (⟨#[32]⟩:ByteArray).size=1 from rfl)] at c42b3)
                    have H':=yA H
                    clear H
                    try go_wp2
                    have n0_:=yA (Kd.R_drew HO_7.out)
                    have n1_:=yA (AH BK344.out)
                    have n2_:=yA (AD HB.out)
                    clear HO_7
                    clear BK344
                    clear HB
                    have HO_7:=n0_
                    have BK344:=n1_
                    have HB:=n2_
                    clear n0_ n1_ n2_
                    have p357:0≤(x12_3:Int):=yD
                    have q357:x12_3<(l0_1.length:Int):=yD
                    obtain ⟨ad357,A357_3,c357_3,e357,hx357_0,hx357_1,hx357_2,hx357_3,hl357_3,hi357_3⟩:=Bb HR0_1.out x12_3 p357 q357
                    have hw357_3:=hx357_3
                    have hw357_2:=hx357_2
                    have hw357_1:=hx357_1
                    have hw357_0:=hx357_0
                    cases e357
                    replace hx357_0:=yC HB.out hx357_0
                    replace hx357_1:=yC HB.out hx357_1
                    replace hx357_2:=yC HB.out hx357_2
                    replace hx357_3:=yC HB.out hx357_3
                    have HR357_3:=yA hi357_3
                    have HC357_3:=yA hl357_3
                    clear hi357_3 hl357_3
                    replace p357:=eq_true p357
                    replace q357:=eq_true q357
                    have p358:0≤(x12_3:Int):=yD
                    have q358:x12_3<(l1.length:Int):=yD
                    obtain ⟨ad358,e358,hx358_0,hx358_1⟩:=BE HR1.out x12_3 p358 q358
                    have hw358_1:=hx358_1
                    have hw358_0:=hx358_0
                    cases e358
                    replace hx358_0:=yC HB.out hx358_0
                    replace hx358_1:=yC HB.out hx358_1
                    replace p358:=eq_true p358
                    replace q358:=eq_true q358
                    refine Bp (n:=17) (S:=fun w'=>w'.cell? ⟨gb344,0,none⟩=some (.int .i64 A8)∧w'.cell? ⟨gb344,1,none⟩=some (.slice (some ad357) l0_1.length c0_1)∧w'.cell? (ad357.add ((x12_3).toNat*4))=some (.string ((AL l0_1 x12_3).f0))∧w'.cell? ⟨(ad357.add ((x12_3).toNat*4)).block,(ad357.add ((x12_3).toNat*4)).off+1,none⟩=some (.int .i64 ((AL l0_1 x12_3).f1))∧w'.cell? ⟨(ad357.add ((x12_3).toNat*4)).block,(ad357.add ((x12_3).toNat*4)).off+2,none⟩=some (.int .i64 ((AL l0_1 x12_3).f2))∧w'.cell? ⟨(ad357.add ((x12_3).toNat*4)).block,(ad357.add ((x12_3).toNat*4)).off+3,none⟩=some (.slice A357_3 ((AL l0_1 x12_3).f3).length c357_3)∧w'.cell? (ad358.add ((x12_3).toNat*2))=some (.int .i64 ((Aj l1 x12_3).f0))∧w'.cell? ⟨(ad358.add ((x12_3).toNat*2)).block,(ad358.add ((x12_3).toNat*2)).off+1,none⟩=some (.int .i64 ((Aj l1 x12_3).f1))) (ds:=[]) #[false,false,false,false,false,false,false,false,false,false,false,false,false,false,false,false,false] zE rfl rfl ⟨(AK BK344.out 0).trans rfl,(AK BK344.out 1).trans rfl,(yC HB.out hw357_0),(yC HB.out hw357_1),(yC HB.out hw357_2),(yC HB.out hw357_3),(yC HB.out hw358_0),(yC HB.out hw358_1)⟩ (fun hHeld=> ?_); refine BU AW.tab22 AW.bits22 (fun HT_ HW_=> ?_)
                    generalize wr.drew=w43 at HO_7 BK344 HB HR357_3 hx357_0 hx357_1 hx357_2 hx357_3 hx358_0 hx358_1 hHeld ⊢
                    refine AX (i:=0) (N:=some 73) (v:= ?_) (a':= ?_) #[true,false,false,false,false,false,false,false,false,false,false,false,false,false,false,false,false] rfl rfl (AQ HT_.out zE) (fun _ _ _ h=>h) (Or.inl ⟨by rfl,?_⟩) ?_ ?_; rotate_left; intro w'; go_simp; with_reducible rfl; rotate_left; exact yB
                    refine AX (i:=1) (N:=some 74) (v:= ?_) (a':= ?_) #[true,true,false,false,false,false,false,false,false,false,false,false,false,false,false,false,false] rfl rfl (AQ HT_.out zE) (fun _ _ _ h=>h) (Or.inl ⟨by rfl,?_⟩) ?_ ?_; rotate_left; intro w'; go_simp; with_reducible rfl; rotate_left; exact yB
                    refine AX (i:=3) (N:=some 76) (v:= ?_) (a':= ?_) #[true,true,false,true,false,false,false,false,false,false,false,false,false,false,false,false,false] rfl rfl (AQ HT_.out zE) (fun _ _ _ h=>h) (Or.inl ⟨by rfl,?_⟩) ?_ ?_; rotate_left; intro w'; go_simp; with_reducible rfl; rotate_left; exact yB
                    refine AX (i:=8) (N:=some 81) (v:= ?_) (a':= ?_) #[true,true,false,true,false,false,false,false,true,false,false,false,false,false,false,false,false] rfl rfl (AQ HT_.out zE) (fun _ _ _ h=>h) (Or.inl ⟨by rfl,?_⟩) ?_ ?_; rotate_left; intro w'; go_simp; with_reducible rfl; rotate_left; exact yB
                    refine AX (i:=9) (N:=some 82) (v:= ?_) (a':= ?_) #[true,true,false,true,false,false,false,false,true,true,false,false,false,false,false,false,false] rfl rfl (AQ HT_.out zE) (fun _ _ _ h=>h) (Or.inl ⟨by rfl,?_⟩) ?_ ?_; rotate_left; intro w'; go_simp; with_reducible rfl; rotate_left; exact yB
                    refine AX (i:=10) (N:=some 83) (v:= ?_) (a':= ?_) #[true,true,false,true,false,false,false,false,true,true,true,false,false,false,false,false,false] rfl rfl (AQ HT_.out zE) (fun _ _ _ h=>h) (Or.inl ⟨by rfl,?_⟩) ?_ ?_; rotate_left; intro w'; go_simp; with_reducible rfl; rotate_left; exact yB
                    refine AX (i:=11) (N:=some 84) (v:= ?_) (a':= ?_) #[true,true,false,true,false,false,false,false,true,true,true,true,false,false,false,false,false] rfl rfl (AQ HT_.out zE) (fun _ _ _ h=>h) (Or.inl ⟨by rfl,?_⟩) ?_ ?_; rotate_left; intro w'; go_simp; with_reducible rfl; rotate_left; exact yB
                    refine BK (i:=2) (N:=some 75) (v:= ?_) (a':= ?_) #[true,true,true,true,false,false,false,false,true,true,true,true,false,false,false,false,false] rfl rfl (B4 HT_.out HW_.out zE) (fun _ _ _ h=>h) (Or.inl ⟨by rfl,?_⟩) hHeld ?_ ?_; rotate_left; rintro w' ⟨s0,s1,s2,s3,s4,s5,s6,s7⟩; go_simp; with_reducible rfl; rotate_left; exact yB
                    refine AX (i:=4) (N:=some 77) (v:= ?_) (a':= ?_) #[true,true,true,true,true,false,false,false,true,true,true,true,false,false,false,false,false] rfl rfl (AQ HT_.out zE) (fun _ _ _ h=>h) (Or.inl ⟨by rfl,?_⟩) ?_ ?_; rotate_left; intro w'; go_simp; with_reducible rfl; rotate_left; exact yB
                    refine AX (i:=5) (N:=some 78) (v:= ?_) (a':= ?_) #[true,true,true,true,true,true,false,false,true,true,true,true,false,false,false,false,false] rfl rfl (AQ HT_.out zE) (fun _ _ _ h=>h) (Or.inl ⟨by rfl,?_⟩) ?_ ?_; rotate_left; intro w'; go_simp; with_reducible rfl; rotate_left; exact yB
                    refine BK (i:=6) (N:=some 79) (v:= ?_) (a':= ?_) #[true,true,true,true,true,true,true,false,true,true,true,true,false,false,false,false,false] rfl rfl (B4 HT_.out HW_.out zE) (fun _ _ _ h=>h) (Or.inl ⟨by rfl,?_⟩) hHeld ?_ ?_; rotate_left; rintro w' ⟨s0,s1,s2,s3,s4,s5,s6,s7⟩; go_simp; with_reducible rfl; rotate_left; exact yB
                    refine AX (i:=7) (N:=some 80) (v:= ?_) (a':= ?_) #[true,true,true,true,true,true,true,true,true,true,true,true,false,false,false,false,false] rfl rfl (AQ HT_.out zE) (fun _ _ _ h=>h) (Or.inl ⟨by rfl,?_⟩) ?_ ?_; rotate_left; intro w'; go_simp; with_reducible rfl; rotate_left; exact yB
                    refine BK (i:=12) (N:=some 85) (v:= ?_) (a':= ?_) #[true,true,true,true,true,true,true,true,true,true,true,true,true,false,false,false,false] rfl rfl (B4 HT_.out HW_.out zE) (fun _ _ _ h=>h) (Or.inl ⟨by rfl,?_⟩) hHeld ?_ ?_; rotate_left; rintro w' ⟨s0,s1,s2,s3,s4,s5,s6,s7⟩; go_simp; with_reducible rfl; rotate_left; exact yB
                    refine one_ (i:=13) (N:=some 86) #[true,true,true,true,true,true,true,true,true,true,true,true,true,true,false,false,false] rfl rfl (Bi HT_.out zE) zA2 (fun K hK=> ?_)
                    refine C1 Tryd.func28 zE rfl #[.int .i64 ((Aj l1 x12_3).f1)] (by rfl) rfl rfl zD ?_
                    with_reducible refine (Az.calls k3 ((Aj l1 x12_3).f1) t359 _ A40.out).mono ?_
                    rintro e w44 ⟨rfl,hb⟩
                    refine ⟨_,rfl,?_⟩
                    have n0_:=yA (Kd.R_below zY hb)
                    have n1_:=yA (AP (g:=gb344) (o:= .cells #[.int .i64 A8,.slice (some ad357) l0_1.length c0_1] 24 (0,0)) (by (with_reducible repeat (first|refine AG ?_ _|refine AH ?_|refine AF ?_ _)); exact BK344.out) hb)
                    have n2_:=yA (AO zC3 hb)
                    clear HO_7
                    clear BK344
                    clear HB
                    have HO_7:=n0_
                    have BK344:=n1_
                    have HB:=n2_
                    clear n0_ n1_ n2_
                    (try clear hb)
                    (try clear hb2)
                    (try clear hk)
                    (try clear hi)
                    refine hK.out _ _ ⟨(AK BK344.out 0).trans rfl,(AK BK344.out 1).trans rfl,(yC HB.out hw357_0),(yC HB.out hw357_1),(yC HB.out hw357_2),(yC HB.out hw357_3),(yC HB.out hw358_0),(yC HB.out hw358_1)⟩ (fun hHeld=> ?_)
                    clear hK K
                    refine Bq (a':= ?_) ?_ ?_; rotate_left; show Act.put _ (some 86) _=_; exact yB
                    refine AX (i:=14) (N:=some 87) (v:= ?_) (a':= ?_) #[true,true,true,true,true,true,true,true,true,true,true,true,true,true,true,false,false] rfl rfl (AQ HT_.out zE) (fun _ _ _ h=>h) (Or.inl ⟨by rfl,?_⟩) ?_ ?_; rotate_left; intro w'; go_simp; with_reducible rfl; rotate_left; exact yB
                    refine AX (i:=15) (N:=some 88) (v:= ?_) (a':= ?_) #[true,true,true,true,true,true,true,true,true,true,true,true,true,true,true,true,false] rfl rfl (AQ HT_.out zE) (fun _ _ _ h=>h) (Or.inl ⟨by rfl,?_⟩) ?_ ?_; rotate_left; intro w'; go_simp; with_reducible rfl; rotate_left; exact yB
                    refine AX (i:=16) (N:=some 9) (v:= ?_) (a':= ?_) #[true,true,true,true,true,true,true,true,true,true,true,true,true,true,true,true,true] rfl rfl (AQ HT_.out zE) (fun _ _ _ h=>h) (Or.inl ⟨by rfl,?_⟩) ?_ ?_; rotate_left; intro w'; go_simp; with_reducible rfl; rotate_left; exact yB
                    refine C7 (Bm HT_.out zE) ?_
                    have p360:0≤(x12_3:Int):=yD
                    have q360:x12_3<(l1.length:Int):=yD
                    obtain ⟨ad360,e360,hx360_0,hx360_1⟩:=BE HR1.out x12_3 p360 q360
                    obtain rfl:ad358=ad360:=(by injection e360)
                    replace hx360_0:=yC HB.out hx360_0
                    replace hx360_1:=yC HB.out hx360_1
                    replace p360:=eq_true p360
                    replace q360:=eq_true q360
                    try go_wp2
                    go_roundg k3
                    case measure=>have:=HK1.out; have:=HK2.out; have:=HK3.out; omega
                    case rel=>exact ⟨((x9_2++(⟨#[32]⟩:ByteArray))++((((AL l0_1 x12_3).f0)++(⟨#[64]⟩:ByteArray))++t359)),((Aj l1 x12_3).f1),(true),zG,zG,zG,H',⟨by have:=HK1.out; have:=HK2.out; have:=HK3.out; omega⟩,⟨by (with_reducible repeat (first|apply Kd.R_alloc|apply Kd.R_drewN|apply Kd.R_drew)); exact HO_7.out⟩,⟨by (with_reducible repeat (first|refine AG ?_ _|refine AH ?_|refine AF ?_ _)); exact BK344.out⟩,⟨by repeat (first|(with_reducible first|exact HB.out|apply AE|apply AC|apply AD|refine AI ?_ GE344.out)|exact HB.out)⟩⟩
                   ·rw [if_neg c42] at H
                    exact absurd H zA6
                  ·rw [if_neg c41] at H
                   exact absurd H zA6
                 ·rw [if_neg c39] at H
                  exact absurd H zA6
                ·rw [if_neg c38] at H
                 exact absurd H zA6
               ·rw [if_neg c37] at H
                exact absurd H zA6
              ·rw [if_neg c36] at H
               exact absurd H zA6
             ·rw [if_neg c35] at H
              exact absurd H zA6
           ·rw [if_neg c24] at H
            have c24b0:decide (0≤x12_3)=false:=decide_eq_false c24
            clear c24
            have H':=yA H
            clear H
            go_wp2
            go_roundg k3
            case measure=>have:=HK1.out; have:=HK2.out; have:=HK3.out; omega
            case rel=>exact ⟨(x9_2),(x10_2),(false),zG,zG,zG,H',⟨by have:=HK1.out; have:=HK2.out; have:=HK3.out; omega⟩,⟨by (with_reducible repeat (first|apply Kd.R_alloc|apply Kd.R_drewN|apply Kd.R_drew)); exact HO_7.out⟩,⟨by (with_reducible repeat (first|refine AG ?_ _|refine AH ?_|refine AF ?_ _)); exact BK344.out⟩,⟨by repeat (first|(with_reducible first|exact HB.out|apply AE|apply AC|apply AD|refine AI ?_ GE344.out)|exact HB.out)⟩⟩
       ·replace c10:=Bool.eq_false_iff.mpr c10
        subst c10
        have H1:(if x7_1.length<8796093022208 then (AW.l0 k2 l1 (x7_1++[x9_2]) (wrap64 (x8_1+1)) A8 l0_1) else (none))=some (r1,r2):=by rw [if_neg (show ¬(false=true) by decide)] at H; exact H
        clear H
        have H:=H1
        clear H1
        by_cases c45:x7_1.length<8796093022208
        ·rw [if_pos c45] at H
         have LMc45:=yA c45
         clear c45
         obtain ⟨y346,hy346⟩:∃y_:List ByteArray,y_=(x7_1++[x9_2]):=⟨_,rfl⟩
         replace H:(AW.l0 k2 l1 y346 (wrap64 (x8_1+1)) A8 l0_1)=some (r1,r2):=by first|(rw [hy346]; with_reducible exact H)|(have H2_:=(Option.bind_some _ _).symm.trans H; rw [hy346]; with_reducible exact H2_)|(have H2_:=(Option.bind_some _ _).symm.trans H; with_reducible exact H2_)|with_reducible exact H|(rw [hy346]; exact H)|exact H
         have Ny346:=yA hy346
         clear hy346
         have H':=yA H
         clear H
         go_wp2_with (first|((with_reducible refine Bs (b:= .append) (xs:= #[.tmp 94,.tmp 96]) rfl ?_); at_builtin; refine Kd.R_append Kd.string (w0:=w) w.heap.size rfl (.tmp 94) (.tmp 96) 38 9 (.string ⟨#[]⟩) 16 rfl Tryd.underlying38 info9 rfl zA2 zI u7 x7_1 x9_2 [.string x9_2] (fun _=>True) (fun _=>False) rfl rfl ?aP (fun _ hk=>hk.elim) ?aF ?aO ?aB ?aS ?aL ?_; (case aP=>exact rfl); (case aB=>exact zC3); (case aF=>exact (fun _ _=>trivial)); (case aO=>exact zY); (case aS=>exact (AT zC3)); (case aL=>have:=LMc45.out; omega); intro v347 w46 ho hb hg hat; rw [←Ny346.out] at ho; have n0_:=yA (BP (g:=gb344) (o:= .cells #[.int .i64 A8,.slice A0_1 l0_1.length c0_1] 24 (0,0)) (by (with_reducible repeat (first|refine AG ?_ _|refine AH ?_|refine AF ?_ _)); exact BK344.out) hg (Kd.R_ne HO_7.out BK344.out zA2)); have n1_:=yA (hb); have n2_:=yA (ho); clear BK344; clear HB; clear HO_7; have BK344:=n0_; have HB:=n1_; have HO348:=n2_; clear n0_ n1_ n2_; clear ho hb hg hat))
         go_roundg k2
         case measure=>have:=HK1.out; have:=HK2.out; omega
         case rel=>exact ⟨(y346),(wrap64 (x8_1+1)),zG,H',⟨by have:=HK1.out; have:=HK2.out; omega⟩,⟨by (with_reducible repeat (first|apply Kd.R_alloc|apply Kd.R_drewN|apply Kd.R_drew)); exact HO348.out⟩,⟨by (with_reducible repeat (first|refine AG ?_ _|refine AH ?_|refine AF ?_ _)); exact BK344.out⟩,⟨by repeat (first|(with_reducible first|exact HB.out|apply AE|apply AC|apply AD|refine AI ?_ GE344.out)|exact HB.out)⟩⟩
        ·rw [if_neg c45] at H
         exact absurd H zA6
    ·rw [if_neg c8] at H
     have c8b0:decide (x8_1<A8)=false:=decide_eq_false c8
     clear c8
     simp only [Option.some.injEq,Prod.mk.injEq] at H
     obtain ⟨rfl,rfl⟩:=H
     have hcz47_0:wr.cell? ⟨gb344,0,none⟩=some (.int .i64 A8):=(AK BK344.out 0).trans rfl
     have hcz47_1:wr.cell? ⟨gb344,1,none⟩=some (.slice A0_1 l0_1.length c0_1):=(AK BK344.out 1).trans rfl
     have hfz47_0:=AJ BK344.out 0
     have hfz47_1:=AJ BK344.out 1
     go_wp2
     go_ret2
     exact ⟨_,by first|rfl|(simp [AZ,AY]<;>rfl)|(simp [*,AZ,AY]<;>rfl),by (with_reducible repeat (first|apply Kd.R_alloc|apply Kd.R_drewN|apply Kd.R_drew)); exact HO_7.out,by repeat (first|(with_reducible first|exact HB.out|apply AE|apply AC|apply AD|refine AI ?_ GE344.out)|exact HB.out)⟩
 ·rw [if_neg c4] at H
  have c4b0:(t345==0)=false:=beq_eq_false_iff_ne.mpr c4
  have c4b1:(t345 !=0)=true:=bne_iff_ne.mpr c4
  simp only [Option.some.injEq,Prod.mk.injEq] at H
  obtain ⟨rfl,rfl⟩:=H
  go_enter Tryd.func13,Tryd.ntmps13
  go_wp2_with (first|((with_reducible refine Ar (N:=2) rfl ?_); refine Ap ?hg (N:=2) ?hd (cs:= #[.int .i64 A8,.slice A0_1 l0_1.length c0_1]) (t:=24) ?hr ?_; (case hd=>rfl); (case hg=>rfl); (case hr=>first|(go_simp; done)|(go_simp; rfl)); intro gb344 hg w48 hbox hb; have n0_:=yA (AO zB hb); have n1_:=yA (hbox); have n2_:=yA ((by rw [hg]; exact (AT zB):w.heap.size≤gb344)); have n3_:=yA ((by rw [hg]; exact (AT zB):w.heap.size≤gb344)); clear HB; have HB:=n0_; have BK344:=n1_; have GW344:=n2_; have GE344:=n3_; clear n0_ n1_ n2_ n3_; clear hb hbox hg; have hcz49_0:w48.cell? ⟨gb344,0,none⟩=some (.int .i64 A8):=(AK BK344.out 0).trans rfl; have hcz49_1:w48.cell? ⟨gb344,1,none⟩=some (.slice A0_1 l0_1.length c0_1):=(AK BK344.out 1).trans rfl; have hfz49_0:=AJ BK344.out 0; have hfz49_1:=AJ BK344.out 1)|((with_reducible refine Ah (f:=17) rfl ?_); refine BB (some 16) rfl rfl Tryd.func17 zE rfl #[.agg #[.int .i64 A8,.slice A0_1 l0_1.length c0_1],.slice A1 l1.length c1] rfl zD ?_; (with_reducible refine (AU.calls k A8 _ _ l0_1 _ _ l1 t345 _ ?side1 ?side2 ?side3 ?side4 A3.out).mono ?_); (case side1=>repeat (first|exact (Kd.C_below HR0_1.out HB.out)|(with_reducible refine Kd.C_alloc ?_ _)|(with_reducible refine Kd.C_drewN ?_ _)|(with_reducible refine Kd.C_drew ?_))); (case side2=>exact HC0_1.out); (case side3=>repeat (first|exact (Kd.C_below HR1.out HB.out)|(with_reducible refine Kd.C_alloc ?_ _)|(with_reducible refine Kd.C_drewN ?_ _)|(with_reducible refine Kd.C_drew ?_))); (case side4=>exact HC1.out); rintro e w50 ⟨rfl,hb⟩; refine ⟨_,rfl,?_⟩; have n0_:=yA (AP (g:=gb344) (o:= .cells #[.int .i64 A8,.slice A0_1 l0_1.length c0_1] 24 (0,0)) (by (with_reducible repeat (first|refine AG ?_ _|refine AH ?_|refine AF ?_ _)); exact BK344.out) hb); have n1_:=yA (AO zC3 hb); clear BK344; clear HB; have BK344:=n0_; have HB:=n1_; clear n0_ n1_; (try clear hb); (try clear hb2); (try clear hk); (try clear hi)))
  go_ret2
  exact ⟨_,by first|rfl|(simp [AZ,AY]<;>rfl)|(simp [*,AZ,AY]<;>rfl),by first|exact Kd.R_nil _ _ _ _ _|exact Kd.N_nil _ _ _ _ _|exact Kd.V_nil _ _ _ _ _|exact Kd.Q_nil _ _ _ _ _|exact Kd.S_nil _ _ _ _ _,by repeat (first|(with_reducible first|exact HB.out|apply AE|apply AC|apply AD|refine AI ?_ GE344.out)|exact HB.out)⟩
end Go.Proofs.YtdadecjefafflaaDoor.PChk
end
section
namespace Go.Proofs.YtdadecjefafflaaDoor.PChk
set_option maxRecDepth 100000
open Go.RowKit Go.Proofs.YtdadecjefafflaaDoorW.PrintWords Go.Proofs.YtdadecjefafflaaDoorW.PrintLast Go.Proofs.YtdadecjefafflaaDoorW.PrintMore
attribute [local go_sem] Ba BX Be Bd BS BR BZ BW
def Al.l0:Nat→List ByteArray→List ByteArray→Int→Option (Bool)
 |0,_,_,_=>none
 |k+1,x0,x1,x5=>if x5<(x0.length:Int) then (if 0≤x5 then (if x5<(x1.length:Int) then (if (rdOf ByteArray.empty x0 x5).toList=(rdOf ByteArray.empty x1 x5).toList then (Al.l0 k x0 x1 (wrap64 (x5+1))) else (some false)) else (none)) else (none)) else (some true)
def Al.f (k:Nat) (l0:List ByteArray) (l1:List ByteArray):Option (Bool):=if (l0.length:Int)=(l1.length:Int) then (Al.l0 k l0 l1 0) else (some false)
set_option maxHeartbeats 8000000 in
theorem Al.calls (k:Nat) (A0:Option Addr) (c0:Nat) (l0:List ByteArray) (A1:Option Addr) (c1:Nat) (l1:List ByteArray) (r:Bool) (w:World) (hr0:Kd.C Kd.string w A0 l0.length l0) (hc0:l0.length≤c0) (hr1:Kd.C Kd.string w A1 l1.length l1) (hc1:l1.length≤c1) (h:Al.f k l0 l1=some r):
  Calls Tryd.prog 18 #[.slice A0 l0.length c0,.slice A1 l1.length c1] w fun e w'=>e= .returned (.bool r)∧Drawn0 w w':=by
 have HR0:=yA hr0
 have HC0:=yA hc0
 clear hr0 hc0
 have HR1:=yA hr1
 have HC1:=yA hc1
 clear hr1 hc1
 have H:(if (l0.length:Int)=(l1.length:Int) then (Al.l0 k l0 l1 0) else (some false))=some r:=h
 clear h
 by_cases c3:(l0.length:Int)=(l1.length:Int)
 ·rw [if_pos c3] at H
  have c3b0:((l0.length:Int)==(l1.length:Int))=true:=beq_iff_eq.mpr c3
  have c3b1:((l0.length:Int) !=(l1.length:Int))=false:=bne_eq_false_iff_eq.mpr c3
  have c3b2:(l0.length==l1.length)=true:=by first|simpa using c3|(simp at c3 ⊢; omega)
  clear c3
  have H':=yA H
  clear H
  go_enter Tryd.func18,Tryd.ntmps18
  go_wp2
  repeat (go_quiet (fail); try go_wp2)
  go_loopg [5] k (fun kq v5 w'=>∃(x5_1:Int),v5= .int .i64 x5_1∧Aside0 (Al.l0 kq l0 l1 x5_1=some r)∧Aside0 (kq≤k)∧Drawn0 w w')
  case atStart=>exact ⟨(0),zG,H',⟨Nat.le_refl _⟩,by repeat (first|exact Drawn0.refl _|apply Drawn0.step)⟩
  case round=>
   clear H'
   try clear c1
   try clear p2
   try clear c3
   try clear c3b0
   try clear c3b1
   try clear c3b2
   obtain ⟨x5_1,rfl,HA,HK1,⟨m1,rfl⟩⟩:=hrel
   cases gk with
   |zero=>exact absurd HA.out (by simp [Al.l0])
   | succ k1 =>
    have H:=HA.out
    clear HA
    simp only [Al.l0] at H
    by_cases c4:x5_1<(l0.length:Int)
    ·rw [if_pos c4] at H
     have c4b0:decide (x5_1<(l0.length:Int))=true:=decide_eq_true c4
     clear c4
     by_cases c5:0≤x5_1
     ·rw [if_pos c5] at H
      have c5b0:decide (0≤x5_1)=true:=decide_eq_true c5
      clear c5
      by_cases c6:x5_1<(l1.length:Int)
      ·rw [if_pos c6] at H
       have c6b0:decide (x5_1<(l1.length:Int))=true:=decide_eq_true c6
       clear c6
       by_cases c7:(rdOf ByteArray.empty l0 x5_1).toList=(rdOf ByteArray.empty l1 x5_1).toList
       ·rw [if_pos c7] at H
        have c7b0:((rdOf ByteArray.empty l0 x5_1).toList==(rdOf ByteArray.empty l1 x5_1).toList)=true:=beq_iff_eq.mpr c7
        have c7b1:((rdOf ByteArray.empty l0 x5_1).toList !=(rdOf ByteArray.empty l1 x5_1).toList)=false:=bne_eq_false_iff_eq.mpr c7
        clear c7
        have H':=yA H
        clear H
        have p361:0≤(x5_1:Int):=yD
        have q361:x5_1<(l0.length:Int):=yD
        obtain ⟨ad361,e361,hx361_0⟩:=Kd.at_string HR0.out x5_1 p361 q361
        cases e361
        replace p361:=eq_true p361
        replace q361:=eq_true q361
        have p362:0≤(x5_1:Int):=yD
        have q362:x5_1<(l1.length:Int):=yD
        obtain ⟨ad362,e362,hx362_0⟩:=Kd.at_string HR1.out x5_1 p362 q362
        cases e362
        replace p362:=eq_true p362
        replace q362:=eq_true q362
        go_wp2
        repeat (go_quiet (fail); try go_wp2)
        go_roundg k1
        case measure=>have:=HK1.out; omega
        case rel=>exact ⟨(wrap64 (x5_1+1)),zG,H',⟨by have:=HK1.out; omega⟩,by repeat (first|exact Drawn0.refl _|apply Drawn0.step)⟩
       ·rw [if_neg c7] at H
        have c7b0:((rdOf ByteArray.empty l0 x5_1).toList==(rdOf ByteArray.empty l1 x5_1).toList)=false:=beq_eq_false_iff_ne.mpr c7
        have c7b1:((rdOf ByteArray.empty l0 x5_1).toList !=(rdOf ByteArray.empty l1 x5_1).toList)=true:=bne_iff_ne.mpr c7
        obtain rfl:=Option.some.inj H
        have p361:0≤(x5_1:Int):=yD
        have q361:x5_1<(l0.length:Int):=yD
        obtain ⟨ad361,e361,hx361_0⟩:=Kd.at_string HR0.out x5_1 p361 q361
        cases e361
        replace p361:=eq_true p361
        replace q361:=eq_true q361
        have p362:0≤(x5_1:Int):=yD
        have q362:x5_1<(l1.length:Int):=yD
        obtain ⟨ad362,e362,hx362_0⟩:=Kd.at_string HR1.out x5_1 p362 q362
        cases e362
        replace p362:=eq_true p362
        replace q362:=eq_true q362
        go_wp2
        repeat (go_quiet (fail); try go_wp2)
        go_ret
        exact ⟨by first|rfl|(simp; done)|(simp [*]; done),by repeat (first|exact Drawn0.refl _|apply Drawn0.step)⟩
      ·rw [if_neg c6] at H
       exact absurd H zA6
     ·rw [if_neg c5] at H
      exact absurd H zA6
    ·rw [if_neg c4] at H
     have c4b0:decide (x5_1<(l0.length:Int))=false:=decide_eq_false c4
     clear c4
     obtain rfl:=Option.some.inj H
     go_wp2
     repeat (go_quiet (fail); try go_wp2)
     go_ret
     exact ⟨by first|rfl|(simp; done)|(simp [*]; done),by repeat (first|exact Drawn0.refl _|apply Drawn0.step)⟩
 ·rw [if_neg c3] at H
  have c3b0:((l0.length:Int)==(l1.length:Int))=false:=beq_eq_false_iff_ne.mpr c3
  have c3b1:((l0.length:Int) !=(l1.length:Int))=true:=bne_iff_ne.mpr c3
  have c3b2:(l0.length==l1.length)=false:=by first|simpa using c3|(simp at c3 ⊢; omega)
  obtain rfl:=Option.some.inj H
  go_enter Tryd.func18,Tryd.ntmps18
  go_wp2
  repeat (go_quiet (fail); try go_wp2)
  go_ret
  exact ⟨by first|rfl|(simp; done)|(simp [*]; done),by repeat (first|exact Drawn0.refl _|apply Drawn0.step)⟩
end Go.Proofs.YtdadecjefafflaaDoor.PChk
end
