/- A part of what the law's proof leans on. PACKED BY pack.py of this repo. -/
import Derived.Test.YtdadecjefafflaaDoorC3
set_option linter.unusedVariables false
set_option linter.unusedSimpArgs false
set_option linter.defProp false
set_option linter.unusedSectionVars false
section
namespace Go.Proofs.YtdadecjefafflaaDoor.PChk
set_option maxRecDepth 100000
open Go.RowKit Go.Proofs.YtdadecjefafflaaDoorW.PrintWords Go.Proofs.YtdadecjefafflaaDoorW.PrintLast Go.Proofs.YtdadecjefafflaaDoorW.PrintMore
attribute [local go_sem] Ba BX Be Bd BS BR BZ BW
mutual
def AV.j0:Nat→Bool→Int→List (S57)→Option (Bool)
 |0,_,_,_=>none
 |k+1,x20,x252000,x252001=>if x20=true then (some false) else (AV.l0 k 0 x252000 x252001)
def AV.l0:Nat→Int→Int→List (S57)→Option (Bool)
 |0,_,_,_=>none
 |k+1,x3,x252000,x252001=>if x3<(x252001.length:Int) then (if 0≤x3 then ((B8.f k ((AL x252001 x3).f0)).bind fun t254=>(if t254=true then (if ((AL x252001 x3).f1)<1 then (AV.j2 k x3 true x252000 x252001 ((AL x252001 x3).f0) ((AL x252001 x3).f1) ((AL x252001 x3).f2) ((AL x252001 x3).f3)) else (if ((AL x252001 x3).f1)>10000 then (AV.j2 k x3 true x252000 x252001 ((AL x252001 x3).f0) ((AL x252001 x3).f1) ((AL x252001 x3).f2) ((AL x252001 x3).f3)) else (if ((AL x252001 x3).f2)<0 then (AV.j2 k x3 true x252000 x252001 ((AL x252001 x3).f0) ((AL x252001 x3).f1) ((AL x252001 x3).f2) ((AL x252001 x3).f3)) else (AV.j2 k x3 (decide (((AL x252001 x3).f2)>1000000)) x252000 x252001 ((AL x252001 x3).f0) ((AL x252001 x3).f1) ((AL x252001 x3).f2) ((AL x252001 x3).f3))))) else (AV.j2 k x3 true x252000 x252001 ((AL x252001 x3).f0) ((AL x252001 x3).f1) ((AL x252001 x3).f2) ((AL x252001 x3).f3)))) else (none)) else (some true)
def AV.j2:Nat→Int→Bool→Int→List (S57)→ByteArray→Int→Int→List Int→Option (Bool)
 |0,_,_,_,_,_,_,_,_=>none
 |k+1,x3,x56,x252000,x252001,x254000,x254001,x254002,x254003=>if x56=true then (some false) else (AV.l1 k x3 0 x252000 x252001 x254000 x254001 x254002 x254003)
def AV.l1:Nat→Int→Int→Int→List (S57)→ByteArray→Int→Int→List Int→Option (Bool)
 |0,_,_,_,_,_,_,_,_=>none
 |k+1,x3,x5,x252000,x252001,x254000,x254001,x254002,x254003=>if x5<x3 then (if 0≤x5 then (if x5<(x252001.length:Int) then (if ((AL x252001 x5).f0).toList=x254000.toList then (some false) else (AV.l1 k x3 (wrap64 (x5+1)) x252000 x252001 x254000 x254001 x254002 x254003)) else (none)) else (none)) else (AV.l2 k x3 0 x252000 x252001 x254000 x254001 x254002 x254003)
def AV.l2:Nat→Int→Int→Int→List (S57)→ByteArray→Int→Int→List Int→Option (Bool)
 |0,_,_,_,_,_,_,_,_=>none
 |k+1,x3,x6,x252000,x252001,x254000,x254001,x254002,x254003=>if x6<(x254003.length:Int) then (if 0≤x6 then (if (rd x254003 x6)<0 then (some false) else (if (rd x254003 x6)≥x3 then (some false) else (if x6>0 then (if 0≤(wrap64 (x6-1)) then (if (wrap64 (x6-1))<(x254003.length:Int) then (if (rd x254003 (wrap64 (x6-1)))≥(rd x254003 x6) then (some false) else (AV.l2 k x3 (wrap64 (x6+1)) x252000 x252001 x254000 x254001 x254002 x254003)) else (none)) else (none)) else (AV.l2 k x3 (wrap64 (x6+1)) x252000 x252001 x254000 x254001 x254002 x254003)))) else (none)) else (AV.l0 k (wrap64 (x3+1)) x252000 x252001)
end
def AV.f (k:Nat) (A8:Int) (l0_1:List (S57)):Option (Bool):=if A8<1 then (AV.j0 k true A8 l0_1) else (if A8>4 then (AV.j0 k true A8 l0_1) else (AV.j0 k (decide ((l0_1.length:Int)>40)) A8 l0_1))
set_option maxHeartbeats 8000000 in
theorem AV.calls (k : Nat) (A8:Int) (A0_1:Option Addr) (c0_1:Nat) (l0_1:List (S57)) (r:Bool) (w:World) (hr0_1:Kd.C k57 w A0_1 l0_1.length l0_1) (hc0_1:l0_1.length≤c0_1) (h:AV.f k A8 l0_1=some r):
    Calls Tryd.prog 15 #[.agg #[.int .i64 A8,.slice A0_1 l0_1.length c0_1]] w fun e w'=>e= .returned (.bool r)∧Below w.heap.size w w':=by
  have hu24:=Tryd.underlying24
  have hu57:=Tryd.underlying57
  have HR0_1:=yA hr0_1
  have HC0_1:=yA hc0_1
  clear hr0_1 hc0_1
  have HB:=yA (Below.refl w.heap.size w)
  have H:(if A8<1 then (AV.j0 k true A8 l0_1) else (if A8>4 then (AV.j0 k true A8 l0_1) else (AV.j0 k (decide ((l0_1.length:Int)>40)) A8 l0_1)))=some r:=h
  clear h
  have HC2:=yA H
  clear H
  go_enter Tryd.func15,Tryd.ntmps15
  go_upto_region 1 with (first|((with_reducible refine Ar (N:=1) rfl ?_); (try (refine BI (by rfl) ?_; dsimp only)); refine Ap ?hg (N:=1) ?hd (cs:= #[.int .i64 A8,.slice A0_1 l0_1.length c0_1]) (t:=24) ?hr ?_; (case hd=>rfl); (case hg=>rfl); (case hr=>first|(go_simp; done)|(go_simp; rfl)); intro gb251 hg w3 hbox hb; have n0_:=yA (AO zB hb); have n1_:=yA (hbox); have n2_:=yA ((by rw [hg]; exact (AT zB):w.heap.size≤gb251)); have n3_:=yA ((by rw [hg]; exact (AT zB):w.heap.size≤gb251)); clear HB; have HB:=n0_; have BK251:=n1_; have GW251:=n2_; have GE251:=n3_; clear n0_ n1_ n2_ n3_; clear hb hbox hg))
  repeat (go_quiet (first|((with_reducible refine Ar (N:=1) rfl ?_); (try (refine BI (by rfl) ?_; dsimp only)); refine Ap ?hg (N:=1) ?hd (cs:= #[.int .i64 A8,.slice A0_1 l0_1.length c0_1]) (t:=24) ?hr ?_; (case hd=>rfl); (case hg=>rfl); (case hr=>first|(go_simp; done)|(go_simp; rfl)); intro gb251 hg w3 hbox hb; have n0_:=yA (AO zB hb); have n1_:=yA (hbox); have n2_:=yA ((by rw [hg]; exact (AT zB):w.heap.size≤gb251)); have n3_:=yA ((by rw [hg]; exact (AT zB):w.heap.size≤gb251)); clear HB; have HB:=n0_; have BK251:=n1_; have GW251:=n2_; have GE251:=n3_; clear n0_ n1_ n2_ n3_; clear hb hbox hg)); go_upto_region 1 with (first|((with_reducible refine Ar (N:=1) rfl ?_); (try (refine BI (by rfl) ?_; dsimp only)); refine Ap ?hg (N:=1) ?hd (cs:= #[.int .i64 A8,.slice A0_1 l0_1.length c0_1]) (t:=24) ?hr ?_; (case hd=>rfl); (case hg=>rfl); (case hr=>first|(go_simp; done)|(go_simp; rfl)); intro gb251 hg w3 hbox hb; have n0_:=yA (AO zB hb); have n1_:=yA (hbox); have n2_:=yA ((by rw [hg]; exact (AT zB):w.heap.size≤gb251)); have n3_:=yA ((by rw [hg]; exact (AT zB):w.heap.size≤gb251)); clear HB; have HB:=n0_; have BK251:=n1_; have GW251:=n2_; have GE251:=n3_; clear n0_ n1_ n2_ n3_; clear hb hbox hg)))
  (try simp only [Act.put,List.setIfInBounds_toArray,List.set_cons_zero,List.set_cons_succ])
  go_cut [20] (fun v20 wc=>∃(kq:Nat) (x20_1:Bool),v20= .bool x20_1∧Aside0 (AV.j0 kq x20_1 A8 l0_1=some r)∧Aside0 (kq≤k)∧Aside0 (wc.heap[gb251]? =some (.cells #[.int .i64 A8,(.slice A0_1 l0_1.length c0_1)] 24 (0,0)))∧Aside0 (Below w.heap.size w wc))
  case first=>
    have H:=HC2.out
    clear HC2
    by_cases c4:A8<1
    · rw [if_pos c4] at H
      have c4b0:decide (A8<1)=true:=decide_eq_true c4
      clear c4
      (first|rw [c4b0]|(simp only [AR,AS]; rw [c4b0])|skip)
      have H':=yA H
      clear H
      have hcz5_0:w3.cell? ⟨gb251,0,none⟩=some (.int .i64 A8):=(AK BK251.out 0).trans rfl
      have hcz5_1:w3.cell? ⟨gb251,1,none⟩=some (.slice A0_1 l0_1.length c0_1):=(AK BK251.out 1).trans rfl
      have hfz5_0:=AJ BK251.out 0
      have hfz5_1:=AJ BK251.out 1
      go_wp2
      repeat (go_quiet (fail); try go_wp2)
      go_meet
      case rel=>exact ⟨_,(true),zG,H',⟨by first|omega|exact Nat.le_refl _⟩,⟨by (with_reducible repeat (first|refine AG ?_ _|refine AH ?_|refine AF ?_ _)); exact BK251.out⟩,⟨by repeat (first|(with_reducible first|exact HB.out|apply AE|apply AC|apply AD|refine AI ?_ GE251.out)|exact HB.out)⟩⟩
    · rw [if_neg c4] at H
      have c4b0:decide (A8<1)=false:=decide_eq_false c4
      clear c4
      (first|rw [c4b0]|(simp only [AR,AS]; rw [c4b0])|skip)
      by_cases c6:A8>4
      · rw [if_pos c6] at H
        have c6b0:decide (4<A8)=true:=decide_eq_true c6
        clear c6
        have H':=yA H
        clear H
        have hcz7_0:w3.cell? ⟨gb251,0,none⟩=some (.int .i64 A8):=(AK BK251.out 0).trans rfl
        have hcz7_1:w3.cell? ⟨gb251,1,none⟩=some (.slice A0_1 l0_1.length c0_1):=(AK BK251.out 1).trans rfl
        have hfz7_0:=AJ BK251.out 0
        have hfz7_1:=AJ BK251.out 1
        go_wp2
        repeat (go_quiet (fail); try go_wp2)
        go_meet
        case rel=>exact ⟨_,(true),zG,H',⟨by first|omega|exact Nat.le_refl _⟩,⟨by (with_reducible repeat (first|refine AG ?_ _|refine AH ?_|refine AF ?_ _)); exact BK251.out⟩,⟨by repeat (first|(with_reducible first|exact HB.out|apply AE|apply AC|apply AD|refine AI ?_ GE251.out)|exact HB.out)⟩⟩
      · rw [if_neg c6] at H
        have c6b0:decide (4<A8)=false:=decide_eq_false c6
        clear c6
        have H':=yA H
        clear H
        have hcz8_0:w3.cell? ⟨gb251,0,none⟩=some (.int .i64 A8):=(AK BK251.out 0).trans rfl
        have hcz8_1:w3.cell? ⟨gb251,1,none⟩=some (.slice A0_1 l0_1.length c0_1):=(AK BK251.out 1).trans rfl
        have hfz8_0:=AJ BK251.out 0
        have hfz8_1:=AJ BK251.out 1
        go_wp2
        repeat (go_quiet (fail); try go_wp2)
        go_meet
        case rel=>exact ⟨_,(decide ((l0_1.length:Int)>40)),zG,H',⟨by first|omega|exact Nat.le_refl _⟩,⟨by (with_reducible repeat (first|refine AG ?_ _|refine AH ?_|refine AF ?_ _)); exact BK251.out⟩,⟨by repeat (first|(with_reducible first|exact HB.out|apply AE|apply AC|apply AD|refine AI ?_ GE251.out)|exact HB.out)⟩⟩
  case rest =>
    clear HC2
    try clear c1
    try clear p2
    try clear c4
    try clear c4b0
    try clear c6
    try clear c6b0
    try clear hcz5_0
    try clear hcz5_1
    try clear hcz7_0
    try clear hcz7_1
    try clear hcz8_0
    try clear hcz8_1
    try clear hfz5_0
    try clear hfz5_1
    try clear hfz7_0
    try clear hfz7_1
    try clear hfz8_0
    try clear hfz8_1
    obtain ⟨kq,x20_1,rfl,HA,HJ1,BK251,HB⟩:=hcut
    cases kq with
    |zero=>exact absurd HA.out (by simp [AV.j0])
    | succ kj1=>
      have H:=HA.out
      clear HA
      simp only [AV.j0] at H
      by_cases c9:x20_1=true
      · subst c9
        have H1:(some false)=some r:=by rw [if_pos rfl] at H; exact H
        clear H
        have H:=H1
        clear H1
        obtain rfl:=Option.some.inj H
        go_wp2
        repeat (go_quiet (fail); try go_wp2)
        go_ret
        exact ⟨by first|rfl|(simp [AZ,AY]<;>rfl)|(simp [*,AZ,AY]<;>rfl),by repeat (first|(with_reducible first|exact HB.out|apply AE|apply AC|apply AD|refine AI ?_ GE251.out)|exact HB.out)⟩
      · replace c9 := Bool.eq_false_iff.mpr c9
        subst c9
        have H1:(AV.l0 kj1 0 A8 l0_1)=some r:=by rw [if_neg (show ¬(false=true) by decide)] at H; exact H
        clear H
        have H:=H1
        clear H1
        have H':=yA H
        clear H
        go_wp2
        repeat (go_quiet (fail); try go_wp2)
        go_loopg [3] kj1 (fun kq v3 w'=>∃(x3_2:Int),v3= .int .i64 x3_2∧Aside0 (AV.l0 kq x3_2 A8 l0_1=some r)∧Aside0 (kq≤kj1)∧Aside0 (w'.heap[gb251]? =some (.cells #[.int .i64 A8,(.slice A0_1 l0_1.length c0_1)] 24 (0,0)))∧Aside0 (Below w.heap.size w w'))
        case atStart=>exact ⟨(0),zG,H',⟨Nat.le_refl _⟩,⟨by (with_reducible repeat (first|refine AG ?_ _|refine AH ?_|refine AF ?_ _)); exact BK251.out⟩,⟨by repeat (first|(with_reducible first|exact HB.out|apply AE|apply AC|apply AD|refine AI ?_ GE251.out)|exact HB.out)⟩⟩
        case round=>
          clear H'
          try clear c1
          try clear p2
          try clear c4
          try clear c4b0
          try clear c6
          try clear c6b0
          try clear c9
          try clear hcz5_0
          try clear hcz5_1
          try clear hcz7_0
          try clear hcz7_1
          try clear hcz8_0
          try clear hcz8_1
          try clear hfz5_0
          try clear hfz5_1
          try clear hfz7_0
          try clear hfz7_1
          try clear hfz8_0
          try clear hfz8_1
          try clear p2
          obtain ⟨x3_2,rfl,HA,HK2,BK251,HB⟩:=hrel
          cases gk with
          |zero=>exact absurd HA.out (by simp [AV.l0])
          | succ k2 =>
            have H:=HA.out
            clear HA
            simp only [AV.l0] at H
            by_cases c10:x3_2<(l0_1.length:Int)
            · rw [if_pos c10] at H
              have c10b0:decide (x3_2<(l0_1.length:Int))=true:=decide_eq_true c10
              clear c10
              by_cases c11:0≤x3_2
              · rw [if_pos c11] at H
                have c11b0:decide (0≤x3_2)=true:=decide_eq_true c11
                clear c11
                have HC12:=yA H
                clear H
                have hcz13_0:wr.cell? ⟨gb251,0,none⟩=some (.int .i64 A8):=(AK BK251.out 0).trans rfl
                have hcz13_1:wr.cell? ⟨gb251,1,none⟩=some (.slice A0_1 l0_1.length c0_1):=(AK BK251.out 1).trans rfl
                have hfz13_0:=AJ BK251.out 0
                have hfz13_1:=AJ BK251.out 1
                have p252:0≤(x3_2:Int):=yD
                have q252:x3_2<(l0_1.length:Int):=yD
                obtain ⟨ad252,A252_3,c252_3,e252,hx252_0,hx252_1,hx252_2,hx252_3,hl252_3,hi252_3⟩:=Bb HR0_1.out x3_2 p252 q252
                cases e252
                replace hx252_0:=yC HB.out hx252_0
                replace hx252_1:=yC HB.out hx252_1
                replace hx252_2:=yC HB.out hx252_2
                replace hx252_3:=yC HB.out hx252_3
                have HR252_3:=yA hi252_3
                have HC252_3:=yA hl252_3
                clear hi252_3 hl252_3
                replace p252:=eq_true p252
                replace q252:=eq_true q252
                go_upto_region 7 with (first|((with_reducible refine Ar (N:=4) rfl ?_); (try (refine BI (by rfl) ?_; dsimp only)); refine Ap ?hg (N:=4) ?hd (cs:= #[.string (⟨#[]⟩:ByteArray),.int .i64 0,.int .i64 0,.slice none 0 0]) (t:=57) ?hr ?_; (case hd=>rfl); (case hg=>rfl); (case hr=>first|(go_simp; done)|(go_simp; rfl)); intro gb253 hg w14 hbox hb; have n0_:=yA (AP (g:=gb251) (o:= .cells #[.int .i64 A8,.slice (some ad252) l0_1.length c0_1] 24 (0,0)) zB4 hb); have n1_:=yA (AO zB1 hb); have n2_:=yA (hbox); have n3_:=yA ((by rw [hg]; exact (AT zB1):w.heap.size≤gb253)); have n4_:=yA ((by rw [hg]; exact (AT zB1):w.heap.size≤gb253)); have n5_:=yA ((by rw [hg]; exact Nat.ne_of_lt (B0 (g:=gb251) (o:= .cells #[.int .i64 A8,.slice (some ad252) l0_1.length c0_1] 24 (0,0)) zB4):gb251≠gb253)); have n6_:=yA ((by rw [hg]; exact Nat.ne_of_gt (B0 (g:=gb251) (o:= .cells #[.int .i64 A8,.slice (some ad252) l0_1.length c0_1] 24 (0,0)) zB4):gb253≠gb251)); clear BK251; clear HB; have BK251:=n0_; have HB:=n1_; have BK253:=n2_; have GW253:=n3_; have GE253:=n4_; have NB251_253:=n5_; have NB253_251:=n6_; clear n0_ n1_ n2_ n3_ n4_ n5_ n6_; clear hb hbox hg; have hnb15:=NB253_251.out; have hnc15:=NB251_253.out; have hcz16_0:w14.cell? ⟨gb253,0,none⟩=some (.string (⟨#[]⟩:ByteArray)):=(AK BK253.out 0).trans rfl; have hcz16_1:w14.cell? ⟨gb253,1,none⟩=some (.int .i64 0):=(AK BK253.out 1).trans rfl; have hcz16_2:w14.cell? ⟨gb253,2,none⟩=some (.int .i64 0):=(AK BK253.out 2).trans rfl; have hcz16_3:w14.cell? ⟨gb253,3,none⟩=some (.slice none 0 0):=(AK BK253.out 3).trans rfl; have hfz16_0:=AJ BK253.out 0; have hfz16_1:=AJ BK253.out 1; have hfz16_2:=AJ BK253.out 2; have hfz16_3:=AJ BK253.out 3))
                repeat (go_quiet (first|((with_reducible refine Ar (N:=4) rfl ?_); (try (refine BI (by rfl) ?_; dsimp only)); refine Ap ?hg (N:=4) ?hd (cs:= #[.string (⟨#[]⟩:ByteArray),.int .i64 0,.int .i64 0,.slice none 0 0]) (t:=57) ?hr ?_; (case hd=>rfl); (case hg=>rfl); (case hr=>first|(go_simp; done)|(go_simp; rfl)); intro gb253 hg w14 hbox hb; have n0_:=yA (AP (g:=gb251) (o:= .cells #[.int .i64 A8,.slice (some ad252) l0_1.length c0_1] 24 (0,0)) zB4 hb); have n1_:=yA (AO zB1 hb); have n2_:=yA (hbox); have n3_:=yA ((by rw [hg]; exact (AT zB1):w.heap.size≤gb253)); have n4_:=yA ((by rw [hg]; exact (AT zB1):w.heap.size≤gb253)); have n5_:=yA ((by rw [hg]; exact Nat.ne_of_lt (B0 (g:=gb251) (o:= .cells #[.int .i64 A8,.slice (some ad252) l0_1.length c0_1] 24 (0,0)) zB4):gb251≠gb253)); have n6_:=yA ((by rw [hg]; exact Nat.ne_of_gt (B0 (g:=gb251) (o:= .cells #[.int .i64 A8,.slice (some ad252) l0_1.length c0_1] 24 (0,0)) zB4):gb253≠gb251)); clear BK251; clear HB; have BK251:=n0_; have HB:=n1_; have BK253:=n2_; have GW253:=n3_; have GE253:=n4_; have NB251_253:=n5_; have NB253_251:=n6_; clear n0_ n1_ n2_ n3_ n4_ n5_ n6_; clear hb hbox hg; have hnb15:=NB253_251.out; have hnc15:=NB251_253.out; have hcz16_0:w14.cell? ⟨gb253,0,none⟩=some (.string (⟨#[]⟩:ByteArray)):=(AK BK253.out 0).trans rfl; have hcz16_1:w14.cell? ⟨gb253,1,none⟩=some (.int .i64 0):=(AK BK253.out 1).trans rfl; have hcz16_2:w14.cell? ⟨gb253,2,none⟩=some (.int .i64 0):=(AK BK253.out 2).trans rfl; have hcz16_3:w14.cell? ⟨gb253,3,none⟩=some (.slice none 0 0):=(AK BK253.out 3).trans rfl; have hfz16_0:=AJ BK253.out 0; have hfz16_1:=AJ BK253.out 1; have hfz16_2:=AJ BK253.out 2; have hfz16_3:=AJ BK253.out 3)); go_upto_region 7 with (first|((with_reducible refine Ar (N:=4) rfl ?_); (try (refine BI (by rfl) ?_; dsimp only)); refine Ap ?hg (N:=4) ?hd (cs:= #[.string (⟨#[]⟩:ByteArray),.int .i64 0,.int .i64 0,.slice none 0 0]) (t:=57) ?hr ?_; (case hd=>rfl); (case hg=>rfl); (case hr=>first|(go_simp; done)|(go_simp; rfl)); intro gb253 hg w14 hbox hb; have n0_:=yA (AP (g:=gb251) (o:= .cells #[.int .i64 A8,.slice (some ad252) l0_1.length c0_1] 24 (0,0)) zB4 hb); have n1_:=yA (AO zB1 hb); have n2_:=yA (hbox); have n3_:=yA ((by rw [hg]; exact (AT zB1):w.heap.size≤gb253)); have n4_:=yA ((by rw [hg]; exact (AT zB1):w.heap.size≤gb253)); have n5_:=yA ((by rw [hg]; exact Nat.ne_of_lt (B0 (g:=gb251) (o:= .cells #[.int .i64 A8,.slice (some ad252) l0_1.length c0_1] 24 (0,0)) zB4):gb251≠gb253)); have n6_:=yA ((by rw [hg]; exact Nat.ne_of_gt (B0 (g:=gb251) (o:= .cells #[.int .i64 A8,.slice (some ad252) l0_1.length c0_1] 24 (0,0)) zB4):gb253≠gb251)); clear BK251; clear HB; have BK251:=n0_; have HB:=n1_; have BK253:=n2_; have GW253:=n3_; have GE253:=n4_; have NB251_253:=n5_; have NB253_251:=n6_; clear n0_ n1_ n2_ n3_ n4_ n5_ n6_; clear hb hbox hg; have hnb15:=NB253_251.out; have hnc15:=NB251_253.out; have hcz16_0:w14.cell? ⟨gb253,0,none⟩=some (.string (⟨#[]⟩:ByteArray)):=(AK BK253.out 0).trans rfl; have hcz16_1:w14.cell? ⟨gb253,1,none⟩=some (.int .i64 0):=(AK BK253.out 1).trans rfl; have hcz16_2:w14.cell? ⟨gb253,2,none⟩=some (.int .i64 0):=(AK BK253.out 2).trans rfl; have hcz16_3:w14.cell? ⟨gb253,3,none⟩=some (.slice none 0 0):=(AK BK253.out 3).trans rfl; have hfz16_0:=AJ BK253.out 0; have hfz16_1:=AJ BK253.out 1; have hfz16_2:=AJ BK253.out 2; have hfz16_3:=AJ BK253.out 3)))
                (try simp only [Act.put,List.setIfInBounds_toArray,List.set_cons_zero,List.set_cons_succ])
                go_cut [56] (fun v56 wc=>∃(kq:Nat) (x56_11:Bool),v56= .bool x56_11∧Aside0 (AV.j2 kq x3_2 x56_11 A8 l0_1 ((AL l0_1 x3_2).f0) ((AL l0_1 x3_2).f1) ((AL l0_1 x3_2).f2) ((AL l0_1 x3_2).f3)=some r)∧Aside0 (kq≤k2)∧Aside0 (wc.heap[gb251]? =some (.cells #[.int .i64 A8,(.slice (some ad252) l0_1.length c0_1)] 24 (0,0)))∧Aside0 (wc.heap[gb253]? =some (.cells #[.string ((AL l0_1 x3_2).f0),.int .i64 ((AL l0_1 x3_2).f1),.int .i64 ((AL l0_1 x3_2).f2),(.slice A252_3 ((AL l0_1 x3_2).f3).length c252_3)] 57 (0,0)))∧Aside0 (Below w.heap.size w wc))
                case first=>
                  have H:=HC12.out
                  clear HC12
                  replace H:=Option.bind_eq_some_iff.mp H
                  obtain ⟨t254,A170,H⟩:=H
                  replace H:(if t254=true then (if ((AL l0_1 x3_2).f1)<1 then (AV.j2 k2 x3_2 true A8 l0_1 ((AL l0_1 x3_2).f0) ((AL l0_1 x3_2).f1) ((AL l0_1 x3_2).f2) ((AL l0_1 x3_2).f3)) else (if ((AL l0_1 x3_2).f1)>10000 then (AV.j2 k2 x3_2 true A8 l0_1 ((AL l0_1 x3_2).f0) ((AL l0_1 x3_2).f1) ((AL l0_1 x3_2).f2) ((AL l0_1 x3_2).f3)) else (if ((AL l0_1 x3_2).f2)<0 then (AV.j2 k2 x3_2 true A8 l0_1 ((AL l0_1 x3_2).f0) ((AL l0_1 x3_2).f1) ((AL l0_1 x3_2).f2) ((AL l0_1 x3_2).f3)) else (AV.j2 k2 x3_2 (decide (((AL l0_1 x3_2).f2)>1000000)) A8 l0_1 ((AL l0_1 x3_2).f0) ((AL l0_1 x3_2).f1) ((AL l0_1 x3_2).f2) ((AL l0_1 x3_2).f3))))) else (AV.j2 k2 x3_2 true A8 l0_1 ((AL l0_1 x3_2).f0) ((AL l0_1 x3_2).f1) ((AL l0_1 x3_2).f2) ((AL l0_1 x3_2).f3)))=some r:=H
                  have A17:=yA A170
                  clear A170
                  by_cases c18:t254=true
                  · subst c18
                    have H1:(if ((AL l0_1 x3_2).f1)<1 then (AV.j2 k2 x3_2 true A8 l0_1 ((AL l0_1 x3_2).f0) ((AL l0_1 x3_2).f1) ((AL l0_1 x3_2).f2) ((AL l0_1 x3_2).f3)) else (if ((AL l0_1 x3_2).f1)>10000 then (AV.j2 k2 x3_2 true A8 l0_1 ((AL l0_1 x3_2).f0) ((AL l0_1 x3_2).f1) ((AL l0_1 x3_2).f2) ((AL l0_1 x3_2).f3)) else (if ((AL l0_1 x3_2).f2)<0 then (AV.j2 k2 x3_2 true A8 l0_1 ((AL l0_1 x3_2).f0) ((AL l0_1 x3_2).f1) ((AL l0_1 x3_2).f2) ((AL l0_1 x3_2).f3)) else (AV.j2 k2 x3_2 (decide (((AL l0_1 x3_2).f2)>1000000)) A8 l0_1 ((AL l0_1 x3_2).f0) ((AL l0_1 x3_2).f1) ((AL l0_1 x3_2).f2) ((AL l0_1 x3_2).f3)))))=some r:=by rw [if_pos rfl] at H; exact H
                    clear H
                    have H:=H1
                    clear H1
                    by_cases c19:((AL l0_1 x3_2).f1)<1
                    · rw [if_pos c19] at H
                      have c19b0:decide (((AL l0_1 x3_2).f1)<1)=true:=decide_eq_true c19
                      clear c19
                      (first|rw [c19b0]|(simp only [AR,AS]; rw [c19b0])|skip)
                      have H':=yA H
                      clear H
                      have hnb20:=NB253_251.out
                      have hnc20:=NB251_253.out
                      have hcz21_0:w14.cell? ⟨gb253,0,none⟩=some (.string (⟨#[]⟩:ByteArray)):=(AK BK253.out 0).trans rfl
                      have hcz21_1:w14.cell? ⟨gb253,1,none⟩=some (.int .i64 0):=(AK BK253.out 1).trans rfl
                      have hcz21_2:w14.cell? ⟨gb253,2,none⟩=some (.int .i64 0):=(AK BK253.out 2).trans rfl
                      have hcz21_3:w14.cell? ⟨gb253,3,none⟩=some (.slice none 0 0):=(AK BK253.out 3).trans rfl
                      have hfz21_0:=AJ BK253.out 0
                      have hfz21_1:=AJ BK253.out 1
                      have hfz21_2:=AJ BK253.out 2
                      have hfz21_3:=AJ BK253.out 3
                      go_wp2_with (first|(go_at_call 32; (with_reducible refine (B8.calls k2 ((AL l0_1 x3_2).f0) true _ A17.out).mono ?_); rintro e w22 ⟨rfl,hb⟩; have n0_:=yA (AP (g:=gb251) (o:= .cells #[.int .i64 A8,.slice (some ad252) l0_1.length c0_1] 24 (0,0)) zF hb); have n1_:=yA (AP (g:=gb253) (o:= .cells #[.string ((AL l0_1 x3_2).f0),.int .i64 ((AL l0_1 x3_2).f1),.int .i64 ((AL l0_1 x3_2).f2),.slice A252_3 ((AL l0_1 x3_2).f3).length c252_3] 57 (0,0)) zC hb); have n2_:=yA (AO zO hb); clear BK251; clear BK253; clear HB; have BK251:=n0_; have BK253:=n1_; have HB:=n2_; clear n0_ n1_ n2_; (try clear hb); (try clear hb2); (try clear hk); (try clear hi); have hcz23_0:w22.cell? ⟨gb253,0,none⟩=some (.string ((AL l0_1 x3_2).f0)):=(AK BK253.out 0).trans rfl; have hcz23_1:w22.cell? ⟨gb253,1,none⟩=some (.int .i64 ((AL l0_1 x3_2).f1)):=(AK BK253.out 1).trans rfl; have hcz23_2:w22.cell? ⟨gb253,2,none⟩=some (.int .i64 ((AL l0_1 x3_2).f2)):=(AK BK253.out 2).trans rfl; have hcz23_3:w22.cell? ⟨gb253,3,none⟩=some (.slice A252_3 ((AL l0_1 x3_2).f3).length c252_3):=(AK BK253.out 3).trans rfl; have hfz23_0:=AJ BK253.out 0; have hfz23_1:=AJ BK253.out 1; have hfz23_2:=AJ BK253.out 2; have hfz23_3:=AJ BK253.out 3))
                      repeat (go_quiet (first|(go_at_call 32; (with_reducible refine (B8.calls k2 ((AL l0_1 x3_2).f0) true _ A17.out).mono ?_); rintro e w22 ⟨rfl,hb⟩; have n0_:=yA (AP (g:=gb251) (o:= .cells #[.int .i64 A8,.slice (some ad252) l0_1.length c0_1] 24 (0,0)) zF hb); have n1_:=yA (AP (g:=gb253) (o:= .cells #[.string ((AL l0_1 x3_2).f0),.int .i64 ((AL l0_1 x3_2).f1),.int .i64 ((AL l0_1 x3_2).f2),.slice A252_3 ((AL l0_1 x3_2).f3).length c252_3] 57 (0,0)) zC hb); have n2_:=yA (AO zO hb); clear BK251; clear BK253; clear HB; have BK251:=n0_; have BK253:=n1_; have HB:=n2_; clear n0_ n1_ n2_; (try clear hb); (try clear hb2); (try clear hk); (try clear hi); have hcz23_0:w22.cell? ⟨gb253,0,none⟩=some (.string ((AL l0_1 x3_2).f0)):=(AK BK253.out 0).trans rfl; have hcz23_1:w22.cell? ⟨gb253,1,none⟩=some (.int .i64 ((AL l0_1 x3_2).f1)):=(AK BK253.out 1).trans rfl; have hcz23_2:w22.cell? ⟨gb253,2,none⟩=some (.int .i64 ((AL l0_1 x3_2).f2)):=(AK BK253.out 2).trans rfl; have hcz23_3:w22.cell? ⟨gb253,3,none⟩=some (.slice A252_3 ((AL l0_1 x3_2).f3).length c252_3):=(AK BK253.out 3).trans rfl; have hfz23_0:=AJ BK253.out 0; have hfz23_1:=AJ BK253.out 1; have hfz23_2:=AJ BK253.out 2; have hfz23_3:=AJ BK253.out 3; clear A17)); try go_wp2_with (first|(go_at_call 32; (with_reducible refine (B8.calls k2 ((AL l0_1 x3_2).f0) true _ A17.out).mono ?_); rintro e w22 ⟨rfl,hb⟩; have n0_:=yA (AP (g:=gb251) (o:= .cells #[.int .i64 A8,.slice (some ad252) l0_1.length c0_1] 24 (0,0)) zF hb); have n1_:=yA (AP (g:=gb253) (o:= .cells #[.string ((AL l0_1 x3_2).f0),.int .i64 ((AL l0_1 x3_2).f1),.int .i64 ((AL l0_1 x3_2).f2),.slice A252_3 ((AL l0_1 x3_2).f3).length c252_3] 57 (0,0)) zC hb); have n2_:=yA (AO zO hb); clear BK251; clear BK253; clear HB; have BK251:=n0_; have BK253:=n1_; have HB:=n2_; clear n0_ n1_ n2_; (try clear hb); (try clear hb2); (try clear hk); (try clear hi); have hcz23_0:w22.cell? ⟨gb253,0,none⟩=some (.string ((AL l0_1 x3_2).f0)):=(AK BK253.out 0).trans rfl; have hcz23_1:w22.cell? ⟨gb253,1,none⟩=some (.int .i64 ((AL l0_1 x3_2).f1)):=(AK BK253.out 1).trans rfl; have hcz23_2:w22.cell? ⟨gb253,2,none⟩=some (.int .i64 ((AL l0_1 x3_2).f2)):=(AK BK253.out 2).trans rfl; have hcz23_3:w22.cell? ⟨gb253,3,none⟩=some (.slice A252_3 ((AL l0_1 x3_2).f3).length c252_3):=(AK BK253.out 3).trans rfl; have hfz23_0:=AJ BK253.out 0; have hfz23_1:=AJ BK253.out 1; have hfz23_2:=AJ BK253.out 2; have hfz23_3:=AJ BK253.out 3; clear A17)))
                      go_meet
                      case rel=>exact ⟨_,(true),zG,H',⟨by have:=HJ1.out; have:=HK2.out; first|omega|exact Nat.le_refl _⟩,⟨by (with_reducible repeat (first|refine AG ?_ _|refine AH ?_|refine AF ?_ _)); exact BK251.out⟩,⟨by (with_reducible repeat (first|refine AG ?_ _|refine AH ?_|refine AF ?_ _)); exact BK253.out⟩,⟨by repeat (first|(with_reducible first|exact HB.out|apply AE|apply AC|apply AD|refine AI ?_ GE251.out|refine AI ?_ GE253.out)|exact HB.out)⟩⟩
                    · rw [if_neg c19] at H
                      have c19b0:decide (((AL l0_1 x3_2).f1)<1)=false:=decide_eq_false c19
                      clear c19
                      (first|rw [c19b0]|(simp only [AR,AS]; rw [c19b0])|skip)
                      by_cases c24:((AL l0_1 x3_2).f1)>10000
                      · rw [if_pos c24] at H
                        have c24b0:decide (10000<((AL l0_1 x3_2).f1))=true:=decide_eq_true c24
                        clear c24
                        have H':=yA H
                        clear H
                        have hnb25:=NB253_251.out
                        have hnc25:=NB251_253.out
                        have hcz26_0:w14.cell? ⟨gb253,0,none⟩=some (.string (⟨#[]⟩:ByteArray)):=(AK BK253.out 0).trans rfl
                        have hcz26_1:w14.cell? ⟨gb253,1,none⟩=some (.int .i64 0):=(AK BK253.out 1).trans rfl
                        have hcz26_2:w14.cell? ⟨gb253,2,none⟩=some (.int .i64 0):=(AK BK253.out 2).trans rfl
                        have hcz26_3:w14.cell? ⟨gb253,3,none⟩=some (.slice none 0 0):=(AK BK253.out 3).trans rfl
                        have hfz26_0:=AJ BK253.out 0
                        have hfz26_1:=AJ BK253.out 1
                        have hfz26_2:=AJ BK253.out 2
                        have hfz26_3:=AJ BK253.out 3
                        go_wp2_with (first|(go_at_call 32; (with_reducible refine (B8.calls k2 ((AL l0_1 x3_2).f0) true _ A17.out).mono ?_); rintro e w27 ⟨rfl,hb⟩; have n0_:=yA (AP (g:=gb251) (o:= .cells #[.int .i64 A8,.slice (some ad252) l0_1.length c0_1] 24 (0,0)) zF hb); have n1_:=yA (AP (g:=gb253) (o:= .cells #[.string ((AL l0_1 x3_2).f0),.int .i64 ((AL l0_1 x3_2).f1),.int .i64 ((AL l0_1 x3_2).f2),.slice A252_3 ((AL l0_1 x3_2).f3).length c252_3] 57 (0,0)) zC hb); have n2_:=yA (AO zO hb); clear BK251; clear BK253; clear HB; have BK251:=n0_; have BK253:=n1_; have HB:=n2_; clear n0_ n1_ n2_; (try clear hb); (try clear hb2); (try clear hk); (try clear hi); have hcz28_0:w27.cell? ⟨gb253,0,none⟩=some (.string ((AL l0_1 x3_2).f0)):=(AK BK253.out 0).trans rfl; have hcz28_1:w27.cell? ⟨gb253,1,none⟩=some (.int .i64 ((AL l0_1 x3_2).f1)):=(AK BK253.out 1).trans rfl; have hcz28_2:w27.cell? ⟨gb253,2,none⟩=some (.int .i64 ((AL l0_1 x3_2).f2)):=(AK BK253.out 2).trans rfl; have hcz28_3:w27.cell? ⟨gb253,3,none⟩=some (.slice A252_3 ((AL l0_1 x3_2).f3).length c252_3):=(AK BK253.out 3).trans rfl; have hfz28_0:=AJ BK253.out 0; have hfz28_1:=AJ BK253.out 1; have hfz28_2:=AJ BK253.out 2; have hfz28_3:=AJ BK253.out 3))
                        repeat (go_quiet (first|(go_at_call 32; (with_reducible refine (B8.calls k2 ((AL l0_1 x3_2).f0) true _ A17.out).mono ?_); rintro e w27 ⟨rfl,hb⟩; have n0_:=yA (AP (g:=gb251) (o:= .cells #[.int .i64 A8,.slice (some ad252) l0_1.length c0_1] 24 (0,0)) zF hb); have n1_:=yA (AP (g:=gb253) (o:= .cells #[.string ((AL l0_1 x3_2).f0),.int .i64 ((AL l0_1 x3_2).f1),.int .i64 ((AL l0_1 x3_2).f2),.slice A252_3 ((AL l0_1 x3_2).f3).length c252_3] 57 (0,0)) zC hb); have n2_:=yA (AO zO hb); clear BK251; clear BK253; clear HB; have BK251:=n0_; have BK253:=n1_; have HB:=n2_; clear n0_ n1_ n2_; (try clear hb); (try clear hb2); (try clear hk); (try clear hi); have hcz28_0:w27.cell? ⟨gb253,0,none⟩=some (.string ((AL l0_1 x3_2).f0)):=(AK BK253.out 0).trans rfl; have hcz28_1:w27.cell? ⟨gb253,1,none⟩=some (.int .i64 ((AL l0_1 x3_2).f1)):=(AK BK253.out 1).trans rfl; have hcz28_2:w27.cell? ⟨gb253,2,none⟩=some (.int .i64 ((AL l0_1 x3_2).f2)):=(AK BK253.out 2).trans rfl; have hcz28_3:w27.cell? ⟨gb253,3,none⟩=some (.slice A252_3 ((AL l0_1 x3_2).f3).length c252_3):=(AK BK253.out 3).trans rfl; have hfz28_0:=AJ BK253.out 0; have hfz28_1:=AJ BK253.out 1; have hfz28_2:=AJ BK253.out 2; have hfz28_3:=AJ BK253.out 3; clear A17)); try go_wp2_with (first|(go_at_call 32; (with_reducible refine (B8.calls k2 ((AL l0_1 x3_2).f0) true _ A17.out).mono ?_); rintro e w27 ⟨rfl,hb⟩; have n0_:=yA (AP (g:=gb251) (o:= .cells #[.int .i64 A8,.slice (some ad252) l0_1.length c0_1] 24 (0,0)) zF hb); have n1_:=yA (AP (g:=gb253) (o:= .cells #[.string ((AL l0_1 x3_2).f0),.int .i64 ((AL l0_1 x3_2).f1),.int .i64 ((AL l0_1 x3_2).f2),.slice A252_3 ((AL l0_1 x3_2).f3).length c252_3] 57 (0,0)) zC hb); have n2_:=yA (AO zO hb); clear BK251; clear BK253; clear HB; have BK251:=n0_; have BK253:=n1_; have HB:=n2_; clear n0_ n1_ n2_; (try clear hb); (try clear hb2); (try clear hk); (try clear hi); have hcz28_0:w27.cell? ⟨gb253,0,none⟩=some (.string ((AL l0_1 x3_2).f0)):=(AK BK253.out 0).trans rfl; have hcz28_1:w27.cell? ⟨gb253,1,none⟩=some (.int .i64 ((AL l0_1 x3_2).f1)):=(AK BK253.out 1).trans rfl; have hcz28_2:w27.cell? ⟨gb253,2,none⟩=some (.int .i64 ((AL l0_1 x3_2).f2)):=(AK BK253.out 2).trans rfl; have hcz28_3:w27.cell? ⟨gb253,3,none⟩=some (.slice A252_3 ((AL l0_1 x3_2).f3).length c252_3):=(AK BK253.out 3).trans rfl; have hfz28_0:=AJ BK253.out 0; have hfz28_1:=AJ BK253.out 1; have hfz28_2:=AJ BK253.out 2; have hfz28_3:=AJ BK253.out 3; clear A17)))
                        go_meet
                        case rel=>exact ⟨_,(true),zG,H',⟨by have:=HJ1.out; have:=HK2.out; first|omega|exact Nat.le_refl _⟩,⟨by (with_reducible repeat (first|refine AG ?_ _|refine AH ?_|refine AF ?_ _)); exact BK251.out⟩,⟨by (with_reducible repeat (first|refine AG ?_ _|refine AH ?_|refine AF ?_ _)); exact BK253.out⟩,⟨by repeat (first|(with_reducible first|exact HB.out|apply AE|apply AC|apply AD|refine AI ?_ GE251.out|refine AI ?_ GE253.out)|exact HB.out)⟩⟩
                      · rw [if_neg c24] at H
                        have c24b0:decide (10000<((AL l0_1 x3_2).f1))=false:=decide_eq_false c24
                        clear c24
                        by_cases c29:((AL l0_1 x3_2).f2)<0
                        · rw [if_pos c29] at H
                          have c29b0:decide (((AL l0_1 x3_2).f2)<0)=true:=decide_eq_true c29
                          clear c29
                          have H':=yA H
                          clear H
                          have hnb30:=NB253_251.out
                          have hnc30:=NB251_253.out
                          have hcz31_0:w14.cell? ⟨gb253,0,none⟩=some (.string (⟨#[]⟩:ByteArray)):=(AK BK253.out 0).trans rfl
                          have hcz31_1:w14.cell? ⟨gb253,1,none⟩=some (.int .i64 0):=(AK BK253.out 1).trans rfl
                          have hcz31_2:w14.cell? ⟨gb253,2,none⟩=some (.int .i64 0):=(AK BK253.out 2).trans rfl
                          have hcz31_3:w14.cell? ⟨gb253,3,none⟩=some (.slice none 0 0):=(AK BK253.out 3).trans rfl
                          have hfz31_0:=AJ BK253.out 0
                          have hfz31_1:=AJ BK253.out 1
                          have hfz31_2:=AJ BK253.out 2
                          have hfz31_3:=AJ BK253.out 3
                          go_wp2_with (first|(go_at_call 32; (with_reducible refine (B8.calls k2 ((AL l0_1 x3_2).f0) true _ A17.out).mono ?_); rintro e w32 ⟨rfl,hb⟩; have n0_:=yA (AP (g:=gb251) (o:= .cells #[.int .i64 A8,.slice (some ad252) l0_1.length c0_1] 24 (0,0)) zF hb); have n1_:=yA (AP (g:=gb253) (o:= .cells #[.string ((AL l0_1 x3_2).f0),.int .i64 ((AL l0_1 x3_2).f1),.int .i64 ((AL l0_1 x3_2).f2),.slice A252_3 ((AL l0_1 x3_2).f3).length c252_3] 57 (0,0)) zC hb); have n2_:=yA (AO zO hb); clear BK251; clear BK253; clear HB; have BK251:=n0_; have BK253:=n1_; have HB:=n2_; clear n0_ n1_ n2_; (try clear hb); (try clear hb2); (try clear hk); (try clear hi); have hcz33_0:w32.cell? ⟨gb253,0,none⟩=some (.string ((AL l0_1 x3_2).f0)):=(AK BK253.out 0).trans rfl; have hcz33_1:w32.cell? ⟨gb253,1,none⟩=some (.int .i64 ((AL l0_1 x3_2).f1)):=(AK BK253.out 1).trans rfl; have hcz33_2:w32.cell? ⟨gb253,2,none⟩=some (.int .i64 ((AL l0_1 x3_2).f2)):=(AK BK253.out 2).trans rfl; have hcz33_3:w32.cell? ⟨gb253,3,none⟩=some (.slice A252_3 ((AL l0_1 x3_2).f3).length c252_3):=(AK BK253.out 3).trans rfl; have hfz33_0:=AJ BK253.out 0; have hfz33_1:=AJ BK253.out 1; have hfz33_2:=AJ BK253.out 2; have hfz33_3:=AJ BK253.out 3))
                          repeat (go_quiet (first|(go_at_call 32; (with_reducible refine (B8.calls k2 ((AL l0_1 x3_2).f0) true _ A17.out).mono ?_); rintro e w32 ⟨rfl,hb⟩; have n0_:=yA (AP (g:=gb251) (o:= .cells #[.int .i64 A8,.slice (some ad252) l0_1.length c0_1] 24 (0,0)) zF hb); have n1_:=yA (AP (g:=gb253) (o:= .cells #[.string ((AL l0_1 x3_2).f0),.int .i64 ((AL l0_1 x3_2).f1),.int .i64 ((AL l0_1 x3_2).f2),.slice A252_3 ((AL l0_1 x3_2).f3).length c252_3] 57 (0,0)) zC hb); have n2_:=yA (AO zO hb); clear BK251; clear BK253; clear HB; have BK251:=n0_; have BK253:=n1_; have HB:=n2_; clear n0_ n1_ n2_; (try clear hb); (try clear hb2); (try clear hk); (try clear hi); have hcz33_0:w32.cell? ⟨gb253,0,none⟩=some (.string ((AL l0_1 x3_2).f0)):=(AK BK253.out 0).trans rfl; have hcz33_1:w32.cell? ⟨gb253,1,none⟩=some (.int .i64 ((AL l0_1 x3_2).f1)):=(AK BK253.out 1).trans rfl; have hcz33_2:w32.cell? ⟨gb253,2,none⟩=some (.int .i64 ((AL l0_1 x3_2).f2)):=(AK BK253.out 2).trans rfl; have hcz33_3:w32.cell? ⟨gb253,3,none⟩=some (.slice A252_3 ((AL l0_1 x3_2).f3).length c252_3):=(AK BK253.out 3).trans rfl; have hfz33_0:=AJ BK253.out 0; have hfz33_1:=AJ BK253.out 1; have hfz33_2:=AJ BK253.out 2; have hfz33_3:=AJ BK253.out 3; clear A17)); try go_wp2_with (first|(go_at_call 32; (with_reducible refine (B8.calls k2 ((AL l0_1 x3_2).f0) true _ A17.out).mono ?_); rintro e w32 ⟨rfl,hb⟩; have n0_:=yA (AP (g:=gb251) (o:= .cells #[.int .i64 A8,.slice (some ad252) l0_1.length c0_1] 24 (0,0)) zF hb); have n1_:=yA (AP (g:=gb253) (o:= .cells #[.string ((AL l0_1 x3_2).f0),.int .i64 ((AL l0_1 x3_2).f1),.int .i64 ((AL l0_1 x3_2).f2),.slice A252_3 ((AL l0_1 x3_2).f3).length c252_3] 57 (0,0)) zC hb); have n2_:=yA (AO zO hb); clear BK251; clear BK253; clear HB; have BK251:=n0_; have BK253:=n1_; have HB:=n2_; clear n0_ n1_ n2_; (try clear hb); (try clear hb2); (try clear hk); (try clear hi); have hcz33_0:w32.cell? ⟨gb253,0,none⟩=some (.string ((AL l0_1 x3_2).f0)):=(AK BK253.out 0).trans rfl; have hcz33_1:w32.cell? ⟨gb253,1,none⟩=some (.int .i64 ((AL l0_1 x3_2).f1)):=(AK BK253.out 1).trans rfl; have hcz33_2:w32.cell? ⟨gb253,2,none⟩=some (.int .i64 ((AL l0_1 x3_2).f2)):=(AK BK253.out 2).trans rfl; have hcz33_3:w32.cell? ⟨gb253,3,none⟩=some (.slice A252_3 ((AL l0_1 x3_2).f3).length c252_3):=(AK BK253.out 3).trans rfl; have hfz33_0:=AJ BK253.out 0; have hfz33_1:=AJ BK253.out 1; have hfz33_2:=AJ BK253.out 2; have hfz33_3:=AJ BK253.out 3; clear A17)))
                          go_meet
                          case rel=>exact ⟨_,(true),zG,H',⟨by have:=HJ1.out; have:=HK2.out; first|omega|exact Nat.le_refl _⟩,⟨by (with_reducible repeat (first|refine AG ?_ _|refine AH ?_|refine AF ?_ _)); exact BK251.out⟩,⟨by (with_reducible repeat (first|refine AG ?_ _|refine AH ?_|refine AF ?_ _)); exact BK253.out⟩,⟨by repeat (first|(with_reducible first|exact HB.out|apply AE|apply AC|apply AD|refine AI ?_ GE251.out|refine AI ?_ GE253.out)|exact HB.out)⟩⟩
                        · rw [if_neg c29] at H
                          have c29b0:decide (((AL l0_1 x3_2).f2)<0)=false:=decide_eq_false c29
                          clear c29
                          have H':=yA H
                          clear H
                          have hnb34:=NB253_251.out
                          have hnc34:=NB251_253.out
                          have hcz35_0:w14.cell? ⟨gb253,0,none⟩=some (.string (⟨#[]⟩:ByteArray)):=(AK BK253.out 0).trans rfl
                          have hcz35_1:w14.cell? ⟨gb253,1,none⟩=some (.int .i64 0):=(AK BK253.out 1).trans rfl
                          have hcz35_2:w14.cell? ⟨gb253,2,none⟩=some (.int .i64 0):=(AK BK253.out 2).trans rfl
                          have hcz35_3:w14.cell? ⟨gb253,3,none⟩=some (.slice none 0 0):=(AK BK253.out 3).trans rfl
                          have hfz35_0:=AJ BK253.out 0
                          have hfz35_1:=AJ BK253.out 1
                          have hfz35_2:=AJ BK253.out 2
                          have hfz35_3:=AJ BK253.out 3
                          go_wp2_with (first|(go_at_call 32; (with_reducible refine (B8.calls k2 ((AL l0_1 x3_2).f0) true _ A17.out).mono ?_); rintro e w36 ⟨rfl,hb⟩; have n0_:=yA (AP (g:=gb251) (o:= .cells #[.int .i64 A8,.slice (some ad252) l0_1.length c0_1] 24 (0,0)) zF hb); have n1_:=yA (AP (g:=gb253) (o:= .cells #[.string ((AL l0_1 x3_2).f0),.int .i64 ((AL l0_1 x3_2).f1),.int .i64 ((AL l0_1 x3_2).f2),.slice A252_3 ((AL l0_1 x3_2).f3).length c252_3] 57 (0,0)) zC hb); have n2_:=yA (AO zO hb); clear BK251; clear BK253; clear HB; have BK251:=n0_; have BK253:=n1_; have HB:=n2_; clear n0_ n1_ n2_; (try clear hb); (try clear hb2); (try clear hk); (try clear hi); have hcz37_0:w36.cell? ⟨gb253,0,none⟩=some (.string ((AL l0_1 x3_2).f0)):=(AK BK253.out 0).trans rfl; have hcz37_1:w36.cell? ⟨gb253,1,none⟩=some (.int .i64 ((AL l0_1 x3_2).f1)):=(AK BK253.out 1).trans rfl; have hcz37_2:w36.cell? ⟨gb253,2,none⟩=some (.int .i64 ((AL l0_1 x3_2).f2)):=(AK BK253.out 2).trans rfl; have hcz37_3:w36.cell? ⟨gb253,3,none⟩=some (.slice A252_3 ((AL l0_1 x3_2).f3).length c252_3):=(AK BK253.out 3).trans rfl; have hfz37_0:=AJ BK253.out 0; have hfz37_1:=AJ BK253.out 1; have hfz37_2:=AJ BK253.out 2; have hfz37_3:=AJ BK253.out 3))
                          repeat (go_quiet (first|(go_at_call 32; (with_reducible refine (B8.calls k2 ((AL l0_1 x3_2).f0) true _ A17.out).mono ?_); rintro e w36 ⟨rfl,hb⟩; have n0_:=yA (AP (g:=gb251) (o:= .cells #[.int .i64 A8,.slice (some ad252) l0_1.length c0_1] 24 (0,0)) zF hb); have n1_:=yA (AP (g:=gb253) (o:= .cells #[.string ((AL l0_1 x3_2).f0),.int .i64 ((AL l0_1 x3_2).f1),.int .i64 ((AL l0_1 x3_2).f2),.slice A252_3 ((AL l0_1 x3_2).f3).length c252_3] 57 (0,0)) zC hb); have n2_:=yA (AO zO hb); clear BK251; clear BK253; clear HB; have BK251:=n0_; have BK253:=n1_; have HB:=n2_; clear n0_ n1_ n2_; (try clear hb); (try clear hb2); (try clear hk); (try clear hi); have hcz37_0:w36.cell? ⟨gb253,0,none⟩=some (.string ((AL l0_1 x3_2).f0)):=(AK BK253.out 0).trans rfl; have hcz37_1:w36.cell? ⟨gb253,1,none⟩=some (.int .i64 ((AL l0_1 x3_2).f1)):=(AK BK253.out 1).trans rfl; have hcz37_2:w36.cell? ⟨gb253,2,none⟩=some (.int .i64 ((AL l0_1 x3_2).f2)):=(AK BK253.out 2).trans rfl; have hcz37_3:w36.cell? ⟨gb253,3,none⟩=some (.slice A252_3 ((AL l0_1 x3_2).f3).length c252_3):=(AK BK253.out 3).trans rfl; have hfz37_0:=AJ BK253.out 0; have hfz37_1:=AJ BK253.out 1; have hfz37_2:=AJ BK253.out 2; have hfz37_3:=AJ BK253.out 3; clear A17)); try go_wp2_with (first|(go_at_call 32; (with_reducible refine (B8.calls k2 ((AL l0_1 x3_2).f0) true _ A17.out).mono ?_); rintro e w36 ⟨rfl,hb⟩; have n0_:=yA (AP (g:=gb251) (o:= .cells #[.int .i64 A8,.slice (some ad252) l0_1.length c0_1] 24 (0,0)) zF hb); have n1_:=yA (AP (g:=gb253) (o:= .cells #[.string ((AL l0_1 x3_2).f0),.int .i64 ((AL l0_1 x3_2).f1),.int .i64 ((AL l0_1 x3_2).f2),.slice A252_3 ((AL l0_1 x3_2).f3).length c252_3] 57 (0,0)) zC hb); have n2_:=yA (AO zO hb); clear BK251; clear BK253; clear HB; have BK251:=n0_; have BK253:=n1_; have HB:=n2_; clear n0_ n1_ n2_; (try clear hb); (try clear hb2); (try clear hk); (try clear hi); have hcz37_0:w36.cell? ⟨gb253,0,none⟩=some (.string ((AL l0_1 x3_2).f0)):=(AK BK253.out 0).trans rfl; have hcz37_1:w36.cell? ⟨gb253,1,none⟩=some (.int .i64 ((AL l0_1 x3_2).f1)):=(AK BK253.out 1).trans rfl; have hcz37_2:w36.cell? ⟨gb253,2,none⟩=some (.int .i64 ((AL l0_1 x3_2).f2)):=(AK BK253.out 2).trans rfl; have hcz37_3:w36.cell? ⟨gb253,3,none⟩=some (.slice A252_3 ((AL l0_1 x3_2).f3).length c252_3):=(AK BK253.out 3).trans rfl; have hfz37_0:=AJ BK253.out 0; have hfz37_1:=AJ BK253.out 1; have hfz37_2:=AJ BK253.out 2; have hfz37_3:=AJ BK253.out 3; clear A17)))
                          go_meet
                          case rel=>exact ⟨_,(decide (((AL l0_1 x3_2).f2)>1000000)),zG,H',⟨by have:=HJ1.out; have:=HK2.out; first|omega|exact Nat.le_refl _⟩,⟨by (with_reducible repeat (first|refine AG ?_ _|refine AH ?_|refine AF ?_ _)); exact BK251.out⟩,⟨by (with_reducible repeat (first|refine AG ?_ _|refine AH ?_|refine AF ?_ _)); exact BK253.out⟩,⟨by repeat (first|(with_reducible first|exact HB.out|apply AE|apply AC|apply AD|refine AI ?_ GE251.out|refine AI ?_ GE253.out)|exact HB.out)⟩⟩
                  · replace c18:=Bool.eq_false_iff.mpr c18
                    subst c18
                    have H1:(AV.j2 k2 x3_2 true A8 l0_1 ((AL l0_1 x3_2).f0) ((AL l0_1 x3_2).f1) ((AL l0_1 x3_2).f2) ((AL l0_1 x3_2).f3))=some r:=by rw [if_neg (show ¬(false=true) by decide)] at H; exact H
                    clear H
                    have H:=H1
                    clear H1
                    have H':=yA H
                    clear H
                    have hnb38:=NB253_251.out
                    have hnc38:=NB251_253.out
                    have hcz39_0:w14.cell? ⟨gb253,0,none⟩=some (.string (⟨#[]⟩:ByteArray)):=(AK BK253.out 0).trans rfl
                    have hcz39_1:w14.cell? ⟨gb253,1,none⟩=some (.int .i64 0):=(AK BK253.out 1).trans rfl
                    have hcz39_2:w14.cell? ⟨gb253,2,none⟩=some (.int .i64 0):=(AK BK253.out 2).trans rfl
                    have hcz39_3:w14.cell? ⟨gb253,3,none⟩=some (.slice none 0 0):=(AK BK253.out 3).trans rfl
                    have hfz39_0:=AJ BK253.out 0
                    have hfz39_1:=AJ BK253.out 1
                    have hfz39_2:=AJ BK253.out 2
                    have hfz39_3:=AJ BK253.out 3
                    go_wp2_with (first|(go_at_call 32; (with_reducible refine (B8.calls k2 ((AL l0_1 x3_2).f0) false _ A17.out).mono ?_); rintro e w40 ⟨rfl,hb⟩; have n0_:=yA (AP (g:=gb251) (o:= .cells #[.int .i64 A8,.slice (some ad252) l0_1.length c0_1] 24 (0,0)) zF hb); have n1_:=yA (AP (g:=gb253) (o:= .cells #[.string ((AL l0_1 x3_2).f0),.int .i64 ((AL l0_1 x3_2).f1),.int .i64 ((AL l0_1 x3_2).f2),.slice A252_3 ((AL l0_1 x3_2).f3).length c252_3] 57 (0,0)) zC hb); have n2_:=yA (AO zO hb); clear BK251; clear BK253; clear HB; have BK251:=n0_; have BK253:=n1_; have HB:=n2_; clear n0_ n1_ n2_; (try clear hb); (try clear hb2); (try clear hk); (try clear hi)))
                    repeat (go_quiet (first|(go_at_call 32; (with_reducible refine (B8.calls k2 ((AL l0_1 x3_2).f0) false _ A17.out).mono ?_); rintro e w40 ⟨rfl,hb⟩; have n0_:=yA (AP (g:=gb251) (o:= .cells #[.int .i64 A8,.slice (some ad252) l0_1.length c0_1] 24 (0,0)) zF hb); have n1_:=yA (AP (g:=gb253) (o:= .cells #[.string ((AL l0_1 x3_2).f0),.int .i64 ((AL l0_1 x3_2).f1),.int .i64 ((AL l0_1 x3_2).f2),.slice A252_3 ((AL l0_1 x3_2).f3).length c252_3] 57 (0,0)) zC hb); have n2_:=yA (AO zO hb); clear BK251; clear BK253; clear HB; have BK251:=n0_; have BK253:=n1_; have HB:=n2_; clear n0_ n1_ n2_; (try clear hb); (try clear hb2); (try clear hk); (try clear hi); clear A17)); try go_wp2_with (first|(go_at_call 32; (with_reducible refine (B8.calls k2 ((AL l0_1 x3_2).f0) false _ A17.out).mono ?_); rintro e w40 ⟨rfl,hb⟩; have n0_:=yA (AP (g:=gb251) (o:= .cells #[.int .i64 A8,.slice (some ad252) l0_1.length c0_1] 24 (0,0)) zF hb); have n1_:=yA (AP (g:=gb253) (o:= .cells #[.string ((AL l0_1 x3_2).f0),.int .i64 ((AL l0_1 x3_2).f1),.int .i64 ((AL l0_1 x3_2).f2),.slice A252_3 ((AL l0_1 x3_2).f3).length c252_3] 57 (0,0)) zC hb); have n2_:=yA (AO zO hb); clear BK251; clear BK253; clear HB; have BK251:=n0_; have BK253:=n1_; have HB:=n2_; clear n0_ n1_ n2_; (try clear hb); (try clear hb2); (try clear hk); (try clear hi); clear A17)))
                    go_meet
                    case rel=>exact ⟨_,(true),zG,H',⟨by have:=HJ1.out; have:=HK2.out; first|omega|exact Nat.le_refl _⟩,⟨by (with_reducible repeat (first|refine AG ?_ _|refine AH ?_|refine AF ?_ _)); exact BK251.out⟩,⟨by (with_reducible repeat (first|refine AG ?_ _|refine AH ?_|refine AF ?_ _)); exact BK253.out⟩,⟨by repeat (first|(with_reducible first|exact HB.out|apply AE|apply AC|apply AD|refine AI ?_ GE251.out|refine AI ?_ GE253.out)|exact HB.out)⟩⟩
                case rest =>
                  clear HC12
                  try clear c1
                  try clear c2
                  try clear p2
                  try clear q2
                  try clear hx2
                  try clear c3
                  try clear c4
                  try clear c4b0
                  try clear c6
                  try clear c6b0
                  try clear c9
                  try clear c10
                  try clear c10b0
                  try clear c11
                  try clear c11b0
                  try clear c15
                  try clear c18
                  try clear c19
                  try clear c19b0
                  try clear c20
                  try clear c24
                  try clear c24b0
                  try clear c25
                  try clear p25
                  try clear q25
                  try clear hx25
                  try clear c29
                  try clear c29b0
                  try clear c30
                  try clear c34
                  try clear c38
                  try clear hcz13_0
                  try clear hcz13_1
                  try clear hcz16_0
                  try clear hcz16_1
                  try clear hcz16_2
                  try clear hcz16_3
                  try clear hcz21_0
                  try clear hcz21_1
                  try clear hcz21_2
                  try clear hcz21_3
                  try clear hcz23_0
                  try clear hcz23_1
                  try clear hcz23_2
                  try clear hcz23_3
                  try clear hcz26_0
                  try clear hcz26_1
                  try clear hcz26_2
                  try clear hcz26_3
                  try clear hcz28_0
                  try clear hcz28_1
                  try clear hcz28_2
                  try clear hcz28_3
                  try clear hcz31_0
                  try clear hcz31_1
                  try clear hcz31_2
                  try clear hcz31_3
                  try clear hcz33_0
                  try clear hcz33_1
                  try clear hcz33_2
                  try clear hcz33_3
                  try clear hcz35_0
                  try clear hcz35_1
                  try clear hcz35_2
                  try clear hcz35_3
                  try clear hcz37_0
                  try clear hcz37_1
                  try clear hcz37_2
                  try clear hcz37_3
                  try clear hcz39_0
                  try clear hcz39_1
                  try clear hcz39_2
                  try clear hcz39_3
                  try clear hcz5_0
                  try clear hcz5_1
                  try clear hcz7_0
                  try clear hcz7_1
                  try clear hcz8_0
                  try clear hcz8_1
                  try clear hfz13_0
                  try clear hfz13_1
                  try clear hfz16_0
                  try clear hfz16_1
                  try clear hfz16_2
                  try clear hfz16_3
                  try clear hfz21_0
                  try clear hfz21_1
                  try clear hfz21_2
                  try clear hfz21_3
                  try clear hfz23_0
                  try clear hfz23_1
                  try clear hfz23_2
                  try clear hfz23_3
                  try clear hfz26_0
                  try clear hfz26_1
                  try clear hfz26_2
                  try clear hfz26_3
                  try clear hfz28_0
                  try clear hfz28_1
                  try clear hfz28_2
                  try clear hfz28_3
                  try clear hfz31_0
                  try clear hfz31_1
                  try clear hfz31_2
                  try clear hfz31_3
                  try clear hfz33_0
                  try clear hfz33_1
                  try clear hfz33_2
                  try clear hfz33_3
                  try clear hfz35_0
                  try clear hfz35_1
                  try clear hfz35_2
                  try clear hfz35_3
                  try clear hfz37_0
                  try clear hfz37_1
                  try clear hfz37_2
                  try clear hfz37_3
                  try clear hfz39_0
                  try clear hfz39_1
                  try clear hfz39_2
                  try clear hfz39_3
                  try clear hfz5_0
                  try clear hfz5_1
                  try clear hfz7_0
                  try clear hfz7_1
                  try clear hfz8_0
                  try clear hfz8_1
                  try clear hx252_0
                  try clear hx252_1
                  try clear hx252_2
                  try clear hx252_3
                  try clear p2
                  try clear p252
                  try clear q252
                  obtain ⟨kq,x56_11,rfl,HA,HJ11,BK251,BK253,HB⟩:=hcut
                  cases kq with
                  |zero=>exact absurd HA.out (by simp [AV.j2])
                  | succ kj11 =>
                    have H:=HA.out
                    clear HA
                    simp only [AV.j2] at H
                    by_cases c41:x56_11=true
                    · subst c41
                      have H1:(some false)=some r:=by rw [if_pos rfl] at H; exact H
                      clear H
                      have H:=H1
                      clear H1
                      obtain rfl:=Option.some.inj H
                      go_wp2
                      repeat (go_quiet (fail); try go_wp2)
                      go_ret
                      exact ⟨by first|rfl|(simp [AZ,AY]<;>rfl)|(simp [*,AZ,AY]<;>rfl),by repeat (first|(with_reducible first|exact HB.out|apply AE|apply AC|apply AD|refine AI ?_ GE251.out|refine AI ?_ GE253.out)|exact HB.out)⟩
                    · replace c41 :=Bool.eq_false_iff.mpr c41
                      subst c41
                      have H1:(AV.l1 kj11 x3_2 0 A8 l0_1 ((AL l0_1 x3_2).f0) ((AL l0_1 x3_2).f1) ((AL l0_1 x3_2).f2) ((AL l0_1 x3_2).f3))=some r:=by rw [if_neg (show ¬(false=true) by decide)] at H; exact H
                      clear H
                      have H:=H1
                      clear H1
                      have H':=yA H
                      clear H
                      go_wp2
                      repeat (go_quiet (fail); try go_wp2)
                      go_loopg [5] kj11 (fun kq v5 w'=>∃(x5_4:Int),v5= .int .i64 x5_4∧Aside0 (AV.l1 kq x3_2 x5_4 A8 l0_1 ((AL l0_1 x3_2).f0) ((AL l0_1 x3_2).f1) ((AL l0_1 x3_2).f2) ((AL l0_1 x3_2).f3)=some r)∧Aside0 (kq≤kj11)∧Aside0 (w'.heap[gb251]? =some (.cells #[.int .i64 A8,(.slice (some ad252) l0_1.length c0_1)] 24 (0,0)))∧Aside0 (w'.heap[gb253]? =some (.cells #[.string ((AL l0_1 x3_2).f0),.int .i64 ((AL l0_1 x3_2).f1),.int .i64 ((AL l0_1 x3_2).f2),(.slice A252_3 ((AL l0_1 x3_2).f3).length c252_3)] 57 (0,0)))∧Aside0 (Below w.heap.size w w'))
                      case atStart=>exact ⟨(0),zG,H',⟨Nat.le_refl _⟩,⟨by (with_reducible repeat (first|refine AG ?_ _|refine AH ?_|refine AF ?_ _)); exact BK251.out⟩,⟨by (with_reducible repeat (first|refine AG ?_ _|refine AH ?_|refine AF ?_ _)); exact BK253.out⟩,⟨by repeat (first|(with_reducible first|exact HB.out|apply AE|apply AC|apply AD|refine AI ?_ GE251.out|refine AI ?_ GE253.out)|exact HB.out)⟩⟩
                      case round=>
                        clear H'
                        try clear c1
                        try clear c2
                        try clear p2
                        try clear q2
                        try clear hx2
                        try clear c3
                        try clear c4
                        try clear c4b0
                        try clear c6
                        try clear c6b0
                        try clear c9
                        try clear c10
                        try clear c10b0
                        try clear c11
                        try clear c11b0
                        try clear c15
                        try clear c18
                        try clear c19
                        try clear c19b0
                        try clear c20
                        try clear c24
                        try clear c24b0
                        try clear c25
                        try clear p25
                        try clear q25
                        try clear hx25
                        try clear c29
                        try clear c29b0
                        try clear c30
                        try clear c34
                        try clear c38
                        try clear c41
                        try clear hcz13_0
                        try clear hcz13_1
                        try clear hcz16_0
                        try clear hcz16_1
                        try clear hcz16_2
                        try clear hcz16_3
                        try clear hcz21_0
                        try clear hcz21_1
                        try clear hcz21_2
                        try clear hcz21_3
                        try clear hcz23_0
                        try clear hcz23_1
                        try clear hcz23_2
                        try clear hcz23_3
                        try clear hcz26_0
                        try clear hcz26_1
                        try clear hcz26_2
                        try clear hcz26_3
                        try clear hcz28_0
                        try clear hcz28_1
                        try clear hcz28_2
                        try clear hcz28_3
                        try clear hcz31_0
                        try clear hcz31_1
                        try clear hcz31_2
                        try clear hcz31_3
                        try clear hcz33_0
                        try clear hcz33_1
                        try clear hcz33_2
                        try clear hcz33_3
                        try clear hcz35_0
                        try clear hcz35_1
                        try clear hcz35_2
                        try clear hcz35_3
                        try clear hcz37_0
                        try clear hcz37_1
                        try clear hcz37_2
                        try clear hcz37_3
                        try clear hcz39_0
                        try clear hcz39_1
                        try clear hcz39_2
                        try clear hcz39_3
                        try clear hcz5_0
                        try clear hcz5_1
                        try clear hcz7_0
                        try clear hcz7_1
                        try clear hcz8_0
                        try clear hcz8_1
                        try clear hfz13_0
                        try clear hfz13_1
                        try clear hfz16_0
                        try clear hfz16_1
                        try clear hfz16_2
                        try clear hfz16_3
                        try clear hfz21_0
                        try clear hfz21_1
                        try clear hfz21_2
                        try clear hfz21_3
                        try clear hfz23_0
                        try clear hfz23_1
                        try clear hfz23_2
                        try clear hfz23_3
                        try clear hfz26_0
                        try clear hfz26_1
                        try clear hfz26_2
                        try clear hfz26_3
                        try clear hfz28_0
                        try clear hfz28_1
                        try clear hfz28_2
                        try clear hfz28_3
                        try clear hfz31_0
                        try clear hfz31_1
                        try clear hfz31_2
                        try clear hfz31_3
                        try clear hfz33_0
                        try clear hfz33_1
                        try clear hfz33_2
                        try clear hfz33_3
                        try clear hfz35_0
                        try clear hfz35_1
                        try clear hfz35_2
                        try clear hfz35_3
                        try clear hfz37_0
                        try clear hfz37_1
                        try clear hfz37_2
                        try clear hfz37_3
                        try clear hfz39_0
                        try clear hfz39_1
                        try clear hfz39_2
                        try clear hfz39_3
                        try clear hfz5_0
                        try clear hfz5_1
                        try clear hfz7_0
                        try clear hfz7_1
                        try clear hfz8_0
                        try clear hfz8_1
                        try clear hx252_0
                        try clear hx252_1
                        try clear hx252_2
                        try clear hx252_3
                        try clear p2
                        try clear p25
                        try clear p252
                        try clear q2
                        try clear q25
                        try clear q252
                        obtain ⟨x5_4,rfl,HA,HK4,BK251,BK253,HB⟩:=hrel
                        cases gk with
                        |zero=>exact absurd HA.out (by simp [AV.l1])
                        | succ k4 =>
                          have H:=HA.out
                          clear HA
                          simp only [AV.l1] at H
                          by_cases c42:x5_4<x3_2
                          · rw [if_pos c42] at H
                            have c42b0:decide (x5_4<x3_2)=true:=decide_eq_true c42
                            clear c42
                            by_cases c43:0≤x5_4
                            · rw [if_pos c43] at H
                              have c43b0:decide (0≤x5_4)=true:=decide_eq_true c43
                              clear c43
                              by_cases c44:x5_4<(l0_1.length:Int)
                              · rw [if_pos c44] at H
                                have c44b0:decide (x5_4<(l0_1.length:Int))=true:=decide_eq_true c44
                                clear c44
                                by_cases c45:((AL l0_1 x5_4).f0).toList=((AL l0_1 x3_2).f0).toList
                                · rw [if_pos c45] at H
                                  have c45b0:(((AL l0_1 x5_4).f0).toList==((AL l0_1 x3_2).f0).toList)=true:=beq_iff_eq.mpr c45
                                  have c45b1:(((AL l0_1 x5_4).f0).toList !=((AL l0_1 x3_2).f0).toList)=false:=bne_eq_false_iff_eq.mpr c45
                                  clear c45
                                  obtain rfl:=Option.some.inj H
                                  have hnb46:=NB251_253.out
                                  have hnc46:=NB253_251.out
                                  have hcz47_0:wr.cell? ⟨gb251,0,none⟩=some (.int .i64 A8):=(AK BK251.out 0).trans rfl
                                  have hcz47_1:wr.cell? ⟨gb251,1,none⟩=some (.slice (some ad252) l0_1.length c0_1):=(AK BK251.out 1).trans rfl
                                  have hfz47_0:=AJ BK251.out 0
                                  have hfz47_1:=AJ BK251.out 1
                                  have p255:0≤(x5_4:Int):=yD
                                  have q255:x5_4<(l0_1.length:Int):=yD
                                  obtain ⟨ad255,A255_3,c255_3,e255,hx255_0,hx255_1,hx255_2,hx255_3,hl255_3,hi255_3⟩:=Bb HR0_1.out x5_4 p255 q255
                                  obtain rfl:ad252=ad255:=(by injection e255)
                                  replace hx255_0:=yC HB.out hx255_0
                                  replace hx255_1:=yC HB.out hx255_1
                                  replace hx255_2:=yC HB.out hx255_2
                                  replace hx255_3:=yC HB.out hx255_3
                                  have HR255_3:=yA hi255_3
                                  have HC255_3:=yA hl255_3
                                  clear hi255_3 hl255_3
                                  replace p255:=eq_true p255
                                  replace q255:=eq_true q255
                                  have hcz48_0:wr.cell? ⟨gb253,0,none⟩=some (.string ((AL l0_1 x3_2).f0)):=(AK BK253.out 0).trans rfl
                                  have hcz48_1:wr.cell? ⟨gb253,1,none⟩=some (.int .i64 ((AL l0_1 x3_2).f1)):=(AK BK253.out 1).trans rfl
                                  have hcz48_2:wr.cell? ⟨gb253,2,none⟩=some (.int .i64 ((AL l0_1 x3_2).f2)):=(AK BK253.out 2).trans rfl
                                  have hcz48_3:wr.cell? ⟨gb253,3,none⟩=some (.slice A252_3 ((AL l0_1 x3_2).f3).length c252_3):=(AK BK253.out 3).trans rfl
                                  have hfz48_0:=AJ BK253.out 0
                                  have hfz48_1:=AJ BK253.out 1
                                  have hfz48_2:=AJ BK253.out 2
                                  have hfz48_3:=AJ BK253.out 3
                                  go_wp2
                                  repeat (go_quiet (fail); try go_wp2)
                                  go_ret
                                  exact ⟨by first|rfl|(simp [AZ,AY]<;>rfl)|(simp [*,AZ,AY]<;>rfl),by repeat (first|(with_reducible first|exact HB.out|apply AE|apply AC|apply AD|refine AI ?_ GE251.out|refine AI ?_ GE253.out)|exact HB.out)⟩
                                · rw [if_neg c45] at H
                                  have c45b0:(((AL l0_1 x5_4).f0).toList==((AL l0_1 x3_2).f0).toList)=false:=beq_eq_false_iff_ne.mpr c45
                                  have c45b1:(((AL l0_1 x5_4).f0).toList !=((AL l0_1 x3_2).f0).toList)=true:=bne_iff_ne.mpr c45
                                  have H':=yA H
                                  clear H
                                  have hnb49:=NB251_253.out
                                  have hnc49:=NB253_251.out
                                  have hcz50_0:wr.cell? ⟨gb251,0,none⟩=some (.int .i64 A8):=(AK BK251.out 0).trans rfl
                                  have hcz50_1:wr.cell? ⟨gb251,1,none⟩=some (.slice (some ad252) l0_1.length c0_1):=(AK BK251.out 1).trans rfl
                                  have hfz50_0:=AJ BK251.out 0
                                  have hfz50_1:=AJ BK251.out 1
                                  have p255:0≤(x5_4:Int):=yD
                                  have q255:x5_4<(l0_1.length:Int):=yD
                                  obtain ⟨ad255,A255_3,c255_3,e255,hx255_0,hx255_1,hx255_2,hx255_3,hl255_3,hi255_3⟩:=Bb HR0_1.out x5_4 p255 q255
                                  obtain rfl:ad252=ad255:=(by injection e255)
                                  replace hx255_0:=yC HB.out hx255_0
                                  replace hx255_1:=yC HB.out hx255_1
                                  replace hx255_2:=yC HB.out hx255_2
                                  replace hx255_3:=yC HB.out hx255_3
                                  have HR255_3:=yA hi255_3
                                  have HC255_3:=yA hl255_3
                                  clear hi255_3 hl255_3
                                  replace p255:=eq_true p255
                                  replace q255:=eq_true q255
                                  have hcz51_0:wr.cell? ⟨gb253,0,none⟩=some (.string ((AL l0_1 x3_2).f0)):=(AK BK253.out 0).trans rfl
                                  have hcz51_1:wr.cell? ⟨gb253,1,none⟩=some (.int .i64 ((AL l0_1 x3_2).f1)):=(AK BK253.out 1).trans rfl
                                  have hcz51_2:wr.cell? ⟨gb253,2,none⟩=some (.int .i64 ((AL l0_1 x3_2).f2)):=(AK BK253.out 2).trans rfl
                                  have hcz51_3:wr.cell? ⟨gb253,3,none⟩=some (.slice A252_3 ((AL l0_1 x3_2).f3).length c252_3):=(AK BK253.out 3).trans rfl
                                  have hfz51_0:=AJ BK253.out 0
                                  have hfz51_1:=AJ BK253.out 1
                                  have hfz51_2:=AJ BK253.out 2
                                  have hfz51_3:=AJ BK253.out 3
                                  go_wp2
                                  repeat (go_quiet (fail); try go_wp2)
                                  go_roundg k4
                                  case measure=>have:=HJ1.out; have:=HK2.out; have:=HJ11.out; have:=HK4.out; omega
                                  case rel=>exact ⟨(wrap64 (x5_4+1)),zG,H',⟨by have:=HJ1.out; have:=HK2.out; have:=HJ11.out; have:=HK4.out; omega⟩,⟨by (with_reducible repeat (first|refine AG ?_ _|refine AH ?_|refine AF ?_ _)); exact BK251.out⟩,⟨by (with_reducible repeat (first|refine AG ?_ _|refine AH ?_|refine AF ?_ _)); exact BK253.out⟩,⟨by repeat (first|(with_reducible first|exact HB.out|apply AE|apply AC|apply AD|refine AI ?_ GE251.out|refine AI ?_ GE253.out)|exact HB.out)⟩⟩
                              · rw [if_neg c44] at H
                                exact absurd H zA6
                            · rw [if_neg c43] at H
                              exact absurd H zA6
                          · rw [if_neg c42] at H
                            have c42b0:decide (x5_4<x3_2)=false:=decide_eq_false c42
                            clear c42
                            have H':=yA H
                            clear H
                            go_wp2
                            repeat (go_quiet (fail); try go_wp2)
                            go_loopg [6] k4 (fun kq v6 w'=>∃(x6_5:Int),v6= .int .i64 x6_5∧Aside0 (AV.l2 kq x3_2 x6_5 A8 l0_1 ((AL l0_1 x3_2).f0) ((AL l0_1 x3_2).f1) ((AL l0_1 x3_2).f2) ((AL l0_1 x3_2).f3)=some r)∧Aside0 (kq≤k4)∧Aside0 (w'.heap[gb251]? =some (.cells #[.int .i64 A8,(.slice (some ad252) l0_1.length c0_1)] 24 (0,0)))∧Aside0 (w'.heap[gb253]? =some (.cells #[.string ((AL l0_1 x3_2).f0),.int .i64 ((AL l0_1 x3_2).f1),.int .i64 ((AL l0_1 x3_2).f2),(.slice A252_3 ((AL l0_1 x3_2).f3).length c252_3)] 57 (0,0)))∧Aside0 (Below w.heap.size w w'))
                            case atStart=>exact ⟨(0),zG,H',⟨Nat.le_refl _⟩,⟨by (with_reducible repeat (first|refine AG ?_ _|refine AH ?_|refine AF ?_ _)); exact BK251.out⟩,⟨by (with_reducible repeat (first|refine AG ?_ _|refine AH ?_|refine AF ?_ _)); exact BK253.out⟩,⟨by repeat (first|(with_reducible first|exact HB.out|apply AE|apply AC|apply AD|refine AI ?_ GE251.out|refine AI ?_ GE253.out)|exact HB.out)⟩⟩
                            case round=>
                              clear H'
                              try clear c1
                              try clear c2
                              try clear p2
                              try clear q2
                              try clear hx2
                              try clear c3
                              try clear c4
                              try clear c4b0
                              try clear c6
                              try clear c6b0
                              try clear p6
                              try clear c9
                              try clear c10
                              try clear c10b0
                              try clear c11
                              try clear c11b0
                              try clear c15
                              try clear c18
                              try clear c19
                              try clear c19b0
                              try clear c20
                              try clear c24
                              try clear c24b0
                              try clear c25
                              try clear p25
                              try clear q25
                              try clear hx25
                              try clear c29
                              try clear c29b0
                              try clear c30
                              try clear c34
                              try clear c38
                              try clear c41
                              try clear c42
                              try clear c42b0
                              try clear c43
                              try clear c43b0
                              try clear c44
                              try clear c44b0
                              try clear c45
                              try clear c45b0
                              try clear c45b1
                              try clear c46
                              try clear c49
                              try clear hcz13_0
                              try clear hcz13_1
                              try clear hcz16_0
                              try clear hcz16_1
                              try clear hcz16_2
                              try clear hcz16_3
                              try clear hcz21_0
                              try clear hcz21_1
                              try clear hcz21_2
                              try clear hcz21_3
                              try clear hcz23_0
                              try clear hcz23_1
                              try clear hcz23_2
                              try clear hcz23_3
                              try clear hcz26_0
                              try clear hcz26_1
                              try clear hcz26_2
                              try clear hcz26_3
                              try clear hcz28_0
                              try clear hcz28_1
                              try clear hcz28_2
                              try clear hcz28_3
                              try clear hcz31_0
                              try clear hcz31_1
                              try clear hcz31_2
                              try clear hcz31_3
                              try clear hcz33_0
                              try clear hcz33_1
                              try clear hcz33_2
                              try clear hcz33_3
                              try clear hcz35_0
                              try clear hcz35_1
                              try clear hcz35_2
                              try clear hcz35_3
                              try clear hcz37_0
                              try clear hcz37_1
                              try clear hcz37_2
                              try clear hcz37_3
                              try clear hcz39_0
                              try clear hcz39_1
                              try clear hcz39_2
                              try clear hcz39_3
                              try clear hcz47_0
                              try clear hcz47_1
                              try clear hcz48_0
                              try clear hcz48_1
                              try clear hcz48_2
                              try clear hcz48_3
                              try clear hcz50_0
                              try clear hcz50_1
                              try clear hcz51_0
                              try clear hcz51_1
                              try clear hcz51_2
                              try clear hcz51_3
                              try clear hcz5_0
                              try clear hcz5_1
                              try clear hcz7_0
                              try clear hcz7_1
                              try clear hcz8_0
                              try clear hcz8_1
                              try clear hfz13_0
                              try clear hfz13_1
                              try clear hfz16_0
                              try clear hfz16_1
                              try clear hfz16_2
                              try clear hfz16_3
                              try clear hfz21_0
                              try clear hfz21_1
                              try clear hfz21_2
                              try clear hfz21_3
                              try clear hfz23_0
                              try clear hfz23_1
                              try clear hfz23_2
                              try clear hfz23_3
                              try clear hfz26_0
                              try clear hfz26_1
                              try clear hfz26_2
                              try clear hfz26_3
                              try clear hfz28_0
                              try clear hfz28_1
                              try clear hfz28_2
                              try clear hfz28_3
                              try clear hfz31_0
                              try clear hfz31_1
                              try clear hfz31_2
                              try clear hfz31_3
                              try clear hfz33_0
                              try clear hfz33_1
                              try clear hfz33_2
                              try clear hfz33_3
                              try clear hfz35_0
                              try clear hfz35_1
                              try clear hfz35_2
                              try clear hfz35_3
                              try clear hfz37_0
                              try clear hfz37_1
                              try clear hfz37_2
                              try clear hfz37_3
                              try clear hfz39_0
                              try clear hfz39_1
                              try clear hfz39_2
                              try clear hfz39_3
                              try clear hfz47_0
                              try clear hfz47_1
                              try clear hfz48_0
                              try clear hfz48_1
                              try clear hfz48_2
                              try clear hfz48_3
                              try clear hfz50_0
                              try clear hfz50_1
                              try clear hfz51_0
                              try clear hfz51_1
                              try clear hfz51_2
                              try clear hfz51_3
                              try clear hfz5_0
                              try clear hfz5_1
                              try clear hfz7_0
                              try clear hfz7_1
                              try clear hfz8_0
                              try clear hfz8_1
                              try clear hx252_0
                              try clear hx252_1
                              try clear hx252_2
                              try clear hx252_3
                              try clear hx255_0
                              try clear hx255_1
                              try clear hx255_2
                              try clear hx255_3
                              try clear p2
                              try clear p25
                              try clear p252
                              try clear p255
                              try clear q2
                              try clear q25
                              try clear q252
                              try clear q255
                              obtain ⟨x6_5,rfl,HA,HK5,BK251,BK253,HB⟩:=hrel
                              cases gk with
                              |zero=>exact absurd HA.out (by simp [AV.l2])
                              | succ k5 =>
                                have H:=HA.out
                                clear HA
                                simp only [AV.l2] at H
                                by_cases c52:x6_5<(((AL l0_1 x3_2).f3).length:Int)
                                · rw [if_pos c52] at H
                                  have c52b0:decide (x6_5<(((AL l0_1 x3_2).f3).length:Int))=true:=decide_eq_true c52
                                  clear c52
                                  by_cases c53:0≤x6_5
                                  · rw [if_pos c53] at H
                                    have c53b0:decide (0≤x6_5)=true:=decide_eq_true c53
                                    clear c53
                                    by_cases c54:(rd ((AL l0_1 x3_2).f3) x6_5)<0
                                    · rw [if_pos c54] at H
                                      have c54b0:decide ((rd ((AL l0_1 x3_2).f3) x6_5)<0)=true:=decide_eq_true c54
                                      clear c54
                                      obtain rfl:=Option.some.inj H
                                      have hnb55:=NB253_251.out
                                      have hnc55:=NB251_253.out
                                      have hcz56_0:wr.cell? ⟨gb253,0,none⟩=some (.string ((AL l0_1 x3_2).f0)):=(AK BK253.out 0).trans rfl
                                      have hcz56_1:wr.cell? ⟨gb253,1,none⟩=some (.int .i64 ((AL l0_1 x3_2).f1)):=(AK BK253.out 1).trans rfl
                                      have hcz56_2:wr.cell? ⟨gb253,2,none⟩=some (.int .i64 ((AL l0_1 x3_2).f2)):=(AK BK253.out 2).trans rfl
                                      have hcz56_3:wr.cell? ⟨gb253,3,none⟩=some (.slice A252_3 ((AL l0_1 x3_2).f3).length c252_3):=(AK BK253.out 3).trans rfl
                                      have hfz56_0:=AJ BK253.out 0
                                      have hfz56_1:=AJ BK253.out 1
                                      have hfz56_2:=AJ BK253.out 2
                                      have hfz56_3:=AJ BK253.out 3
                                      have p256:0≤(x6_5:Int):=yD
                                      have q256:x6_5<(((AL l0_1 x3_2).f3).length:Int):=yD
                                      obtain ⟨ad256,e256,hx256_0⟩:=Kd.at_int HR252_3.out x6_5 p256 q256
                                      cases e256
                                      replace hx256_0:=yC HB.out hx256_0
                                      replace p256:=eq_true p256
                                      replace q256:=eq_true q256
                                      go_wp2
                                      repeat (go_quiet (fail); try go_wp2)
                                      go_ret
                                      exact ⟨by first|rfl|(simp [AZ,AY]<;>rfl)|(simp [*,AZ,AY]<;>rfl),by repeat (first|(with_reducible first|exact HB.out|apply AE|apply AC|apply AD|refine AI ?_ GE251.out|refine AI ?_ GE253.out)|exact HB.out)⟩
                                    · rw [if_neg c54] at H
                                      have c54b0:decide ((rd ((AL l0_1 x3_2).f3) x6_5)<0)=false:=decide_eq_false c54
                                      clear c54
                                      by_cases c57:(rd ((AL l0_1 x3_2).f3) x6_5)≥x3_2
                                      · rw [if_pos c57] at H
                                        have c57b0:decide (x3_2≤(rd ((AL l0_1 x3_2).f3) x6_5))=true:=decide_eq_true c57
                                        clear c57
                                        obtain rfl:=Option.some.inj H
                                        have hnb58:=NB253_251.out
                                        have hnc58:=NB251_253.out
                                        have hcz59_0:wr.cell? ⟨gb253,0,none⟩=some (.string ((AL l0_1 x3_2).f0)):=(AK BK253.out 0).trans rfl
                                        have hcz59_1:wr.cell? ⟨gb253,1,none⟩=some (.int .i64 ((AL l0_1 x3_2).f1)):=(AK BK253.out 1).trans rfl
                                        have hcz59_2:wr.cell? ⟨gb253,2,none⟩=some (.int .i64 ((AL l0_1 x3_2).f2)):=(AK BK253.out 2).trans rfl
                                        have hcz59_3:wr.cell? ⟨gb253,3,none⟩=some (.slice A252_3 ((AL l0_1 x3_2).f3).length c252_3):=(AK BK253.out 3).trans rfl
                                        have hfz59_0:=AJ BK253.out 0
                                        have hfz59_1:=AJ BK253.out 1
                                        have hfz59_2:=AJ BK253.out 2
                                        have hfz59_3:=AJ BK253.out 3
                                        have p256:0≤(x6_5:Int):=yD
                                        have q256:x6_5<(((AL l0_1 x3_2).f3).length:Int):=yD
                                        obtain ⟨ad256,e256,hx256_0⟩:=Kd.at_int HR252_3.out x6_5 p256 q256
                                        cases e256
                                        replace hx256_0:=yC HB.out hx256_0
                                        replace p256:=eq_true p256
                                        replace q256:=eq_true q256
                                        have p257:0≤(x6_5:Int):=yD
                                        have q257:x6_5<(((AL l0_1 x3_2).f3).length:Int):=yD
                                        obtain ⟨ad257,e257,hx257_0⟩:=Kd.at_int HR252_3.out x6_5 p257 q257
                                        obtain rfl:ad256=ad257:=(by injection e257)
                                        replace hx257_0:=yC HB.out hx257_0
                                        replace p257:=eq_true p257
                                        replace q257:=eq_true q257
                                        go_wp2
                                        repeat (go_quiet (fail); try go_wp2)
                                        go_ret
                                        exact ⟨by first|rfl|(simp [AZ,AY]<;>rfl)|(simp [*,AZ,AY]<;>rfl),by repeat (first|(with_reducible first|exact HB.out|apply AE|apply AC|apply AD|refine AI ?_ GE251.out|refine AI ?_ GE253.out)|exact HB.out)⟩
                                      · rw [if_neg c57] at H
                                        have c57b0:decide (x3_2≤(rd ((AL l0_1 x3_2).f3) x6_5))=false:=decide_eq_false c57
                                        clear c57
                                        by_cases c60:x6_5>0
                                        · rw [if_pos c60] at H
                                          have c60b0:decide (0<x6_5)=true:=decide_eq_true c60
                                          clear c60
                                          obtain ⟨ji61,hji61⟩:∃j_:Int,(wrap64 (x6_5-1))=j_:=⟨_,rfl⟩
                                          replace H:(if 0≤(ji61) then (if (ji61)<(((AL l0_1 x3_2).f3).length:Int) then (if (rd ((AL l0_1 x3_2).f3) (ji61))≥(rd ((AL l0_1 x3_2).f3) x6_5) then (some false) else (AV.l2 k5 x3_2 (wrap64 (x6_5+1)) A8 l0_1 ((AL l0_1 x3_2).f0) ((AL l0_1 x3_2).f1) ((AL l0_1 x3_2).f2) ((AL l0_1 x3_2).f3))) else (none)) else (none))=some r:=by first|(rw [hji61] at H; exact H)|(simp only [hji61] at H ⊢; exact H)
                                          have hji61w:(IntKind.i64.wrap (x6_5-1))=ji61:=(AR _).trans hji61
                                          by_cases c62:0≤(ji61)
                                          · rw [if_pos c62] at H
                                            have c62b0:decide (0≤(ji61))=true:=decide_eq_true c62
                                            clear c62
                                            by_cases c63:(ji61)<(((AL l0_1 x3_2).f3).length:Int)
                                            · rw [if_pos c63] at H
                                              have c63b0:decide ((ji61)<(((AL l0_1 x3_2).f3).length:Int))=true:=decide_eq_true c63
                                              clear c63
                                              by_cases c64:(rd ((AL l0_1 x3_2).f3) (ji61))≥(rd ((AL l0_1 x3_2).f3) x6_5)
                                              · rw [if_pos c64] at H
                                                have c64b0:decide ((rd ((AL l0_1 x3_2).f3) x6_5)≤(rd ((AL l0_1 x3_2).f3) (ji61)))=true:=decide_eq_true c64
                                                clear c64
                                                obtain rfl:=Option.some.inj H
                                                have hnb65:=NB253_251.out
                                                have hnc65:=NB251_253.out
                                                have hcz66_0:wr.cell? ⟨gb253,0,none⟩=some (.string ((AL l0_1 x3_2).f0)):=(AK BK253.out 0).trans rfl
                                                have hcz66_1:wr.cell? ⟨gb253,1,none⟩=some (.int .i64 ((AL l0_1 x3_2).f1)):=(AK BK253.out 1).trans rfl
                                                have hcz66_2:wr.cell? ⟨gb253,2,none⟩=some (.int .i64 ((AL l0_1 x3_2).f2)):=(AK BK253.out 2).trans rfl
                                                have hcz66_3:wr.cell? ⟨gb253,3,none⟩=some (.slice A252_3 ((AL l0_1 x3_2).f3).length c252_3):=(AK BK253.out 3).trans rfl
                                                have hfz66_0:=AJ BK253.out 0
                                                have hfz66_1:=AJ BK253.out 1
                                                have hfz66_2:=AJ BK253.out 2
                                                have hfz66_3:=AJ BK253.out 3
                                                have p256:0≤(x6_5:Int):=yD
                                                have q256:x6_5<(((AL l0_1 x3_2).f3).length:Int):=yD
                                                obtain ⟨ad256,e256,hx256_0⟩:=Kd.at_int HR252_3.out x6_5 p256 q256
                                                cases e256
                                                replace hx256_0:=yC HB.out hx256_0
                                                replace p256:=eq_true p256
                                                replace q256:=eq_true q256
                                                have p257:0≤(x6_5:Int):=yD
                                                have q257:x6_5<(((AL l0_1 x3_2).f3).length:Int):=yD
                                                obtain ⟨ad257,e257,hx257_0⟩:=Kd.at_int HR252_3.out x6_5 p257 q257
                                                obtain rfl:ad256=ad257:=(by injection e257)
                                                replace hx257_0:=yC HB.out hx257_0
                                                replace p257:=eq_true p257
                                                replace q257:=eq_true q257
                                                have p258:0≤((ji61):Int):=yD
                                                have q258:(ji61)<(((AL l0_1 x3_2).f3).length:Int):=yD
                                                obtain ⟨ad258,e258,hx258_0⟩:=Kd.at_int HR252_3.out (ji61) p258 q258
                                                obtain rfl:ad256=ad258:=(by injection e258)
                                                replace hx258_0:=yC HB.out hx258_0
                                                replace p258:=eq_true p258
                                                replace q258:=eq_true q258
                                                have p259:0≤(x6_5:Int):=yD
                                                have q259:x6_5<(((AL l0_1 x3_2).f3).length:Int):=yD
                                                obtain ⟨ad259,e259,hx259_0⟩:=Kd.at_int HR252_3.out x6_5 p259 q259
                                                obtain rfl:ad256=ad259:=(by injection e259)
                                                replace hx259_0:=yC HB.out hx259_0
                                                replace p259:=eq_true p259
                                                replace q259:=eq_true q259
                                                go_wp2
                                                repeat (go_quiet (fail); try go_wp2)
                                                go_ret
                                                exact ⟨by first|rfl|(simp [AZ,AY]<;>rfl)|(simp only [←hji61]; first|rfl|(simp [AZ,AY]<;>rfl))|(simp [*,AZ,AY]<;>rfl),by repeat (first|(with_reducible first|exact HB.out|apply AE|apply AC|apply AD|refine AI ?_ GE251.out|refine AI ?_ GE253.out)|exact HB.out)⟩
                                              · rw [if_neg c64] at H
                                                have c64b0:decide ((rd ((AL l0_1 x3_2).f3) x6_5)≤(rd ((AL l0_1 x3_2).f3) (ji61)))=false:=decide_eq_false c64
                                                clear c64
                                                have H':=yA H
                                                clear H
                                                have hnb67:=NB253_251.out
                                                have hnc67:=NB251_253.out
                                                have hcz68_0:wr.cell? ⟨gb253,0,none⟩=some (.string ((AL l0_1 x3_2).f0)):=(AK BK253.out 0).trans rfl
                                                have hcz68_1:wr.cell? ⟨gb253,1,none⟩=some (.int .i64 ((AL l0_1 x3_2).f1)):=(AK BK253.out 1).trans rfl
                                                have hcz68_2:wr.cell? ⟨gb253,2,none⟩=some (.int .i64 ((AL l0_1 x3_2).f2)):=(AK BK253.out 2).trans rfl
                                                have hcz68_3:wr.cell? ⟨gb253,3,none⟩=some (.slice A252_3 ((AL l0_1 x3_2).f3).length c252_3):=(AK BK253.out 3).trans rfl
                                                have hfz68_0:=AJ BK253.out 0
                                                have hfz68_1:=AJ BK253.out 1
                                                have hfz68_2:=AJ BK253.out 2
                                                have hfz68_3:=AJ BK253.out 3
                                                have p256:0≤(x6_5:Int):=yD
                                                have q256:x6_5<(((AL l0_1 x3_2).f3).length:Int):=yD
                                                obtain ⟨ad256,e256,hx256_0⟩:=Kd.at_int HR252_3.out x6_5 p256 q256
                                                cases e256
                                                replace hx256_0:=yC HB.out hx256_0
                                                replace p256:=eq_true p256
                                                replace q256:=eq_true q256
                                                have p257:0≤(x6_5:Int):=yD
                                                have q257:x6_5<(((AL l0_1 x3_2).f3).length:Int):=yD
                                                obtain ⟨ad257,e257,hx257_0⟩:=Kd.at_int HR252_3.out x6_5 p257 q257
                                                obtain rfl:ad256=ad257:=(by injection e257)
                                                replace hx257_0:=yC HB.out hx257_0
                                                replace p257:=eq_true p257
                                                replace q257:=eq_true q257
                                                have p258:0≤((ji61):Int):=yD
                                                have q258:(ji61)<(((AL l0_1 x3_2).f3).length:Int):=yD
                                                obtain ⟨ad258,e258,hx258_0⟩:=Kd.at_int HR252_3.out (ji61) p258 q258
                                                obtain rfl:ad256=ad258:=(by injection e258)
                                                replace hx258_0:=yC HB.out hx258_0
                                                replace p258:=eq_true p258
                                                replace q258:=eq_true q258
                                                have p259:0≤(x6_5:Int):=yD
                                                have q259:x6_5<(((AL l0_1 x3_2).f3).length:Int):=yD
                                                obtain ⟨ad259,e259,hx259_0⟩:=Kd.at_int HR252_3.out x6_5 p259 q259
                                                obtain rfl:ad256=ad259:=(by injection e259)
                                                replace hx259_0:=yC HB.out hx259_0
                                                replace p259:=eq_true p259
                                                replace q259:=eq_true q259
                                                go_wp2
                                                repeat (go_quiet (fail); try go_wp2)
                                                go_roundg k5
                                                case measure=>have:=HJ1.out; have:=HK2.out; have:=HJ11.out; have:=HK4.out; have:=HK5.out; omega
                                                case rel=>exact ⟨(wrap64 (x6_5+1)),zG,H',⟨by have:=HJ1.out; have:=HK2.out; have:=HJ11.out; have:=HK4.out; have:=HK5.out; omega⟩,⟨by (with_reducible repeat (first|refine AG ?_ _|refine AH ?_|refine AF ?_ _)); exact BK251.out⟩,⟨by (with_reducible repeat (first|refine AG ?_ _|refine AH ?_|refine AF ?_ _)); exact BK253.out⟩,⟨by repeat (first|(with_reducible first|exact HB.out|apply AE|apply AC|apply AD|refine AI ?_ GE251.out|refine AI ?_ GE253.out)|exact HB.out)⟩⟩
                                            · rw [if_neg c63] at H
                                              exact absurd H zA6
                                          · rw [if_neg c62] at H
                                            exact absurd H zA6
                                        · rw [if_neg c60] at H
                                          have c60b0:decide (0<x6_5)=false:=decide_eq_false c60
                                          clear c60
                                          have H':=yA H
                                          clear H
                                          have hnb69:=NB253_251.out
                                          have hnc69:=NB251_253.out
                                          have hcz70_0:wr.cell? ⟨gb253,0,none⟩=some (.string ((AL l0_1 x3_2).f0)):=(AK BK253.out 0).trans rfl
                                          have hcz70_1:wr.cell? ⟨gb253,1,none⟩=some (.int .i64 ((AL l0_1 x3_2).f1)):=(AK BK253.out 1).trans rfl
                                          have hcz70_2:wr.cell? ⟨gb253,2,none⟩=some (.int .i64 ((AL l0_1 x3_2).f2)):=(AK BK253.out 2).trans rfl
                                          have hcz70_3:wr.cell? ⟨gb253,3,none⟩=some (.slice A252_3 ((AL l0_1 x3_2).f3).length c252_3):=(AK BK253.out 3).trans rfl
                                          have hfz70_0:=AJ BK253.out 0
                                          have hfz70_1:=AJ BK253.out 1
                                          have hfz70_2:=AJ BK253.out 2
                                          have hfz70_3:=AJ BK253.out 3
                                          have p256:0≤(x6_5:Int):=yD
                                          have q256:x6_5<(((AL l0_1 x3_2).f3).length:Int):=yD
                                          obtain ⟨ad256,e256,hx256_0⟩:=Kd.at_int HR252_3.out x6_5 p256 q256
                                          cases e256
                                          replace hx256_0:=yC HB.out hx256_0
                                          replace p256:=eq_true p256
                                          replace q256:=eq_true q256
                                          have p257:0≤(x6_5:Int):=yD
                                          have q257:x6_5<(((AL l0_1 x3_2).f3).length:Int):=yD
                                          obtain ⟨ad257,e257,hx257_0⟩:=Kd.at_int HR252_3.out x6_5 p257 q257
                                          obtain rfl:ad256=ad257:=(by injection e257)
                                          replace hx257_0:=yC HB.out hx257_0
                                          replace p257:=eq_true p257
                                          replace q257:=eq_true q257
                                          go_wp2
                                          repeat (go_quiet (fail); try go_wp2)
                                          go_roundg k5
                                          case measure=>have:=HJ1.out; have:=HK2.out; have:=HJ11.out; have:=HK4.out; have:=HK5.out; omega
                                          case rel=>exact ⟨(wrap64 (x6_5+1)),zG,H',⟨by have:=HJ1.out; have:=HK2.out; have:=HJ11.out; have:=HK4.out; have:=HK5.out; omega⟩,⟨by (with_reducible repeat (first|refine AG ?_ _|refine AH ?_|refine AF ?_ _)); exact BK251.out⟩,⟨by (with_reducible repeat (first|refine AG ?_ _|refine AH ?_|refine AF ?_ _)); exact BK253.out⟩,⟨by repeat (first|(with_reducible first|exact HB.out|apply AE|apply AC|apply AD|refine AI ?_ GE251.out|refine AI ?_ GE253.out)|exact HB.out)⟩⟩
                                  · rw [if_neg c53] at H
                                    exact absurd H zA6
                                · rw [if_neg c52] at H
                                  have c52b0:decide (x6_5<(((AL l0_1 x3_2).f3).length:Int))=false:=decide_eq_false c52
                                  clear c52
                                  have H':=yA H
                                  clear H
                                  have hnb71:=NB253_251.out
                                  have hnc71:=NB251_253.out
                                  have hcz72_0:wr.cell? ⟨gb253,0,none⟩=some (.string ((AL l0_1 x3_2).f0)):=(AK BK253.out 0).trans rfl
                                  have hcz72_1:wr.cell? ⟨gb253,1,none⟩=some (.int .i64 ((AL l0_1 x3_2).f1)):=(AK BK253.out 1).trans rfl
                                  have hcz72_2:wr.cell? ⟨gb253,2,none⟩=some (.int .i64 ((AL l0_1 x3_2).f2)):=(AK BK253.out 2).trans rfl
                                  have hcz72_3:wr.cell? ⟨gb253,3,none⟩=some (.slice A252_3 ((AL l0_1 x3_2).f3).length c252_3):=(AK BK253.out 3).trans rfl
                                  have hfz72_0:=AJ BK253.out 0
                                  have hfz72_1:=AJ BK253.out 1
                                  have hfz72_2:=AJ BK253.out 2
                                  have hfz72_3:=AJ BK253.out 3
                                  go_wp2
                                  repeat (go_quiet (fail); try go_wp2)
                                  go_roundg k5
                                  case measure=>have:=HJ1.out; have:=HK2.out; have:=HJ11.out; have:=HK4.out; have:=HK5.out; omega
                                  case rel=>exact ⟨(wrap64 (x3_2+1)),zG,H',⟨by have:=HJ1.out; have:=HK2.out; have:=HJ11.out; have:=HK4.out; have:=HK5.out; omega⟩,⟨by (with_reducible repeat (first|refine AG ?_ _|refine AH ?_|refine AF ?_ _)); exact BK251.out⟩,⟨by repeat (first|(with_reducible first|exact HB.out|apply AE|apply AC|apply AD|refine AI ?_ GE251.out|refine AI ?_ GE253.out)|exact HB.out)⟩⟩
              · rw [if_neg c11] at H
                exact absurd H zA6
            · rw [if_neg c10] at H
              have c10b0:decide (x3_2<(l0_1.length:Int))=false:=decide_eq_false c10
              clear c10
              obtain rfl:=Option.some.inj H
              have hcz73_0:wr.cell? ⟨gb251,0,none⟩=some (.int .i64 A8):=(AK BK251.out 0).trans rfl
              have hcz73_1:wr.cell? ⟨gb251,1,none⟩=some (.slice A0_1 l0_1.length c0_1):=(AK BK251.out 1).trans rfl
              have hfz73_0:=AJ BK251.out 0
              have hfz73_1:=AJ BK251.out 1
              go_wp2
              repeat (go_quiet (fail); try go_wp2)
              go_ret
              exact ⟨by first|rfl|(simp [AZ,AY]<;>rfl)|(simp [*,AZ,AY]<;>rfl),by repeat (first|(with_reducible first|exact HB.out|apply AE|apply AC|apply AD|refine AI ?_ GE251.out)|exact HB.out)⟩
end Go.Proofs.YtdadecjefafflaaDoor.PChk
end
section
namespace Go.Proofs.YtdadecjefafflaaDoor.PChk
set_option maxRecDepth 100000
open Go.RowKit Go.Proofs.YtdadecjefafflaaDoorW.PrintWords Go.Proofs.YtdadecjefafflaaDoorW.PrintLast Go.Proofs.YtdadecjefafflaaDoorW.PrintMore
attribute [local go_sem] Ba BX Be Bd BS BR BZ BW
mutual
def AU.j0:Nat→List (S59)→Bool→Int→List (S57)→Option (Int)
 |0,_,_,_,_=>none
 |k+1,x1,x21,x261000,x261001=>if x21=true then (some 1) else (AU.l0 k x1 0 x261000 x261001)
def AU.l0:Nat→List (S59)→Int→Int→List (S57)→Option (Int)
 |0,_,_,_,_=>none
 |k+1,x1,x5,x261000,x261001=>if x5<(x1.length:Int) then (if 0≤x5 then (if ((Aj x1 x5).f0)<0 then (some 2) else (if ((Aj x1 x5).f0)≥x261000 then (some 2) else (if ((Aj x1 x5).f1)<0 then (some 2) else (if ((Aj x1 x5).f1)>1000000 then (some 2) else (AU.l0 k x1 (wrap64 (x5+1)) x261000 x261001))))) else (none)) else (AU.l1 k x1 0 x261000 x261001)
def AU.l1:Nat→List (S59)→Int→Int→List (S57)→Option (Int)
 |0,_,_,_,_=>none
 |k+1,x1,x6,x261000,x261001=>if x6<(x1.length:Int) then (AU.l2 k x1 x6 0 x261000 x261001) else (AU.l3 k x1 0 x261000 x261001)
def AU.l2:Nat→List (S59)→Int→Int→Int→List (S57)→Option (Int)
 |0,_,_,_,_,_=>none
 |k+1,x1,x6,x7,x261000,x261001=>if x7<x6 then (if 0≤x6 then (if x6<(x1.length:Int) then (if 0≤x7 then (if x7<(x1.length:Int) then (if ((Aj x1 x6).f0)=((Aj x1 x7).f0) then (if x7<(x261001.length:Int) then (if ((Aj x1 x6).f1)<(wrap64 (((Aj x1 x7).f1)+((AL x261001 x7).f1))) then (if x6<(x261001.length:Int) then (if ((Aj x1 x7).f1)<(wrap64 (((Aj x1 x6).f1)+((AL x261001 x6).f1))) then (some 16) else (AU.l2 k x1 x6 (wrap64 (x7+1)) x261000 x261001)) else (none)) else (AU.l2 k x1 x6 (wrap64 (x7+1)) x261000 x261001)) else (none)) else (AU.l2 k x1 x6 (wrap64 (x7+1)) x261000 x261001)) else (none)) else (none)) else (none)) else (none)) else (AU.l1 k x1 (wrap64 (x6+1)) x261000 x261001)
def AU.l3:Nat→List (S59)→Int→Int→List (S57)→Option (Int)
 |0,_,_,_,_=>none
 |k+1,x1,x8,x261000,x261001=>if x8<(x1.length:Int) then (AU.l4 k x1 x8 0 x261000 x261001) else (some 0)
def AU.l4:Nat→List (S59)→Int→Int→Int→List (S57)→Option (Int)
 |0,_,_,_,_,_=>none
 |k+1,x1,x8,x9,x261000,x261001=>if 0≤x8 then (if x8<(x261001.length:Int) then (if x9<(((AL x261001 x8).f3).length:Int) then (if 0≤x9 then (if x8<(x1.length:Int) then (if 0≤(rd ((AL x261001 x8).f3) x9) then (if (rd ((AL x261001 x8).f3) x9)<(x1.length:Int) then (if (rd ((AL x261001 x8).f3) x9)<(x261001.length:Int) then (if ((Aj x1 x8).f1)<(wrap64 (((Aj x1 (rd ((AL x261001 x8).f3) x9)).f1)+((AL x261001 (rd ((AL x261001 x8).f3) x9)).f1))) then (some 8) else (AU.l4 k x1 x8 (wrap64 (x9+1)) x261000 x261001)) else (none)) else (none)) else (none)) else (none)) else (none)) else (AU.l3 k x1 (wrap64 (x8+1)) x261000 x261001)) else (none)) else (none)
end
def AU.f (k:Nat) (A8:Int) (l0_1:List (S57)) (l1:List (S59)):Option (Int):=(AV.f k A8 l0_1).bind fun t261=>(if t261=true then (AU.j0 k l1 ((l1.length:Int) !=(l0_1.length:Int)) A8 l0_1) else (AU.j0 k l1 true A8 l0_1))
set_option maxHeartbeats 8000000 in
theorem AU.calls (k : Nat) (A8:Int) (A0_1:Option Addr) (c0_1:Nat) (l0_1:List (S57)) (A1:Option Addr) (c1:Nat) (l1:List (S59)) (r:Int) (w:World) (hr0_1:Kd.C k57 w A0_1 l0_1.length l0_1) (hc0_1:l0_1.length≤c0_1) (hr1:Kd.C k59 w A1 l1.length l1) (hc1:l1.length≤c1) (h:AU.f k A8 l0_1 l1=some r):
  Calls Tryd.prog 17 #[.agg #[.int .i64 A8,.slice A0_1 l0_1.length c0_1],.slice A1 l1.length c1] w fun e w'=>e= .returned (.int .i64 r)∧Below w.heap.size w w':=by
 have hu24:=Tryd.underlying24
 have HR0_1:=yA hr0_1
 have HC0_1:=yA hc0_1
 clear hr0_1 hc0_1
 have HR1:=yA hr1
 have HC1:=yA hc1
 clear hr1 hc1
 have HB:=yA (Below.refl w.heap.size w)
 have H:((AV.f k A8 l0_1).bind fun t261=>(if t261=true then (AU.j0 k l1 ((l1.length:Int) !=(l0_1.length:Int)) A8 l0_1) else (AU.j0 k l1 true A8 l0_1)))=some r:=h
 clear h
 have HC3:=yA H
 clear H
 go_enter Tryd.func17,Tryd.ntmps17
 go_upto_region 1 with (first|((with_reducible refine Ar (N:=2) rfl ?_); (try (refine BI (by rfl) ?_; dsimp only)); refine Ap ?hg (N:=2) ?hd (cs:= #[.int .i64 A8,.slice A0_1 l0_1.length c0_1]) (t:=24) ?hr ?_; (case hd=>rfl); (case hg=>rfl); (case hr=>first|(go_simp; done)|(go_simp; rfl)); intro gb260 hg w4 hbox hb; have n0_:=yA (AO zB hb); have n1_:=yA (hbox); have n2_:=yA ((by rw [hg]; exact (AT zB):w.heap.size≤gb260)); have n3_:=yA ((by rw [hg]; exact (AT zB):w.heap.size≤gb260)); clear HB; have HB:=n0_; have BK260:=n1_; have GW260:=n2_; have GE260:=n3_; clear n0_ n1_ n2_ n3_; clear hb hbox hg))
 repeat (go_quiet (first|((with_reducible refine Ar (N:=2) rfl ?_); (try (refine BI (by rfl) ?_; dsimp only)); refine Ap ?hg (N:=2) ?hd (cs:= #[.int .i64 A8,.slice A0_1 l0_1.length c0_1]) (t:=24) ?hr ?_; (case hd=>rfl); (case hg=>rfl); (case hr=>first|(go_simp; done)|(go_simp; rfl)); intro gb260 hg w4 hbox hb; have n0_:=yA (AO zB hb); have n1_:=yA (hbox); have n2_:=yA ((by rw [hg]; exact (AT zB):w.heap.size≤gb260)); have n3_:=yA ((by rw [hg]; exact (AT zB):w.heap.size≤gb260)); clear HB; have HB:=n0_; have BK260:=n1_; have GW260:=n2_; have GE260:=n3_; clear n0_ n1_ n2_ n3_; clear hb hbox hg)); go_upto_region 1 with (first|((with_reducible refine Ar (N:=2) rfl ?_); (try (refine BI (by rfl) ?_; dsimp only)); refine Ap ?hg (N:=2) ?hd (cs:= #[.int .i64 A8,.slice A0_1 l0_1.length c0_1]) (t:=24) ?hr ?_; (case hd=>rfl); (case hg=>rfl); (case hr=>first|(go_simp; done)|(go_simp; rfl)); intro gb260 hg w4 hbox hb; have n0_:=yA (AO zB hb); have n1_:=yA (hbox); have n2_:=yA ((by rw [hg]; exact (AT zB):w.heap.size≤gb260)); have n3_:=yA ((by rw [hg]; exact (AT zB):w.heap.size≤gb260)); clear HB; have HB:=n0_; have BK260:=n1_; have GW260:=n2_; have GE260:=n3_; clear n0_ n1_ n2_ n3_; clear hb hbox hg)))
 (try simp only [Act.put,List.setIfInBounds_toArray,List.set_cons_zero,List.set_cons_succ])
 go_cut [21] (fun v21 wc=>∃(kq:Nat) (x21_2:Bool),v21= .bool x21_2∧Aside0 (AU.j0 kq l1 x21_2 A8 l0_1=some r)∧Aside0 (kq≤k)∧Aside0 (wc.heap[gb260]? =some (.cells #[.int .i64 A8,(.slice A0_1 l0_1.length c0_1)] 24 (0,0)))∧Aside0 (Below w.heap.size w wc))
 case first=>
  have H:=HC3.out
  clear HC3
  replace H:=Option.bind_eq_some_iff.mp H
  obtain ⟨t261,A50,H⟩:=H
  replace H:(if t261=true then (AU.j0 k l1 ((l1.length:Int) !=(l0_1.length:Int)) A8 l0_1) else (AU.j0 k l1 true A8 l0_1))=some r:=H
  have A5:=yA A50
  clear A50
  by_cases c6:t261=true
  ·subst c6
   have H1:(AU.j0 k l1 ((l1.length:Int) !=(l0_1.length:Int)) A8 l0_1)=some r:=by rw [if_pos rfl] at H; exact H
   clear H
   have H:=H1
   clear H1
   have H':=yA H
   clear H
   have hcz7_0:w4.cell? ⟨gb260,0,none⟩=some (.int .i64 A8):=(AK BK260.out 0).trans rfl
   have hcz7_1:w4.cell? ⟨gb260,1,none⟩=some (.slice A0_1 l0_1.length c0_1):=(AK BK260.out 1).trans rfl
   have hfz7_0:=AJ BK260.out 0
   have hfz7_1:=AJ BK260.out 1
   go_wp2_with (first|(go_at_call 15; (with_reducible refine (AV.calls k A8 _ _ l0_1 true _ ?side1 ?side2 A5.out).mono ?_); (case side1=>repeat (first|exact (Kd.C_below HR0_1.out HB.out)|(with_reducible refine Kd.C_alloc ?_ _)|(with_reducible refine Kd.C_drewN ?_ _)|(with_reducible refine Kd.C_drew ?_))); (case side2=>exact HC0_1.out); rintro e w8 ⟨rfl,hb⟩; have n0_:=yA (AP (g:=gb260) (o:= .cells #[.int .i64 A8,.slice A0_1 l0_1.length c0_1] 24 (0,0)) zD2 hb); have n1_:=yA (AO zC0 hb); clear BK260; clear HB; have BK260:=n0_; have HB:=n1_; clear n0_ n1_; (try clear hb); (try clear hb2); (try clear hk); (try clear hi); have hcz9_0:w8.cell? ⟨gb260,0,none⟩=some (.int .i64 A8):=(AK BK260.out 0).trans rfl; have hcz9_1:w8.cell? ⟨gb260,1,none⟩=some (.slice A0_1 l0_1.length c0_1):=(AK BK260.out 1).trans rfl; have hfz9_0:=AJ BK260.out 0; have hfz9_1:=AJ BK260.out 1))
   repeat (go_quiet (first|(go_at_call 15; (with_reducible refine (AV.calls k A8 _ _ l0_1 true _ ?side1 ?side2 A5.out).mono ?_); (case side1=>repeat (first|exact (Kd.C_below HR0_1.out HB.out)|(with_reducible refine Kd.C_alloc ?_ _)|(with_reducible refine Kd.C_drewN ?_ _)|(with_reducible refine Kd.C_drew ?_))); (case side2=>exact HC0_1.out); rintro e w8 ⟨rfl,hb⟩; have n0_:=yA (AP (g:=gb260) (o:= .cells #[.int .i64 A8,.slice A0_1 l0_1.length c0_1] 24 (0,0)) zD2 hb); have n1_:=yA (AO zC0 hb); clear BK260; clear HB; have BK260:=n0_; have HB:=n1_; clear n0_ n1_; (try clear hb); (try clear hb2); (try clear hk); (try clear hi); have hcz9_0:w8.cell? ⟨gb260,0,none⟩=some (.int .i64 A8):=(AK BK260.out 0).trans rfl; have hcz9_1:w8.cell? ⟨gb260,1,none⟩=some (.slice A0_1 l0_1.length c0_1):=(AK BK260.out 1).trans rfl; have hfz9_0:=AJ BK260.out 0; have hfz9_1:=AJ BK260.out 1; clear A5)); try go_wp2_with (first|(go_at_call 15; (with_reducible refine (AV.calls k A8 _ _ l0_1 true _ ?side1 ?side2 A5.out).mono ?_); (case side1=>repeat (first|exact (Kd.C_below HR0_1.out HB.out)|(with_reducible refine Kd.C_alloc ?_ _)|(with_reducible refine Kd.C_drewN ?_ _)|(with_reducible refine Kd.C_drew ?_))); (case side2=>exact HC0_1.out); rintro e w8 ⟨rfl,hb⟩; have n0_:=yA (AP (g:=gb260) (o:= .cells #[.int .i64 A8,.slice A0_1 l0_1.length c0_1] 24 (0,0)) zD2 hb); have n1_:=yA (AO zC0 hb); clear BK260; clear HB; have BK260:=n0_; have HB:=n1_; clear n0_ n1_; (try clear hb); (try clear hb2); (try clear hk); (try clear hi); have hcz9_0:w8.cell? ⟨gb260,0,none⟩=some (.int .i64 A8):=(AK BK260.out 0).trans rfl; have hcz9_1:w8.cell? ⟨gb260,1,none⟩=some (.slice A0_1 l0_1.length c0_1):=(AK BK260.out 1).trans rfl; have hfz9_0:=AJ BK260.out 0; have hfz9_1:=AJ BK260.out 1; clear A5)))
   go_meet
   case rel=>exact ⟨_,(((l1.length:Int) !=(l0_1.length:Int))),zG,H',⟨by first|omega|exact Nat.le_refl _⟩,⟨by (with_reducible repeat (first|refine AG ?_ _|refine AH ?_|refine AF ?_ _)); exact BK260.out⟩,⟨by repeat (first|(with_reducible first|exact HB.out|apply AE|apply AC|apply AD|refine AI ?_ GE260.out)|exact HB.out)⟩⟩
  ·replace c6:=Bool.eq_false_iff.mpr c6
   subst c6
   have H1:(AU.j0 k l1 true A8 l0_1)=some r:=by rw [if_neg (show ¬(false=true) by decide)] at H; exact H
   clear H
   have H:=H1
   clear H1
   have H':=yA H
   clear H
   have hcz10_0:w4.cell? ⟨gb260,0,none⟩=some (.int .i64 A8):=(AK BK260.out 0).trans rfl
   have hcz10_1:w4.cell? ⟨gb260,1,none⟩=some (.slice A0_1 l0_1.length c0_1):=(AK BK260.out 1).trans rfl
   have hfz10_0:=AJ BK260.out 0
   have hfz10_1:=AJ BK260.out 1
   go_wp2_with (first|(go_at_call 15; (with_reducible refine (AV.calls k A8 _ _ l0_1 false _ ?side1 ?side2 A5.out).mono ?_); (case side1=>repeat (first|exact (Kd.C_below HR0_1.out HB.out)|(with_reducible refine Kd.C_alloc ?_ _)|(with_reducible refine Kd.C_drewN ?_ _)|(with_reducible refine Kd.C_drew ?_))); (case side2=>exact HC0_1.out); rintro e w11 ⟨rfl,hb⟩; have n0_:=yA (AP (g:=gb260) (o:= .cells #[.int .i64 A8,.slice A0_1 l0_1.length c0_1] 24 (0,0)) zD2 hb); have n1_:=yA (AO zC0 hb); clear BK260; clear HB; have BK260:=n0_; have HB:=n1_; clear n0_ n1_; (try clear hb); (try clear hb2); (try clear hk); (try clear hi)))
   repeat (go_quiet (first|(go_at_call 15; (with_reducible refine (AV.calls k A8 _ _ l0_1 false _ ?side1 ?side2 A5.out).mono ?_); (case side1=>repeat (first|exact (Kd.C_below HR0_1.out HB.out)|(with_reducible refine Kd.C_alloc ?_ _)|(with_reducible refine Kd.C_drewN ?_ _)|(with_reducible refine Kd.C_drew ?_))); (case side2=>exact HC0_1.out); rintro e w11 ⟨rfl,hb⟩; have n0_:=yA (AP (g:=gb260) (o:= .cells #[.int .i64 A8,.slice A0_1 l0_1.length c0_1] 24 (0,0)) zD2 hb); have n1_:=yA (AO zC0 hb); clear BK260; clear HB; have BK260:=n0_; have HB:=n1_; clear n0_ n1_; (try clear hb); (try clear hb2); (try clear hk); (try clear hi); clear A5)); try go_wp2_with (first|(go_at_call 15; (with_reducible refine (AV.calls k A8 _ _ l0_1 false _ ?side1 ?side2 A5.out).mono ?_); (case side1=>repeat (first|exact (Kd.C_below HR0_1.out HB.out)|(with_reducible refine Kd.C_alloc ?_ _)|(with_reducible refine Kd.C_drewN ?_ _)|(with_reducible refine Kd.C_drew ?_))); (case side2=>exact HC0_1.out); rintro e w11 ⟨rfl,hb⟩; have n0_:=yA (AP (g:=gb260) (o:= .cells #[.int .i64 A8,.slice A0_1 l0_1.length c0_1] 24 (0,0)) zD2 hb); have n1_:=yA (AO zC0 hb); clear BK260; clear HB; have BK260:=n0_; have HB:=n1_; clear n0_ n1_; (try clear hb); (try clear hb2); (try clear hk); (try clear hi); clear A5)))
   go_meet
   case rel=>exact ⟨_,(true),zG,H',⟨by first|omega|exact Nat.le_refl _⟩,⟨by (with_reducible repeat (first|refine AG ?_ _|refine AH ?_|refine AF ?_ _)); exact BK260.out⟩,⟨by repeat (first|(with_reducible first|exact HB.out|apply AE|apply AC|apply AD|refine AI ?_ GE260.out)|exact HB.out)⟩⟩
 case rest =>
  clear HC3
  try clear c1
  try clear p2
  try clear c6
  try clear hcz10_0
  try clear hcz10_1
  try clear hcz7_0
  try clear hcz7_1
  try clear hcz9_0
  try clear hcz9_1
  try clear hfz10_0
  try clear hfz10_1
  try clear hfz7_0
  try clear hfz7_1
  try clear hfz9_0
  try clear hfz9_1
  obtain ⟨kq,x21_2,rfl,HA,HJ2,BK260,HB⟩:=hcut
  cases kq with
  |zero=>exact absurd HA.out (by simp [AU.j0])
  | succ kj2=>
   have H:=HA.out
   clear HA
   simp only [AU.j0] at H
   by_cases c12:x21_2=true
   ·subst c12
    have H1:(some 1)=some r:=by rw [if_pos rfl] at H; exact H
    clear H
    have H:=H1
    clear H1
    obtain rfl:=Option.some.inj H
    go_wp2
    repeat (go_quiet (fail); try go_wp2)
    go_ret
    exact ⟨by first|rfl|(simp [AZ,AY]<;>rfl)|(simp [*,AZ,AY]<;>rfl),by repeat (first|(with_reducible first|exact HB.out|apply AE|apply AC|apply AD|refine AI ?_ GE260.out)|exact HB.out)⟩
   ·replace c12 :=Bool.eq_false_iff.mpr c12
    subst c12
    have H1:(AU.l0 kj2 l1 0 A8 l0_1)=some r:=by rw [if_neg (show ¬(false=true) by decide)] at H; exact H
    clear H
    have H:=H1
    clear H1
    have H':=yA H
    clear H
    go_wp2
    repeat (go_quiet (fail); try go_wp2)
    go_loopg [5] kj2 (fun kq v5 w'=>∃(x5_2:Int),v5= .int .i64 x5_2∧Aside0 (AU.l0 kq l1 x5_2 A8 l0_1=some r)∧Aside0 (kq≤kj2)∧Aside0 (w'.heap[gb260]? =some (.cells #[.int .i64 A8,(.slice A0_1 l0_1.length c0_1)] 24 (0,0)))∧Aside0 (Below w.heap.size w w'))
    case atStart=>exact ⟨(0),zG,H',⟨Nat.le_refl _⟩,⟨by (with_reducible repeat (first|refine AG ?_ _|refine AH ?_|refine AF ?_ _)); exact BK260.out⟩,⟨by repeat (first|(with_reducible first|exact HB.out|apply AE|apply AC|apply AD|refine AI ?_ GE260.out)|exact HB.out)⟩⟩
    case round=>
     clear H'
     try clear c1
     try clear p2
     try clear c6
     try clear c12
     try clear hcz10_0
     try clear hcz10_1
     try clear hcz7_0
     try clear hcz7_1
     try clear hcz9_0
     try clear hcz9_1
     try clear hfz10_0
     try clear hfz10_1
     try clear hfz7_0
     try clear hfz7_1
     try clear hfz9_0
     try clear hfz9_1
     try clear p2
     obtain ⟨x5_2,rfl,HA,HK2,BK260,HB⟩:=hrel
     cases gk with
     |zero=>exact absurd HA.out (by simp [AU.l0])
     | succ k2 =>
      have H:=HA.out
      clear HA
      simp only [AU.l0] at H
      by_cases c13:x5_2<(l1.length:Int)
      ·rw [if_pos c13] at H
       have c13b0:decide (x5_2<(l1.length:Int))=true:=decide_eq_true c13
       clear c13
       by_cases c14:0≤x5_2
       ·rw [if_pos c14] at H
        have c14b0:decide (0≤x5_2)=true:=decide_eq_true c14
        clear c14
        by_cases c15:((Aj l1 x5_2).f0)<0
        ·rw [if_pos c15] at H
         have c15b0:decide (((Aj l1 x5_2).f0)<0)=true:=decide_eq_true c15
         clear c15
         obtain rfl:=Option.some.inj H
         have p262:0≤(x5_2:Int):=yD
         have q262:x5_2<(l1.length:Int):=yD
         obtain ⟨ad262,e262,hx262_0,hx262_1⟩:=BE HR1.out x5_2 p262 q262
         cases e262
         replace hx262_0:=yC HB.out hx262_0
         replace hx262_1:=yC HB.out hx262_1
         replace p262:=eq_true p262
         replace q262:=eq_true q262
         go_wp2
         repeat (go_quiet (fail); try go_wp2)
         go_ret
         exact ⟨by first|rfl|(simp [AZ,AY]<;>rfl)|(simp [*,AZ,AY]<;>rfl),by repeat (first|(with_reducible first|exact HB.out|apply AE|apply AC|apply AD|refine AI ?_ GE260.out)|exact HB.out)⟩
        ·rw [if_neg c15] at H
         have c15b0:decide (((Aj l1 x5_2).f0)<0)=false:=decide_eq_false c15
         clear c15
         by_cases c16:((Aj l1 x5_2).f0)≥A8
         ·rw [if_pos c16] at H
          have c16b0:decide (A8≤((Aj l1 x5_2).f0))=true:=decide_eq_true c16
          clear c16
          obtain rfl:=Option.some.inj H
          have p262:0≤(x5_2:Int):=yD
          have q262:x5_2<(l1.length:Int):=yD
          obtain ⟨ad262,e262,hx262_0,hx262_1⟩:=BE HR1.out x5_2 p262 q262
          cases e262
          replace hx262_0:=yC HB.out hx262_0
          replace hx262_1:=yC HB.out hx262_1
          replace p262:=eq_true p262
          replace q262:=eq_true q262
          have p263:0≤(x5_2:Int):=yD
          have q263:x5_2<(l1.length:Int):=yD
          obtain ⟨ad263,e263,hx263_0,hx263_1⟩:=BE HR1.out x5_2 p263 q263
          obtain rfl:ad262=ad263:=(by injection e263)
          replace hx263_0:=yC HB.out hx263_0
          replace hx263_1:=yC HB.out hx263_1
          replace p263:=eq_true p263
          replace q263:=eq_true q263
          have hcz17_0:wr.cell? ⟨gb260,0,none⟩=some (.int .i64 A8):=(AK BK260.out 0).trans rfl
          have hcz17_1:wr.cell? ⟨gb260,1,none⟩=some (.slice A0_1 l0_1.length c0_1):=(AK BK260.out 1).trans rfl
          have hfz17_0:=AJ BK260.out 0
          have hfz17_1:=AJ BK260.out 1
          go_wp2
          repeat (go_quiet (fail); try go_wp2)
          go_ret
          exact ⟨by first|rfl|(simp [AZ,AY]<;>rfl)|(simp [*,AZ,AY]<;>rfl),by repeat (first|(with_reducible first|exact HB.out|apply AE|apply AC|apply AD|refine AI ?_ GE260.out)|exact HB.out)⟩
         ·rw [if_neg c16] at H
          have c16b0:decide (A8≤((Aj l1 x5_2).f0))=false:=decide_eq_false c16
          clear c16
          by_cases c18:((Aj l1 x5_2).f1)<0
          ·rw [if_pos c18] at H
           have c18b0:decide (((Aj l1 x5_2).f1)<0)=true:=decide_eq_true c18
           clear c18
           obtain rfl:=Option.some.inj H
           have p262:0≤(x5_2:Int):=yD
           have q262:x5_2<(l1.length:Int):=yD
           obtain ⟨ad262,e262,hx262_0,hx262_1⟩:=BE HR1.out x5_2 p262 q262
           cases e262
           replace hx262_0:=yC HB.out hx262_0
           replace hx262_1:=yC HB.out hx262_1
           replace p262:=eq_true p262
           replace q262:=eq_true q262
           have p263:0≤(x5_2:Int):=yD
           have q263:x5_2<(l1.length:Int):=yD
           obtain ⟨ad263,e263,hx263_0,hx263_1⟩:=BE HR1.out x5_2 p263 q263
           obtain rfl:ad262=ad263:=(by injection e263)
           replace hx263_0:=yC HB.out hx263_0
           replace hx263_1:=yC HB.out hx263_1
           replace p263:=eq_true p263
           replace q263:=eq_true q263
           have hcz19_0:wr.cell? ⟨gb260,0,none⟩=some (.int .i64 A8):=(AK BK260.out 0).trans rfl
           have hcz19_1:wr.cell? ⟨gb260,1,none⟩=some (.slice A0_1 l0_1.length c0_1):=(AK BK260.out 1).trans rfl
           have hfz19_0:=AJ BK260.out 0
           have hfz19_1:=AJ BK260.out 1
           have p264:0≤(x5_2:Int):=yD
           have q264:x5_2<(l1.length:Int):=yD
           obtain ⟨ad264,e264,hx264_0,hx264_1⟩:=BE HR1.out x5_2 p264 q264
           obtain rfl:ad262=ad264:=(by injection e264)
           replace hx264_0:=yC HB.out hx264_0
           replace hx264_1:=yC HB.out hx264_1
           replace p264:=eq_true p264
           replace q264:=eq_true q264
           go_wp2
           repeat (go_quiet (fail); try go_wp2)
           go_ret
           exact ⟨by first|rfl|(simp [AZ,AY]<;>rfl)|(simp [*,AZ,AY]<;>rfl),by repeat (first|(with_reducible first|exact HB.out|apply AE|apply AC|apply AD|refine AI ?_ GE260.out)|exact HB.out)⟩
          ·rw [if_neg c18] at H
           have c18b0:decide (((Aj l1 x5_2).f1)<0)=false:=decide_eq_false c18
           clear c18
           by_cases c20:((Aj l1 x5_2).f1)>1000000
           ·rw [if_pos c20] at H
            have c20b0:decide (1000000<((Aj l1 x5_2).f1))=true:=decide_eq_true c20
            clear c20
            obtain rfl:=Option.some.inj H
            have p262:0≤(x5_2:Int):=yD
            have q262:x5_2<(l1.length:Int):=yD
            obtain ⟨ad262,e262,hx262_0,hx262_1⟩:=BE HR1.out x5_2 p262 q262
            cases e262
            replace hx262_0:=yC HB.out hx262_0
            replace hx262_1:=yC HB.out hx262_1
            replace p262:=eq_true p262
            replace q262:=eq_true q262
            have p263:0≤(x5_2:Int):=yD
            have q263:x5_2<(l1.length:Int):=yD
            obtain ⟨ad263,e263,hx263_0,hx263_1⟩:=BE HR1.out x5_2 p263 q263
            obtain rfl:ad262=ad263:=(by injection e263)
            replace hx263_0:=yC HB.out hx263_0
            replace hx263_1:=yC HB.out hx263_1
            replace p263:=eq_true p263
            replace q263:=eq_true q263
            have hcz21_0:wr.cell? ⟨gb260,0,none⟩=some (.int .i64 A8):=(AK BK260.out 0).trans rfl
            have hcz21_1:wr.cell? ⟨gb260,1,none⟩=some (.slice A0_1 l0_1.length c0_1):=(AK BK260.out 1).trans rfl
            have hfz21_0:=AJ BK260.out 0
            have hfz21_1:=AJ BK260.out 1
            have p264:0≤(x5_2:Int):=yD
            have q264:x5_2<(l1.length:Int):=yD
            obtain ⟨ad264,e264,hx264_0,hx264_1⟩:=BE HR1.out x5_2 p264 q264
            obtain rfl:ad262=ad264:=(by injection e264)
            replace hx264_0:=yC HB.out hx264_0
            replace hx264_1:=yC HB.out hx264_1
            replace p264:=eq_true p264
            replace q264:=eq_true q264
            have p265:0≤(x5_2:Int):=yD
            have q265:x5_2<(l1.length:Int):=yD
            obtain ⟨ad265,e265,hx265_0,hx265_1⟩:=BE HR1.out x5_2 p265 q265
            obtain rfl:ad262=ad265:=(by injection e265)
            replace hx265_0:=yC HB.out hx265_0
            replace hx265_1:=yC HB.out hx265_1
            replace p265:=eq_true p265
            replace q265:=eq_true q265
            go_wp2
            repeat (go_quiet (fail); try go_wp2)
            go_ret
            exact ⟨by first|rfl|(simp [AZ,AY]<;>rfl)|(simp [*,AZ,AY]<;>rfl),by repeat (first|(with_reducible first|exact HB.out|apply AE|apply AC|apply AD|refine AI ?_ GE260.out)|exact HB.out)⟩
           ·rw [if_neg c20] at H
            have c20b0:decide (1000000<((Aj l1 x5_2).f1))=false:=decide_eq_false c20
            clear c20
            have H':=yA H
            clear H
            have p262:0≤(x5_2:Int):=yD
            have q262:x5_2<(l1.length:Int):=yD
            obtain ⟨ad262,e262,hx262_0,hx262_1⟩:=BE HR1.out x5_2 p262 q262
            cases e262
            replace hx262_0:=yC HB.out hx262_0
            replace hx262_1:=yC HB.out hx262_1
            replace p262:=eq_true p262
            replace q262:=eq_true q262
            have p263:0≤(x5_2:Int):=yD
            have q263:x5_2<(l1.length:Int):=yD
            obtain ⟨ad263,e263,hx263_0,hx263_1⟩:=BE HR1.out x5_2 p263 q263
            obtain rfl:ad262=ad263:=(by injection e263)
            replace hx263_0:=yC HB.out hx263_0
            replace hx263_1:=yC HB.out hx263_1
            replace p263:=eq_true p263
            replace q263:=eq_true q263
            have hcz22_0:wr.cell? ⟨gb260,0,none⟩=some (.int .i64 A8):=(AK BK260.out 0).trans rfl
            have hcz22_1:wr.cell? ⟨gb260,1,none⟩=some (.slice A0_1 l0_1.length c0_1):=(AK BK260.out 1).trans rfl
            have hfz22_0:=AJ BK260.out 0
            have hfz22_1:=AJ BK260.out 1
            have p264:0≤(x5_2:Int):=yD
            have q264:x5_2<(l1.length:Int):=yD
            obtain ⟨ad264,e264,hx264_0,hx264_1⟩:=BE HR1.out x5_2 p264 q264
            obtain rfl:ad262=ad264:=(by injection e264)
            replace hx264_0:=yC HB.out hx264_0
            replace hx264_1:=yC HB.out hx264_1
            replace p264:=eq_true p264
            replace q264:=eq_true q264
            have p265:0≤(x5_2:Int):=yD
            have q265:x5_2<(l1.length:Int):=yD
            obtain ⟨ad265,e265,hx265_0,hx265_1⟩:=BE HR1.out x5_2 p265 q265
            obtain rfl:ad262=ad265:=(by injection e265)
            replace hx265_0:=yC HB.out hx265_0
            replace hx265_1:=yC HB.out hx265_1
            replace p265:=eq_true p265
            replace q265:=eq_true q265
            go_wp2
            repeat (go_quiet (fail); try go_wp2)
            go_roundg k2
            case measure=>have:=HJ2.out; have:=HK2.out; omega
            case rel=>exact ⟨(wrap64 (x5_2+1)),zG,H',⟨by have:=HJ2.out; have:=HK2.out; omega⟩,⟨by (with_reducible repeat (first|refine AG ?_ _|refine AH ?_|refine AF ?_ _)); exact BK260.out⟩,⟨by repeat (first|(with_reducible first|exact HB.out|apply AE|apply AC|apply AD|refine AI ?_ GE260.out)|exact HB.out)⟩⟩
       ·rw [if_neg c14] at H
        exact absurd H zA6
      ·rw [if_neg c13] at H
       have c13b0:decide (x5_2<(l1.length:Int))=false:=decide_eq_false c13
       clear c13
       have H':=yA H
       clear H
       go_wp2
       repeat (go_quiet (fail); try go_wp2)
       go_loopg [6] k2 (fun kq v6 w'=>∃(x6_3:Int),v6= .int .i64 x6_3∧Aside0 (AU.l1 kq l1 x6_3 A8 l0_1=some r)∧Aside0 (kq≤k2)∧Aside0 (w'.heap[gb260]? =some (.cells #[.int .i64 A8,(.slice A0_1 l0_1.length c0_1)] 24 (0,0)))∧Aside0 (Below w.heap.size w w'))
       case atStart=>exact ⟨(0),zG,H',⟨Nat.le_refl _⟩,⟨by (with_reducible repeat (first|refine AG ?_ _|refine AH ?_|refine AF ?_ _)); exact BK260.out⟩,⟨by repeat (first|(with_reducible first|exact HB.out|apply AE|apply AC|apply AD|refine AI ?_ GE260.out)|exact HB.out)⟩⟩
       case round=>
        clear H'
        try clear c1
        try clear c2
        try clear p2
        try clear q2
        try clear hx2
        try clear c6
        try clear p6
        try clear c12
        try clear c13
        try clear c13b0
        try clear c14
        try clear c14b0
        try clear c15
        try clear c15b0
        try clear c16
        try clear c16b0
        try clear c17
        try clear c18
        try clear c18b0
        try clear c20
        try clear c20b0
        try clear hcz10_0
        try clear hcz10_1
        try clear hcz17_0
        try clear hcz17_1
        try clear hcz19_0
        try clear hcz19_1
        try clear hcz21_0
        try clear hcz21_1
        try clear hcz22_0
        try clear hcz22_1
        try clear hcz7_0
        try clear hcz7_1
        try clear hcz9_0
        try clear hcz9_1
        try clear hfz10_0
        try clear hfz10_1
        try clear hfz17_0
        try clear hfz17_1
        try clear hfz19_0
        try clear hfz19_1
        try clear hfz21_0
        try clear hfz21_1
        try clear hfz22_0
        try clear hfz22_1
        try clear hfz7_0
        try clear hfz7_1
        try clear hfz9_0
        try clear hfz9_1
        try clear hx262_0
        try clear hx262_1
        try clear hx263_0
        try clear hx263_1
        try clear hx264_0
        try clear hx264_1
        try clear hx265_0
        try clear hx265_1
        try clear p2
        try clear p262
        try clear p263
        try clear p264
        try clear p265
        try clear q262
        try clear q263
        try clear q264
        try clear q265
        obtain ⟨x6_3,rfl,HA,HK3,BK260,HB⟩:=hrel
        cases gk with
        |zero=>exact absurd HA.out (by simp [AU.l1])
        | succ k3 =>
         have H:=HA.out
         clear HA
         simp only [AU.l1] at H
         by_cases c23:x6_3<(l1.length:Int)
         ·rw [if_pos c23] at H
          have c23b0:decide (x6_3<(l1.length:Int))=true:=decide_eq_true c23
          clear c23
          have H':=yA H
          clear H
          go_wp2
          repeat (go_quiet (fail); try go_wp2)
          go_loopg [7] k3 (fun kq v7 w'=>∃(x7_4:Int),v7= .int .i64 x7_4∧Aside0 (AU.l2 kq l1 x6_3 x7_4 A8 l0_1=some r)∧Aside0 (kq≤k3)∧Aside0 (w'.heap[gb260]? =some (.cells #[.int .i64 A8,(.slice A0_1 l0_1.length c0_1)] 24 (0,0)))∧Aside0 (Below w.heap.size w w'))
          case atStart=>exact ⟨(0),zG,H',⟨Nat.le_refl _⟩,⟨by (with_reducible repeat (first|refine AG ?_ _|refine AH ?_|refine AF ?_ _)); exact BK260.out⟩,⟨by repeat (first|(with_reducible first|exact HB.out|apply AE|apply AC|apply AD|refine AI ?_ GE260.out)|exact HB.out)⟩⟩
          case round=>
           clear H'
           try clear c1
           try clear c2
           try clear p2
           try clear q2
           try clear hx2
           try clear c6
           try clear p6
           try clear c12
           try clear c13
           try clear c13b0
           try clear c14
           try clear c14b0
           try clear c15
           try clear c15b0
           try clear c16
           try clear c16b0
           try clear c17
           try clear c18
           try clear c18b0
           try clear c20
           try clear c20b0
           try clear c23
           try clear c23b0
           try clear hcz10_0
           try clear hcz10_1
           try clear hcz17_0
           try clear hcz17_1
           try clear hcz19_0
           try clear hcz19_1
           try clear hcz21_0
           try clear hcz21_1
           try clear hcz22_0
           try clear hcz22_1
           try clear hcz7_0
           try clear hcz7_1
           try clear hcz9_0
           try clear hcz9_1
           try clear hfz10_0
           try clear hfz10_1
           try clear hfz17_0
           try clear hfz17_1
           try clear hfz19_0
           try clear hfz19_1
           try clear hfz21_0
           try clear hfz21_1
           try clear hfz22_0
           try clear hfz22_1
           try clear hfz7_0
           try clear hfz7_1
           try clear hfz9_0
           try clear hfz9_1
           try clear hx262_0
           try clear hx262_1
           try clear hx263_0
           try clear hx263_1
           try clear hx264_0
           try clear hx264_1
           try clear hx265_0
           try clear hx265_1
           try clear p2
           try clear p262
           try clear p263
           try clear p264
           try clear p265
           try clear p6
           try clear q2
           try clear q262
           try clear q263
           try clear q264
           try clear q265
           obtain ⟨x7_4,rfl,HA,HK4,BK260,HB⟩:=hrel
           cases gk with
           |zero=>exact absurd HA.out (by simp [AU.l2])
           | succ k4 =>
            have H:=HA.out
            clear HA
            simp only [AU.l2] at H
            by_cases c24:x7_4<x6_3
            ·rw [if_pos c24] at H
             have c24b0:decide (x7_4<x6_3)=true:=decide_eq_true c24
             clear c24
             by_cases c25:0≤x6_3
             ·rw [if_pos c25] at H
              have c25b0:decide (0≤x6_3)=true:=decide_eq_true c25
              clear c25
              by_cases c26:x6_3<(l1.length:Int)
              ·rw [if_pos c26] at H
               have c26b0:decide (x6_3<(l1.length:Int))=true:=decide_eq_true c26
               clear c26
               by_cases c27:0≤x7_4
               ·rw [if_pos c27] at H
                have c27b0:decide (0≤x7_4)=true:=decide_eq_true c27
                clear c27
                by_cases c28:x7_4<(l1.length:Int)
                ·rw [if_pos c28] at H
                 have c28b0:decide (x7_4<(l1.length:Int))=true:=decide_eq_true c28
                 clear c28
                 by_cases c29:((Aj l1 x6_3).f0)=((Aj l1 x7_4).f0)
                 ·rw [if_pos c29] at H
                  have c29b0:(((Aj l1 x6_3).f0)==((Aj l1 x7_4).f0))=true:=beq_iff_eq.mpr c29
                  have c29b1:(((Aj l1 x6_3).f0) !=((Aj l1 x7_4).f0))=false:=bne_eq_false_iff_eq.mpr c29
                  clear c29
                  by_cases c30:x7_4<(l0_1.length:Int)
                  ·rw [if_pos c30] at H
                   have c30b0:decide (x7_4<(l0_1.length:Int))=true:=decide_eq_true c30
                   clear c30
                   by_cases c31:((Aj l1 x6_3).f1)<(wrap64 (((Aj l1 x7_4).f1)+((AL l0_1 x7_4).f1)))
                   ·rw [if_pos c31] at H
                    have c31b0:decide (((Aj l1 x6_3).f1)<(wrap64 (((Aj l1 x7_4).f1)+((AL l0_1 x7_4).f1))))=true:=decide_eq_true c31
                    clear c31
                    by_cases c32:x6_3<(l0_1.length:Int)
                    ·rw [if_pos c32] at H
                     have c32b0:decide (x6_3<(l0_1.length:Int))=true:=decide_eq_true c32
                     clear c32
                     by_cases c33:((Aj l1 x7_4).f1)<(wrap64 (((Aj l1 x6_3).f1)+((AL l0_1 x6_3).f1)))
                     ·rw [if_pos c33] at H
                      have c33b0:decide (((Aj l1 x7_4).f1)<(wrap64 (((Aj l1 x6_3).f1)+((AL l0_1 x6_3).f1))))=true:=decide_eq_true c33
                      clear c33
                      obtain rfl:=Option.some.inj H
                      have p266:0≤(x6_3:Int):=yD
                      have q266:x6_3<(l1.length:Int):=yD
                      obtain ⟨ad266,e266,hx266_0,hx266_1⟩:=BE HR1.out x6_3 p266 q266
                      cases e266
                      replace hx266_0:=yC HB.out hx266_0
                      replace hx266_1:=yC HB.out hx266_1
                      replace p266:=eq_true p266
                      replace q266:=eq_true q266
                      have p267:0≤(x7_4:Int):=yD
                      have q267:x7_4<(l1.length:Int):=yD
                      obtain ⟨ad267,e267,hx267_0,hx267_1⟩:=BE HR1.out x7_4 p267 q267
                      obtain rfl:ad266=ad267:=(by injection e267)
                      replace hx267_0:=yC HB.out hx267_0
                      replace hx267_1:=yC HB.out hx267_1
                      replace p267:=eq_true p267
                      replace q267:=eq_true q267
                      have p268:0≤(x6_3:Int):=yD
                      have q268:x6_3<(l1.length:Int):=yD
                      obtain ⟨ad268,e268,hx268_0,hx268_1⟩:=BE HR1.out x6_3 p268 q268
                      obtain rfl:ad266=ad268:=(by injection e268)
                      replace hx268_0:=yC HB.out hx268_0
                      replace hx268_1:=yC HB.out hx268_1
                      replace p268:=eq_true p268
                      replace q268:=eq_true q268
                      have p269:0≤(x7_4:Int):=yD
                      have q269:x7_4<(l1.length:Int):=yD
                      obtain ⟨ad269,e269,hx269_0,hx269_1⟩:=BE HR1.out x7_4 p269 q269
                      obtain rfl:ad266=ad269:=(by injection e269)
                      replace hx269_0:=yC HB.out hx269_0
                      replace hx269_1:=yC HB.out hx269_1
                      replace p269:=eq_true p269
                      replace q269:=eq_true q269
                      have hcz34_0:wr.cell? ⟨gb260,0,none⟩=some (.int .i64 A8):=(AK BK260.out 0).trans rfl
                      have hcz34_1:wr.cell? ⟨gb260,1,none⟩=some (.slice A0_1 l0_1.length c0_1):=(AK BK260.out 1).trans rfl
                      have hfz34_0:=AJ BK260.out 0
                      have hfz34_1:=AJ BK260.out 1
                      have p270:0≤(x7_4:Int):=yD
                      have q270:x7_4<(l0_1.length:Int):=yD
                      obtain ⟨ad270,A270_3,c270_3,e270,hx270_0,hx270_1,hx270_2,hx270_3,hl270_3,hi270_3⟩:=Bb HR0_1.out x7_4 p270 q270
                      cases e270
                      replace hx270_0:=yC HB.out hx270_0
                      replace hx270_1:=yC HB.out hx270_1
                      replace hx270_2:=yC HB.out hx270_2
                      replace hx270_3:=yC HB.out hx270_3
                      have HR270_3:=yA hi270_3
                      have HC270_3:=yA hl270_3
                      clear hi270_3 hl270_3
                      replace p270:=eq_true p270
                      replace q270:=eq_true q270
                      have p271:0≤(x7_4:Int):=yD
                      have q271:x7_4<(l1.length:Int):=yD
                      obtain ⟨ad271,e271,hx271_0,hx271_1⟩:=BE HR1.out x7_4 p271 q271
                      obtain rfl:ad266=ad271:=(by injection e271)
                      replace hx271_0:=yC HB.out hx271_0
                      replace hx271_1:=yC HB.out hx271_1
                      replace p271:=eq_true p271
                      replace q271:=eq_true q271
                      have p272:0≤(x6_3:Int):=yD
                      have q272:x6_3<(l1.length:Int):=yD
                      obtain ⟨ad272,e272,hx272_0,hx272_1⟩:=BE HR1.out x6_3 p272 q272
                      obtain rfl:ad266=ad272:=(by injection e272)
                      replace hx272_0:=yC HB.out hx272_0
                      replace hx272_1:=yC HB.out hx272_1
                      replace p272:=eq_true p272
                      replace q272:=eq_true q272
                      have p273:0≤(x6_3:Int):=yD
                      have q273:x6_3<(l0_1.length:Int):=yD
                      obtain ⟨ad273,A273_3,c273_3,e273,hx273_0,hx273_1,hx273_2,hx273_3,hl273_3,hi273_3⟩:=Bb HR0_1.out x6_3 p273 q273
                      obtain rfl:ad270=ad273:=(by injection e273)
                      replace hx273_0:=yC HB.out hx273_0
                      replace hx273_1:=yC HB.out hx273_1
                      replace hx273_2:=yC HB.out hx273_2
                      replace hx273_3:=yC HB.out hx273_3
                      have HR273_3:=yA hi273_3
                      have HC273_3:=yA hl273_3
                      clear hi273_3 hl273_3
                      replace p273:=eq_true p273
                      replace q273:=eq_true q273
                      go_wp2
                      repeat (go_quiet (fail); try go_wp2)
                      go_ret
                      exact ⟨by first|rfl|(simp [AZ,AY]<;>rfl)|(simp [*,AZ,AY]<;>rfl),by repeat (first|(with_reducible first|exact HB.out|apply AE|apply AC|apply AD|refine AI ?_ GE260.out)|exact HB.out)⟩
                     ·rw [if_neg c33] at H
                      have c33b0:decide (((Aj l1 x7_4).f1)<(wrap64 (((Aj l1 x6_3).f1)+((AL l0_1 x6_3).f1))))=false:=decide_eq_false c33
                      clear c33
                      have H':=yA H
                      clear H
                      have p266:0≤(x6_3:Int):=yD
                      have q266:x6_3<(l1.length:Int):=yD
                      obtain ⟨ad266,e266,hx266_0,hx266_1⟩:=BE HR1.out x6_3 p266 q266
                      cases e266
                      replace hx266_0:=yC HB.out hx266_0
                      replace hx266_1:=yC HB.out hx266_1
                      replace p266:=eq_true p266
                      replace q266:=eq_true q266
                      have p267:0≤(x7_4:Int):=yD
                      have q267:x7_4<(l1.length:Int):=yD
                      obtain ⟨ad267,e267,hx267_0,hx267_1⟩:=BE HR1.out x7_4 p267 q267
                      obtain rfl:ad266=ad267:=(by injection e267)
                      replace hx267_0:=yC HB.out hx267_0
                      replace hx267_1:=yC HB.out hx267_1
                      replace p267:=eq_true p267
                      replace q267:=eq_true q267
                      have p268:0≤(x6_3:Int):=yD
                      have q268:x6_3<(l1.length:Int):=yD
                      obtain ⟨ad268,e268,hx268_0,hx268_1⟩:=BE HR1.out x6_3 p268 q268
                      obtain rfl:ad266=ad268:=(by injection e268)
                      replace hx268_0:=yC HB.out hx268_0
                      replace hx268_1:=yC HB.out hx268_1
                      replace p268:=eq_true p268
                      replace q268:=eq_true q268
                      have p269:0≤(x7_4:Int):=yD
                      have q269:x7_4<(l1.length:Int):=yD
                      obtain ⟨ad269,e269,hx269_0,hx269_1⟩:=BE HR1.out x7_4 p269 q269
                      obtain rfl:ad266=ad269:=(by injection e269)
                      replace hx269_0:=yC HB.out hx269_0
                      replace hx269_1:=yC HB.out hx269_1
                      replace p269:=eq_true p269
                      replace q269:=eq_true q269
                      have hcz35_0:wr.cell? ⟨gb260,0,none⟩=some (.int .i64 A8):=(AK BK260.out 0).trans rfl
                      have hcz35_1:wr.cell? ⟨gb260,1,none⟩=some (.slice A0_1 l0_1.length c0_1):=(AK BK260.out 1).trans rfl
                      have hfz35_0:=AJ BK260.out 0
                      have hfz35_1:=AJ BK260.out 1
                      have p270:0≤(x7_4:Int):=yD
                      have q270:x7_4<(l0_1.length:Int):=yD
                      obtain ⟨ad270,A270_3,c270_3,e270,hx270_0,hx270_1,hx270_2,hx270_3,hl270_3,hi270_3⟩:=Bb HR0_1.out x7_4 p270 q270
                      cases e270
                      replace hx270_0:=yC HB.out hx270_0
                      replace hx270_1:=yC HB.out hx270_1
                      replace hx270_2:=yC HB.out hx270_2
                      replace hx270_3:=yC HB.out hx270_3
                      have HR270_3:=yA hi270_3
                      have HC270_3:=yA hl270_3
                      clear hi270_3 hl270_3
                      replace p270:=eq_true p270
                      replace q270:=eq_true q270
                      have p271:0≤(x7_4:Int):=yD
                      have q271:x7_4<(l1.length:Int):=yD
                      obtain ⟨ad271,e271,hx271_0,hx271_1⟩:=BE HR1.out x7_4 p271 q271
                      obtain rfl:ad266=ad271:=(by injection e271)
                      replace hx271_0:=yC HB.out hx271_0
                      replace hx271_1:=yC HB.out hx271_1
                      replace p271:=eq_true p271
                      replace q271:=eq_true q271
                      have p272:0≤(x6_3:Int):=yD
                      have q272:x6_3<(l1.length:Int):=yD
                      obtain ⟨ad272,e272,hx272_0,hx272_1⟩:=BE HR1.out x6_3 p272 q272
                      obtain rfl:ad266=ad272:=(by injection e272)
                      replace hx272_0:=yC HB.out hx272_0
                      replace hx272_1:=yC HB.out hx272_1
                      replace p272:=eq_true p272
                      replace q272:=eq_true q272
                      have p273:0≤(x6_3:Int):=yD
                      have q273:x6_3<(l0_1.length:Int):=yD
                      obtain ⟨ad273,A273_3,c273_3,e273,hx273_0,hx273_1,hx273_2,hx273_3,hl273_3,hi273_3⟩:=Bb HR0_1.out x6_3 p273 q273
                      obtain rfl:ad270=ad273:=(by injection e273)
                      replace hx273_0:=yC HB.out hx273_0
                      replace hx273_1:=yC HB.out hx273_1
                      replace hx273_2:=yC HB.out hx273_2
                      replace hx273_3:=yC HB.out hx273_3
                      have HR273_3:=yA hi273_3
                      have HC273_3:=yA hl273_3
                      clear hi273_3 hl273_3
                      replace p273:=eq_true p273
                      replace q273:=eq_true q273
                      go_wp2
                      repeat (go_quiet (fail); try go_wp2)
                      go_roundg k4
                      case measure=>have:=HJ2.out; have:=HK2.out; have:=HK3.out; have:=HK4.out; omega
                      case rel=>exact ⟨(wrap64 (x7_4+1)),zG,H',⟨by have:=HJ2.out; have:=HK2.out; have:=HK3.out; have:=HK4.out; omega⟩,⟨by (with_reducible repeat (first|refine AG ?_ _|refine AH ?_|refine AF ?_ _)); exact BK260.out⟩,⟨by repeat (first|(with_reducible first|exact HB.out|apply AE|apply AC|apply AD|refine AI ?_ GE260.out)|exact HB.out)⟩⟩
                    ·rw [if_neg c32] at H
                     exact absurd H zA6
                   ·rw [if_neg c31] at H
                    have c31b0:decide (((Aj l1 x6_3).f1)<(wrap64 (((Aj l1 x7_4).f1)+((AL l0_1 x7_4).f1))))=false:=decide_eq_false c31
                    clear c31
                    have H':=yA H
                    clear H
                    have p266:0≤(x6_3:Int):=yD
                    have q266:x6_3<(l1.length:Int):=yD
                    obtain ⟨ad266,e266,hx266_0,hx266_1⟩:=BE HR1.out x6_3 p266 q266
                    cases e266
                    replace hx266_0:=yC HB.out hx266_0
                    replace hx266_1:=yC HB.out hx266_1
                    replace p266:=eq_true p266
                    replace q266:=eq_true q266
                    have p267:0≤(x7_4:Int):=yD
                    have q267:x7_4<(l1.length:Int):=yD
                    obtain ⟨ad267,e267,hx267_0,hx267_1⟩:=BE HR1.out x7_4 p267 q267
                    obtain rfl:ad266=ad267:=(by injection e267)
                    replace hx267_0:=yC HB.out hx267_0
                    replace hx267_1:=yC HB.out hx267_1
                    replace p267:=eq_true p267
                    replace q267:=eq_true q267
                    have p268:0≤(x6_3:Int):=yD
                    have q268:x6_3<(l1.length:Int):=yD
                    obtain ⟨ad268,e268,hx268_0,hx268_1⟩:=BE HR1.out x6_3 p268 q268
                    obtain rfl:ad266=ad268:=(by injection e268)
                    replace hx268_0:=yC HB.out hx268_0
                    replace hx268_1:=yC HB.out hx268_1
                    replace p268:=eq_true p268
                    replace q268:=eq_true q268
                    have p269:0≤(x7_4:Int):=yD
                    have q269:x7_4<(l1.length:Int):=yD
                    obtain ⟨ad269,e269,hx269_0,hx269_1⟩:=BE HR1.out x7_4 p269 q269
                    obtain rfl:ad266=ad269:=(by injection e269)
                    replace hx269_0:=yC HB.out hx269_0
                    replace hx269_1:=yC HB.out hx269_1
                    replace p269:=eq_true p269
                    replace q269:=eq_true q269
                    have hcz36_0:wr.cell? ⟨gb260,0,none⟩=some (.int .i64 A8):=(AK BK260.out 0).trans rfl
                    have hcz36_1:wr.cell? ⟨gb260,1,none⟩=some (.slice A0_1 l0_1.length c0_1):=(AK BK260.out 1).trans rfl
                    have hfz36_0:=AJ BK260.out 0
                    have hfz36_1:=AJ BK260.out 1
                    have p270:0≤(x7_4:Int):=yD
                    have q270:x7_4<(l0_1.length:Int):=yD
                    obtain ⟨ad270,A270_3,c270_3,e270,hx270_0,hx270_1,hx270_2,hx270_3,hl270_3,hi270_3⟩:=Bb HR0_1.out x7_4 p270 q270
                    cases e270
                    replace hx270_0:=yC HB.out hx270_0
                    replace hx270_1:=yC HB.out hx270_1
                    replace hx270_2:=yC HB.out hx270_2
                    replace hx270_3:=yC HB.out hx270_3
                    have HR270_3:=yA hi270_3
                    have HC270_3:=yA hl270_3
                    clear hi270_3 hl270_3
                    replace p270:=eq_true p270
                    replace q270:=eq_true q270
                    go_wp2
                    repeat (go_quiet (fail); try go_wp2)
                    go_roundg k4
                    case measure=>have:=HJ2.out; have:=HK2.out; have:=HK3.out; have:=HK4.out; omega
                    case rel=>exact ⟨(wrap64 (x7_4+1)),zG,H',⟨by have:=HJ2.out; have:=HK2.out; have:=HK3.out; have:=HK4.out; omega⟩,⟨by (with_reducible repeat (first|refine AG ?_ _|refine AH ?_|refine AF ?_ _)); exact BK260.out⟩,⟨by repeat (first|(with_reducible first|exact HB.out|apply AE|apply AC|apply AD|refine AI ?_ GE260.out)|exact HB.out)⟩⟩
                  ·rw [if_neg c30] at H
                   exact absurd H zA6
                 ·rw [if_neg c29] at H
                  have c29b0:(((Aj l1 x6_3).f0)==((Aj l1 x7_4).f0))=false:=beq_eq_false_iff_ne.mpr c29
                  have c29b1:(((Aj l1 x6_3).f0) !=((Aj l1 x7_4).f0))=true:=bne_iff_ne.mpr c29
                  have H':=yA H
                  clear H
                  have p266:0≤(x6_3:Int):=yD
                  have q266:x6_3<(l1.length:Int):=yD
                  obtain ⟨ad266,e266,hx266_0,hx266_1⟩:=BE HR1.out x6_3 p266 q266
                  cases e266
                  replace hx266_0:=yC HB.out hx266_0
                  replace hx266_1:=yC HB.out hx266_1
                  replace p266:=eq_true p266
                  replace q266:=eq_true q266
                  have p267:0≤(x7_4:Int):=yD
                  have q267:x7_4<(l1.length:Int):=yD
                  obtain ⟨ad267,e267,hx267_0,hx267_1⟩:=BE HR1.out x7_4 p267 q267
                  obtain rfl:ad266=ad267:=(by injection e267)
                  replace hx267_0:=yC HB.out hx267_0
                  replace hx267_1:=yC HB.out hx267_1
                  replace p267:=eq_true p267
                  replace q267:=eq_true q267
                  go_wp2
                  repeat (go_quiet (fail); try go_wp2)
                  go_roundg k4
                  case measure=>have:=HJ2.out; have:=HK2.out; have:=HK3.out; have:=HK4.out; omega
                  case rel=>exact ⟨(wrap64 (x7_4+1)),zG,H',⟨by have:=HJ2.out; have:=HK2.out; have:=HK3.out; have:=HK4.out; omega⟩,⟨by (with_reducible repeat (first|refine AG ?_ _|refine AH ?_|refine AF ?_ _)); exact BK260.out⟩,⟨by repeat (first|(with_reducible first|exact HB.out|apply AE|apply AC|apply AD|refine AI ?_ GE260.out)|exact HB.out)⟩⟩
                ·rw [if_neg c28] at H
                 exact absurd H zA6
               ·rw [if_neg c27] at H
                exact absurd H zA6
              ·rw [if_neg c26] at H
               exact absurd H zA6
             ·rw [if_neg c25] at H
              exact absurd H zA6
            ·rw [if_neg c24] at H
             have c24b0:decide (x7_4<x6_3)=false:=decide_eq_false c24
             clear c24
             have H':=yA H
             clear H
             go_wp2
             repeat (go_quiet (fail); try go_wp2)
             go_roundg k4
             case measure=>have:=HJ2.out; have:=HK2.out; have:=HK3.out; have:=HK4.out; omega
             case rel=>exact ⟨(wrap64 (x6_3+1)),zG,H',⟨by have:=HJ2.out; have:=HK2.out; have:=HK3.out; have:=HK4.out; omega⟩,⟨by (with_reducible repeat (first|refine AG ?_ _|refine AH ?_|refine AF ?_ _)); exact BK260.out⟩,⟨by repeat (first|(with_reducible first|exact HB.out|apply AE|apply AC|apply AD|refine AI ?_ GE260.out)|exact HB.out)⟩⟩
         ·rw [if_neg c23] at H
          have c23b0:decide (x6_3<(l1.length:Int))=false:=decide_eq_false c23
          clear c23
          have H':=yA H
          clear H
          go_wp2
          repeat (go_quiet (fail); try go_wp2)
          go_loopg [8] k3 (fun kq v8 w'=>∃(x8_4:Int),v8= .int .i64 x8_4∧Aside0 (AU.l3 kq l1 x8_4 A8 l0_1=some r)∧Aside0 (kq≤k3)∧Aside0 (w'.heap[gb260]? =some (.cells #[.int .i64 A8,(.slice A0_1 l0_1.length c0_1)] 24 (0,0)))∧Aside0 (Below w.heap.size w w'))
          case atStart=>exact ⟨(0),zG,H',⟨Nat.le_refl _⟩,⟨by (with_reducible repeat (first|refine AG ?_ _|refine AH ?_|refine AF ?_ _)); exact BK260.out⟩,⟨by repeat (first|(with_reducible first|exact HB.out|apply AE|apply AC|apply AD|refine AI ?_ GE260.out)|exact HB.out)⟩⟩
          case round=>
           clear H'
           try clear c1
           try clear c2
           try clear p2
           try clear q2
           try clear hx2
           try clear c3
           try clear c6
           try clear p6
           try clear c12
           try clear c13
           try clear c13b0
           try clear c14
           try clear c14b0
           try clear c15
           try clear c15b0
           try clear c16
           try clear c16b0
           try clear c17
           try clear c18
           try clear c18b0
           try clear c20
           try clear c20b0
           try clear c23
           try clear c23b0
           try clear c24
           try clear c24b0
           try clear c25
           try clear c25b0
           try clear c26
           try clear c26b0
           try clear p26
           try clear q26
           try clear hx26
           try clear c27
           try clear c27b0
           try clear p27
           try clear q27
           try clear hx27
           try clear c28
           try clear c28b0
           try clear c29
           try clear c29b0
           try clear c29b1
           try clear c30
           try clear c30b0
           try clear c31
           try clear c31b0
           try clear c32
           try clear c32b0
           try clear c33
           try clear c33b0
           try clear hcz10_0
           try clear hcz10_1
           try clear hcz17_0
           try clear hcz17_1
           try clear hcz19_0
           try clear hcz19_1
           try clear hcz21_0
           try clear hcz21_1
           try clear hcz22_0
           try clear hcz22_1
           try clear hcz34_0
           try clear hcz34_1
           try clear hcz35_0
           try clear hcz35_1
           try clear hcz36_0
           try clear hcz36_1
           try clear hcz7_0
           try clear hcz7_1
           try clear hcz9_0
           try clear hcz9_1
           try clear hfz10_0
           try clear hfz10_1
           try clear hfz17_0
           try clear hfz17_1
           try clear hfz19_0
           try clear hfz19_1
           try clear hfz21_0
           try clear hfz21_1
           try clear hfz22_0
           try clear hfz22_1
           try clear hfz34_0
           try clear hfz34_1
           try clear hfz35_0
           try clear hfz35_1
           try clear hfz36_0
           try clear hfz36_1
           try clear hfz7_0
           try clear hfz7_1
           try clear hfz9_0
           try clear hfz9_1
           try clear hx262_0
           try clear hx262_1
           try clear hx263_0
           try clear hx263_1
           try clear hx264_0
           try clear hx264_1
           try clear hx265_0
           try clear hx265_1
           try clear hx266_0
           try clear hx266_1
           try clear hx267_0
           try clear hx267_1
           try clear hx268_0
           try clear hx268_1
           try clear hx269_0
           try clear hx269_1
           try clear hx270_0
           try clear hx270_1
           try clear hx270_2
           try clear hx270_3
           try clear hx271_0
           try clear hx271_1
           try clear hx272_0
           try clear hx272_1
           try clear hx273_0
           try clear hx273_1
           try clear hx273_2
           try clear hx273_3
           try clear p2
           try clear p262
           try clear p263
           try clear p264
           try clear p265
           try clear p266
           try clear p267
           try clear p268
           try clear p269
           try clear p270
           try clear p271
           try clear p272
           try clear p273
           try clear p6
           try clear q2
           try clear q262
           try clear q263
           try clear q264
           try clear q265
           try clear q266
           try clear q267
           try clear q268
           try clear q269
           try clear q270
           try clear q271
           try clear q272
           try clear q273
           obtain ⟨x8_4,rfl,HA,HK4,BK260,HB⟩:=hrel
           cases gk with
           |zero=>exact absurd HA.out (by simp [AU.l3])
           | succ k4 =>
            have H:=HA.out
            clear HA
            simp only [AU.l3] at H
            by_cases c37:x8_4<(l1.length:Int)
            ·rw [if_pos c37] at H
             have c37b0:decide (x8_4<(l1.length:Int))=true:=decide_eq_true c37
             clear c37
             have H':=yA H
             clear H
             go_wp2
             repeat (go_quiet (fail); try go_wp2)
             go_loopg [9] k4 (fun kq v9 w'=>∃(x9_5:Int),v9= .int .i64 x9_5∧Aside0 (AU.l4 kq l1 x8_4 x9_5 A8 l0_1=some r)∧Aside0 (kq≤k4)∧Aside0 (w'.heap[gb260]? =some (.cells #[.int .i64 A8,(.slice A0_1 l0_1.length c0_1)] 24 (0,0)))∧Aside0 (Below w.heap.size w w'))
             case atStart=>exact ⟨(0),zG,H',⟨Nat.le_refl _⟩,⟨by (with_reducible repeat (first|refine AG ?_ _|refine AH ?_|refine AF ?_ _)); exact BK260.out⟩,⟨by repeat (first|(with_reducible first|exact HB.out|apply AE|apply AC|apply AD|refine AI ?_ GE260.out)|exact HB.out)⟩⟩
             case round=>
              clear H'
              try clear c1
              try clear c2
              try clear p2
              try clear q2
              try clear hx2
              try clear c3
              try clear c6
              try clear p6
              try clear c12
              try clear c13
              try clear c13b0
              try clear c14
              try clear c14b0
              try clear c15
              try clear c15b0
              try clear c16
              try clear c16b0
              try clear c17
              try clear c18
              try clear c18b0
              try clear c20
              try clear c20b0
              try clear c23
              try clear c23b0
              try clear c24
              try clear c24b0
              try clear c25
              try clear c25b0
              try clear c26
              try clear c26b0
              try clear p26
              try clear q26
              try clear hx26
              try clear c27
              try clear c27b0
              try clear p27
              try clear q27
              try clear hx27
              try clear c28
              try clear c28b0
              try clear c29
              try clear c29b0
              try clear c29b1
              try clear c30
              try clear c30b0
              try clear c31
              try clear c31b0
              try clear c32
              try clear c32b0
              try clear c33
              try clear c33b0
              try clear c37
              try clear c37b0
              try clear hcz10_0
              try clear hcz10_1
              try clear hcz17_0
              try clear hcz17_1
              try clear hcz19_0
              try clear hcz19_1
              try clear hcz21_0
              try clear hcz21_1
              try clear hcz22_0
              try clear hcz22_1
              try clear hcz34_0
              try clear hcz34_1
              try clear hcz35_0
              try clear hcz35_1
              try clear hcz36_0
              try clear hcz36_1
              try clear hcz7_0
              try clear hcz7_1
              try clear hcz9_0
              try clear hcz9_1
              try clear hfz10_0
              try clear hfz10_1
              try clear hfz17_0
              try clear hfz17_1
              try clear hfz19_0
              try clear hfz19_1
              try clear hfz21_0
              try clear hfz21_1
              try clear hfz22_0
              try clear hfz22_1
              try clear hfz34_0
              try clear hfz34_1
              try clear hfz35_0
              try clear hfz35_1
              try clear hfz36_0
              try clear hfz36_1
              try clear hfz7_0
              try clear hfz7_1
              try clear hfz9_0
              try clear hfz9_1
              try clear hx262_0
              try clear hx262_1
              try clear hx263_0
              try clear hx263_1
              try clear hx264_0
              try clear hx264_1
              try clear hx265_0
              try clear hx265_1
              try clear hx266_0
              try clear hx266_1
              try clear hx267_0
              try clear hx267_1
              try clear hx268_0
              try clear hx268_1
              try clear hx269_0
              try clear hx269_1
              try clear hx270_0
              try clear hx270_1
              try clear hx270_2
              try clear hx270_3
              try clear hx271_0
              try clear hx271_1
              try clear hx272_0
              try clear hx272_1
              try clear hx273_0
              try clear hx273_1
              try clear hx273_2
              try clear hx273_3
              try clear p2
              try clear p26
              try clear p262
              try clear p263
              try clear p264
              try clear p265
              try clear p266
              try clear p267
              try clear p268
              try clear p269
              try clear p27
              try clear p270
              try clear p271
              try clear p272
              try clear p273
              try clear p6
              try clear q2
              try clear q26
              try clear q262
              try clear q263
              try clear q264
              try clear q265
              try clear q266
              try clear q267
              try clear q268
              try clear q269
              try clear q27
              try clear q270
              try clear q271
              try clear q272
              try clear q273
              obtain ⟨x9_5,rfl,HA,HK5,BK260,HB⟩:=hrel
              cases gk with
              |zero=>exact absurd HA.out (by simp [AU.l4])
              | succ k5 =>
               have H:=HA.out
               clear HA
               simp only [AU.l4] at H
               by_cases c38:0≤x8_4
               ·rw [if_pos c38] at H
                have c38b0:decide (0≤x8_4)=true:=decide_eq_true c38
                clear c38
                by_cases c39:x8_4<(l0_1.length:Int)
                ·rw [if_pos c39] at H
                 have c39b0:decide (x8_4<(l0_1.length:Int))=true:=decide_eq_true c39
                 clear c39
                 by_cases c40:x9_5<(((AL l0_1 x8_4).f3).length:Int)
                 ·rw [if_pos c40] at H
                  have c40b0:decide (x9_5<(((AL l0_1 x8_4).f3).length:Int))=true:=decide_eq_true c40
                  clear c40
                  by_cases c41:0≤x9_5
                  ·rw [if_pos c41] at H
                   have c41b0:decide (0≤x9_5)=true:=decide_eq_true c41
                   clear c41
                   by_cases c42:x8_4<(l1.length:Int)
                   ·rw [if_pos c42] at H
                    have c42b0:decide (x8_4<(l1.length:Int))=true:=decide_eq_true c42
                    clear c42
                    by_cases c43:0≤(rd ((AL l0_1 x8_4).f3) x9_5)
                    ·rw [if_pos c43] at H
                     have c43b0:decide (0≤(rd ((AL l0_1 x8_4).f3) x9_5))=true:=decide_eq_true c43
                     clear c43
                     by_cases c44:(rd ((AL l0_1 x8_4).f3) x9_5)<(l1.length:Int)
                     ·rw [if_pos c44] at H
                      have c44b0:decide ((rd ((AL l0_1 x8_4).f3) x9_5)<(l1.length:Int))=true:=decide_eq_true c44
                      clear c44
                      by_cases c45:(rd ((AL l0_1 x8_4).f3) x9_5)<(l0_1.length:Int)
                      ·rw [if_pos c45] at H
                       have c45b0:decide ((rd ((AL l0_1 x8_4).f3) x9_5)<(l0_1.length:Int))=true:=decide_eq_true c45
                       clear c45
                       by_cases c46:((Aj l1 x8_4).f1)<(wrap64 (((Aj l1 (rd ((AL l0_1 x8_4).f3) x9_5)).f1)+((AL l0_1 (rd ((AL l0_1 x8_4).f3) x9_5)).f1)))
                       ·rw [if_pos c46] at H
                        have c46b0:decide (((Aj l1 x8_4).f1)<(wrap64 (((Aj l1 (rd ((AL l0_1 x8_4).f3) x9_5)).f1)+((AL l0_1 (rd ((AL l0_1 x8_4).f3) x9_5)).f1))))=true:=decide_eq_true c46
                        clear c46
                        obtain rfl:=Option.some.inj H
                        have hcz47_0:wr.cell? ⟨gb260,0,none⟩=some (.int .i64 A8):=(AK BK260.out 0).trans rfl
                        have hcz47_1:wr.cell? ⟨gb260,1,none⟩=some (.slice A0_1 l0_1.length c0_1):=(AK BK260.out 1).trans rfl
                        have hfz47_0:=AJ BK260.out 0
                        have hfz47_1:=AJ BK260.out 1
                        have p274:0≤(x8_4:Int):=yD
                        have q274:x8_4<(l0_1.length:Int):=yD
                        obtain ⟨ad274,A274_3,c274_3,e274,hx274_0,hx274_1,hx274_2,hx274_3,hl274_3,hi274_3⟩:=Bb HR0_1.out x8_4 p274 q274
                        cases e274
                        replace hx274_0:=yC HB.out hx274_0
                        replace hx274_1:=yC HB.out hx274_1
                        replace hx274_2:=yC HB.out hx274_2
                        replace hx274_3:=yC HB.out hx274_3
                        have HR274_3:=yA hi274_3
                        have HC274_3:=yA hl274_3
                        clear hi274_3 hl274_3
                        replace p274:=eq_true p274
                        replace q274:=eq_true q274
                        have p275:0≤(x8_4:Int):=yD
                        have q275:x8_4<(l0_1.length:Int):=yD
                        obtain ⟨ad275,A275_3,c275_3,e275,hx275_0,hx275_1,hx275_2,hx275_3,hl275_3,hi275_3⟩:=Bb HR0_1.out x8_4 p275 q275
                        obtain rfl:ad274=ad275:=(by injection e275)
                        replace hx275_0:=yC HB.out hx275_0
                        replace hx275_1:=yC HB.out hx275_1
                        replace hx275_2:=yC HB.out hx275_2
                        replace hx275_3:=yC HB.out hx275_3
                        have HR275_3:=yA hi275_3
                        have HC275_3:=yA hl275_3
                        clear hi275_3 hl275_3
                        replace p275:=eq_true p275
                        replace q275:=eq_true q275
                        have ea_:=Option.some.inj (hx274_3.symm.trans hx275_3)
                        injection ea_ with ea_ en_ ec_
                        subst ea_
                        subst ec_
                        clear en_
                        have p276:0≤(x9_5:Int):=yD
                        have q276:x9_5<(((AL l0_1 x8_4).f3).length:Int):=yD
                        obtain ⟨ad276,e276,hx276_0⟩:=Kd.at_int HR275_3.out x9_5 p276 q276
                        cases e276
                        replace hx276_0:=yC HB.out hx276_0
                        replace p276:=eq_true p276
                        replace q276:=eq_true q276
                        have p277:0≤(x8_4:Int):=yD
                        have q277:x8_4<(l1.length:Int):=yD
                        obtain ⟨ad277,e277,hx277_0,hx277_1⟩:=BE HR1.out x8_4 p277 q277
                        cases e277
                        replace hx277_0:=yC HB.out hx277_0
                        replace hx277_1:=yC HB.out hx277_1
                        replace p277:=eq_true p277
                        replace q277:=eq_true q277
                        have p278:0≤((rd ((AL l0_1 x8_4).f3) x9_5):Int):=yD
                        have q278:(rd ((AL l0_1 x8_4).f3) x9_5)<(l1.length:Int):=yD
                        obtain ⟨ad278,e278,hx278_0,hx278_1⟩:=BE HR1.out (rd ((AL l0_1 x8_4).f3) x9_5) p278 q278
                        obtain rfl:ad277=ad278:=(by injection e278)
                        replace hx278_0:=yC HB.out hx278_0
                        replace hx278_1:=yC HB.out hx278_1
                        replace p278:=eq_true p278
                        replace q278:=eq_true q278
                        have p279:0≤((rd ((AL l0_1 x8_4).f3) x9_5):Int):=yD
                        have q279:(rd ((AL l0_1 x8_4).f3) x9_5)<(l0_1.length:Int):=yD
                        obtain ⟨ad279,A279_3,c279_3,e279,hx279_0,hx279_1,hx279_2,hx279_3,hl279_3,hi279_3⟩:=Bb HR0_1.out (rd ((AL l0_1 x8_4).f3) x9_5) p279 q279
                        obtain rfl:ad274=ad279:=(by injection e279)
                        replace hx279_0:=yC HB.out hx279_0
                        replace hx279_1:=yC HB.out hx279_1
                        replace hx279_2:=yC HB.out hx279_2
                        replace hx279_3:=yC HB.out hx279_3
                        have HR279_3:=yA hi279_3
                        have HC279_3:=yA hl279_3
                        clear hi279_3 hl279_3
                        replace p279:=eq_true p279
                        replace q279:=eq_true q279
                        go_wp2
                        repeat (go_quiet (fail); try go_wp2)
                        go_ret
                        exact ⟨by first|rfl|(simp [AZ,AY]<;>rfl)|(simp [*,AZ,AY]<;>rfl),by repeat (first|(with_reducible first|exact HB.out|apply AE|apply AC|apply AD|refine AI ?_ GE260.out)|exact HB.out)⟩
                       ·rw [if_neg c46] at H
                        have c46b0:decide (((Aj l1 x8_4).f1)<(wrap64 (((Aj l1 (rd ((AL l0_1 x8_4).f3) x9_5)).f1)+((AL l0_1 (rd ((AL l0_1 x8_4).f3) x9_5)).f1))))=false:=decide_eq_false c46
                        clear c46
                        have H':=yA H
                        clear H
                        have hcz48_0:wr.cell? ⟨gb260,0,none⟩=some (.int .i64 A8):=(AK BK260.out 0).trans rfl
                        have hcz48_1:wr.cell? ⟨gb260,1,none⟩=some (.slice A0_1 l0_1.length c0_1):=(AK BK260.out 1).trans rfl
                        have hfz48_0:=AJ BK260.out 0
                        have hfz48_1:=AJ BK260.out 1
                        have p274:0≤(x8_4:Int):=yD
                        have q274:x8_4<(l0_1.length:Int):=yD
                        obtain ⟨ad274,A274_3,c274_3,e274,hx274_0,hx274_1,hx274_2,hx274_3,hl274_3,hi274_3⟩:=Bb HR0_1.out x8_4 p274 q274
                        cases e274
                        replace hx274_0:=yC HB.out hx274_0
                        replace hx274_1:=yC HB.out hx274_1
                        replace hx274_2:=yC HB.out hx274_2
                        replace hx274_3:=yC HB.out hx274_3
                        have HR274_3:=yA hi274_3
                        have HC274_3:=yA hl274_3
                        clear hi274_3 hl274_3
                        replace p274:=eq_true p274
                        replace q274:=eq_true q274
                        have p275:0≤(x8_4:Int):=yD
                        have q275:x8_4<(l0_1.length:Int):=yD
                        obtain ⟨ad275,A275_3,c275_3,e275,hx275_0,hx275_1,hx275_2,hx275_3,hl275_3,hi275_3⟩:=Bb HR0_1.out x8_4 p275 q275
                        obtain rfl:ad274=ad275:=(by injection e275)
                        replace hx275_0:=yC HB.out hx275_0
                        replace hx275_1:=yC HB.out hx275_1
                        replace hx275_2:=yC HB.out hx275_2
                        replace hx275_3:=yC HB.out hx275_3
                        have HR275_3:=yA hi275_3
                        have HC275_3:=yA hl275_3
                        clear hi275_3 hl275_3
                        replace p275:=eq_true p275
                        replace q275:=eq_true q275
                        have ea_:=Option.some.inj (hx274_3.symm.trans hx275_3)
                        injection ea_ with ea_ en_ ec_
                        subst ea_
                        subst ec_
                        clear en_
                        have p276:0≤(x9_5:Int):=yD
                        have q276:x9_5<(((AL l0_1 x8_4).f3).length:Int):=yD
                        obtain ⟨ad276,e276,hx276_0⟩:=Kd.at_int HR275_3.out x9_5 p276 q276
                        cases e276
                        replace hx276_0:=yC HB.out hx276_0
                        replace p276:=eq_true p276
                        replace q276:=eq_true q276
                        have p277:0≤(x8_4:Int):=yD
                        have q277:x8_4<(l1.length:Int):=yD
                        obtain ⟨ad277,e277,hx277_0,hx277_1⟩:=BE HR1.out x8_4 p277 q277
                        cases e277
                        replace hx277_0:=yC HB.out hx277_0
                        replace hx277_1:=yC HB.out hx277_1
                        replace p277:=eq_true p277
                        replace q277:=eq_true q277
                        have p278:0≤((rd ((AL l0_1 x8_4).f3) x9_5):Int):=yD
                        have q278:(rd ((AL l0_1 x8_4).f3) x9_5)<(l1.length:Int):=yD
                        obtain ⟨ad278,e278,hx278_0,hx278_1⟩:=BE HR1.out (rd ((AL l0_1 x8_4).f3) x9_5) p278 q278
                        obtain rfl:ad277=ad278:=(by injection e278)
                        replace hx278_0:=yC HB.out hx278_0
                        replace hx278_1:=yC HB.out hx278_1
                        replace p278:=eq_true p278
                        replace q278:=eq_true q278
                        have p279:0≤((rd ((AL l0_1 x8_4).f3) x9_5):Int):=yD
                        have q279:(rd ((AL l0_1 x8_4).f3) x9_5)<(l0_1.length:Int):=yD
                        obtain ⟨ad279,A279_3,c279_3,e279,hx279_0,hx279_1,hx279_2,hx279_3,hl279_3,hi279_3⟩:=Bb HR0_1.out (rd ((AL l0_1 x8_4).f3) x9_5) p279 q279
                        obtain rfl:ad274=ad279:=(by injection e279)
                        replace hx279_0:=yC HB.out hx279_0
                        replace hx279_1:=yC HB.out hx279_1
                        replace hx279_2:=yC HB.out hx279_2
                        replace hx279_3:=yC HB.out hx279_3
                        have HR279_3:=yA hi279_3
                        have HC279_3:=yA hl279_3
                        clear hi279_3 hl279_3
                        replace p279:=eq_true p279
                        replace q279:=eq_true q279
                        go_wp2
                        repeat (go_quiet (fail); try go_wp2)
                        go_roundg k5
                        case measure=>have:=HJ2.out; have:=HK2.out; have:=HK3.out; have:=HK4.out; have:=HK5.out; omega
                        case rel=>exact ⟨(wrap64 (x9_5+1)),zG,H',⟨by have:=HJ2.out; have:=HK2.out; have:=HK3.out; have:=HK4.out; have:=HK5.out; omega⟩,⟨by (with_reducible repeat (first|refine AG ?_ _|refine AH ?_|refine AF ?_ _)); exact BK260.out⟩,⟨by repeat (first|(with_reducible first|exact HB.out|apply AE|apply AC|apply AD|refine AI ?_ GE260.out)|exact HB.out)⟩⟩
                      ·rw [if_neg c45] at H
                       exact absurd H zA6
                     ·rw [if_neg c44] at H
                      exact absurd H zA6
                    ·rw [if_neg c43] at H
                     exact absurd H zA6
                   ·rw [if_neg c42] at H
                    exact absurd H zA6
                  ·rw [if_neg c41] at H
                   exact absurd H zA6
                 ·rw [if_neg c40] at H
                  have c40b0:decide (x9_5<(((AL l0_1 x8_4).f3).length:Int))=false:=decide_eq_false c40
                  clear c40
                  have H':=yA H
                  clear H
                  have hcz49_0:wr.cell? ⟨gb260,0,none⟩=some (.int .i64 A8):=(AK BK260.out 0).trans rfl
                  have hcz49_1:wr.cell? ⟨gb260,1,none⟩=some (.slice A0_1 l0_1.length c0_1):=(AK BK260.out 1).trans rfl
                  have hfz49_0:=AJ BK260.out 0
                  have hfz49_1:=AJ BK260.out 1
                  have p274:0≤(x8_4:Int):=yD
                  have q274:x8_4<(l0_1.length:Int):=yD
                  obtain ⟨ad274,A274_3,c274_3,e274,hx274_0,hx274_1,hx274_2,hx274_3,hl274_3,hi274_3⟩:=Bb HR0_1.out x8_4 p274 q274
                  cases e274
                  replace hx274_0:=yC HB.out hx274_0
                  replace hx274_1:=yC HB.out hx274_1
                  replace hx274_2:=yC HB.out hx274_2
                  replace hx274_3:=yC HB.out hx274_3
                  have HR274_3:=yA hi274_3
                  have HC274_3:=yA hl274_3
                  clear hi274_3 hl274_3
                  replace p274:=eq_true p274
                  replace q274:=eq_true q274
                  go_wp2
                  repeat (go_quiet (fail); try go_wp2)
                  go_roundg k5
                  case measure=>have:=HJ2.out; have:=HK2.out; have:=HK3.out; have:=HK4.out; have:=HK5.out; omega
                  case rel=>exact ⟨(wrap64 (x8_4+1)),zG,H',⟨by have:=HJ2.out; have:=HK2.out; have:=HK3.out; have:=HK4.out; have:=HK5.out; omega⟩,⟨by (with_reducible repeat (first|refine AG ?_ _|refine AH ?_|refine AF ?_ _)); exact BK260.out⟩,⟨by repeat (first|(with_reducible first|exact HB.out|apply AE|apply AC|apply AD|refine AI ?_ GE260.out)|exact HB.out)⟩⟩
                ·rw [if_neg c39] at H
                 exact absurd H zA6
               ·rw [if_neg c38] at H
                exact absurd H zA6
            ·rw [if_neg c37] at H
             have c37b0:decide (x8_4<(l1.length:Int))=false:=decide_eq_false c37
             clear c37
             obtain rfl:=Option.some.inj H
             go_wp2
             repeat (go_quiet (fail); try go_wp2)
             go_ret
             exact ⟨by first|rfl|(simp [AZ,AY]<;>rfl)|(simp [*,AZ,AY]<;>rfl),by repeat (first|(with_reducible first|exact HB.out|apply AE|apply AC|apply AD|refine AI ?_ GE260.out)|exact HB.out)⟩
end Go.Proofs.YtdadecjefafflaaDoor.PChk
end
