/- A part of what the law's proof leans on. PACKED BY pack.py of this repo. -/
import Derived.Test.YtpejalpgficopaaGreatDoorF5
set_option linter.unusedVariables false
set_option linter.unusedSimpArgs false
set_option linter.unusedSectionVars false
set_option linter.defProp false
set_option maxRecDepth 100000
open Go.IntKind (i64 u64 u32)
section
namespace Go.Proofs.YtpejalpgficopaaGreatDoor.PPr
open Go.RowKit Go.Proofs.YtpejalpgficopaaGreatDoorW.PrintWords Go.Proofs.YtpejalpgficopaaGreatDoorW.PrintLast Go.Proofs.YtpejalpgficopaaGreatDoorW.PrintMore
attribute [local go_sem] J9 J7 KM KL IA I8 J8 J6
def Cj.f (k:Nat) (A7:Int) (AA:Int):Option (ByteArray×Int):=(Ad.f A7 AA).bind fun t160=>(if t160=true then ((Ag.f (wrap64 (A7*1000000)) 16777216).bind fun t161=>((Cy.f k t161).bind fun t162=>(if 1+t162.size≤9223372036854775807 then (if ((⟨#[91]⟩:ByteArray)++t162).size+2≤9223372036854775807 then ((Am.f (wrap64 (AA*1000000)) 16777216).bind fun t163=>((Cy.f k t163).bind fun t164=>(if (((⟨#[91]⟩:ByteArray)++t162)++(⟨#[44,32]⟩:ByteArray)).size+t164.size≤9223372036854775807 then (if ((((⟨#[91]⟩:ByteArray)++t162)++(⟨#[44,32]⟩:ByteArray))++t164).size+1≤9223372036854775807 then (some (((((⟨#[91]⟩:ByteArray)++t162)++(⟨#[44,32]⟩:ByteArray))++t164)++(⟨#[93]⟩:ByteArray),0)) else (none)) else (none)))) else (none)) else (none)))) else (some ((⟨#[]⟩:ByteArray),1)))
def Cj.T3:Bool×List (List Nat×List Nat):=(true,[([],[]),([0],[0]),([1],[1]),([2],[2]),([3,3],[3]),([4],[4]),([5],[5]),([],[]),([7],[7]),([8],[8]),([9,4],[9]),([10,10],[10]),([6,11],[6,11]),([12],[12]),([13,11,0,1,2,3,4,5,6,7,8,9,10,11,12,13],[13]),([14,0,1,2,3,4,5,6,7,8,9,10,11,12,13,14],[])])
def Cj.B3:List Nat:=[0,1,3,7,15,31,63,0,128,384,927,1951,4095,8191,16383,32767]
theorem Cj.tab3:rtab .any (Qa Tryz.f94 3)=Cj.T3:=by kernel_rfl
theorem Cj.bits3:H5 Cj.T3.2 Cj.B3=true:=by kernel_rfl
set_option maxHeartbeats 8000000 in
theorem Cj.calls (k:Nat) (A7:Int) (AA:Int) (r1:ByteArray) (r2:Int) (w:World) (h:Cj.f k A7 AA=some (r1,r2)):
  Calls Tryz.prog 94 #[.agg #[.int .i64 A7,.int .i64 AA]] w fun e w'=>e= .returned (.tuple #[.string r1,.int .i64 r2])∧Below w.heap.size w w':=by
 have hu39:=Tryz.underlying39
 have HB:=Aside0.mk (Below.refl w.heap.size w)
 have H:((Ad.f A7 AA).bind fun t160=>(if t160=true then ((Ag.f (wrap64 (A7*1000000)) 16777216).bind fun t161=>((Cy.f k t161).bind fun t162=>(if 1+t162.size≤9223372036854775807 then (if ((⟨#[91]⟩:ByteArray)++t162).size+2≤9223372036854775807 then ((Am.f (wrap64 (AA*1000000)) 16777216).bind fun t163=>((Cy.f k t163).bind fun t164=>(if (((⟨#[91]⟩:ByteArray)++t162)++(⟨#[44,32]⟩:ByteArray)).size+t164.size≤9223372036854775807 then (if ((((⟨#[91]⟩:ByteArray)++t162)++(⟨#[44,32]⟩:ByteArray))++t164).size+1≤9223372036854775807 then (some (((((⟨#[91]⟩:ByteArray)++t162)++(⟨#[44,32]⟩:ByteArray))++t164)++(⟨#[93]⟩:ByteArray),0)) else (none)) else (none)))) else (none)) else (none)))) else (some ((⟨#[]⟩:ByteArray),1))))=some (r1,r2):=h
 clear h
 replace H:=Option.bind_eq_some_iff.mp H
 obtain ⟨t160,A20,H⟩:=H
 replace H:(if t160=true then ((Ag.f (wrap64 (A7*1000000)) 16777216).bind fun t161=>((Cy.f k t161).bind fun t162=>(if 1+t162.size≤9223372036854775807 then (if ((⟨#[91]⟩:ByteArray)++t162).size+2≤9223372036854775807 then ((Am.f (wrap64 (AA*1000000)) 16777216).bind fun t163=>((Cy.f k t163).bind fun t164=>(if (((⟨#[91]⟩:ByteArray)++t162)++(⟨#[44,32]⟩:ByteArray)).size+t164.size≤9223372036854775807 then (if ((((⟨#[91]⟩:ByteArray)++t162)++(⟨#[44,32]⟩:ByteArray))++t164).size+1≤9223372036854775807 then (some (((((⟨#[91]⟩:ByteArray)++t162)++(⟨#[44,32]⟩:ByteArray))++t164)++(⟨#[93]⟩:ByteArray),0)) else (none)) else (none)))) else (none)) else (none)))) else (some ((⟨#[]⟩:ByteArray),1)))=some (r1,r2):=H
 have A2:=Aside0.mk A20
 clear A20
 by_cases c3:t160=true
 ·subst c3
  have H1:((Ag.f (wrap64 (A7*1000000)) 16777216).bind fun t161=>((Cy.f k t161).bind fun t162=>(if 1+t162.size≤9223372036854775807 then (if ((⟨#[91]⟩:ByteArray)++t162).size+2≤9223372036854775807 then ((Am.f (wrap64 (AA*1000000)) 16777216).bind fun t163=>((Cy.f k t163).bind fun t164=>(if (((⟨#[91]⟩:ByteArray)++t162)++(⟨#[44,32]⟩:ByteArray)).size+t164.size≤9223372036854775807 then (if ((((⟨#[91]⟩:ByteArray)++t162)++(⟨#[44,32]⟩:ByteArray))++t164).size+1≤9223372036854775807 then (some (((((⟨#[91]⟩:ByteArray)++t162)++(⟨#[44,32]⟩:ByteArray))++t164)++(⟨#[93]⟩:ByteArray),0)) else (none)) else (none)))) else (none)) else (none))))=some (r1,r2):=by rw [if_pos rfl] at H; exact H
  clear H
  have H:=H1
  clear H1
  replace H:=Option.bind_eq_some_iff.mp H
  obtain ⟨t161,A40,H⟩:=H
  replace H:((Cy.f k t161).bind fun t162=>(if 1+t162.size≤9223372036854775807 then (if ((⟨#[91]⟩:ByteArray)++t162).size+2≤9223372036854775807 then ((Am.f (wrap64 (AA*1000000)) 16777216).bind fun t163=>((Cy.f k t163).bind fun t164=>(if (((⟨#[91]⟩:ByteArray)++t162)++(⟨#[44,32]⟩:ByteArray)).size+t164.size≤9223372036854775807 then (if ((((⟨#[91]⟩:ByteArray)++t162)++(⟨#[44,32]⟩:ByteArray))++t164).size+1≤9223372036854775807 then (some (((((⟨#[91]⟩:ByteArray)++t162)++(⟨#[44,32]⟩:ByteArray))++t164)++(⟨#[93]⟩:ByteArray),0)) else (none)) else (none)))) else (none)) else (none)))=some (r1,r2):=H
  have A4:=Aside0.mk A40
  clear A40
  replace H:=Option.bind_eq_some_iff.mp H
  obtain ⟨t162,A50,H⟩:=H
  replace H:(if 1+t162.size≤9223372036854775807 then (if ((⟨#[91]⟩:ByteArray)++t162).size+2≤9223372036854775807 then ((Am.f (wrap64 (AA*1000000)) 16777216).bind fun t163=>((Cy.f k t163).bind fun t164=>(if (((⟨#[91]⟩:ByteArray)++t162)++(⟨#[44,32]⟩:ByteArray)).size+t164.size≤9223372036854775807 then (if ((((⟨#[91]⟩:ByteArray)++t162)++(⟨#[44,32]⟩:ByteArray))++t164).size+1≤9223372036854775807 then (some (((((⟨#[91]⟩:ByteArray)++t162)++(⟨#[44,32]⟩:ByteArray))++t164)++(⟨#[93]⟩:ByteArray),0)) else (none)) else (none)))) else (none)) else (none))=some (r1,r2):=H
  have A5:=Aside0.mk A50
  clear A50
  by_cases c6:1+t162.size≤9223372036854775807
  ·rw [if_pos c6] at H
   have c6b0:=eq_true c6
   have c6b1:decide (1+t162.size≤9223372036854775807)=true:=decide_eq_true c6
   try have c6b2:(9223372036854775807<1+t162.size)=False:=eq_false (Nat.not_lt.2 c6)
   (try have c6b3:=c6b2)
   (try simp only [ByteArray.size_append,ByteArray.size_extract,Ek,EK,F6,Ei,Eh,Ej,Nat.min_self,Nat.zero_add] at c6b3)
   by_cases c7:((⟨#[91]⟩:ByteArray)++t162).size+2≤9223372036854775807
   ·rw [if_pos c7] at H
    have c7b0:=eq_true c7
    have c7b1:decide (((⟨#[91]⟩:ByteArray)++t162).size+2≤9223372036854775807)=true:=decide_eq_true c7
    try have c7b2:(9223372036854775807<((⟨#[91]⟩:ByteArray)++t162).size+2)=False:=eq_false (Nat.not_lt.2 c7)
    (try have c7b3:=c7b2)
    (try simp only [ByteArray.size_append,ByteArray.size_extract,Ek,EK,F6,Ei,Eh,Ej,Nat.min_self,Nat.zero_add] at c7b3)
    replace H:=Option.bind_eq_some_iff.mp H
    obtain ⟨t163,A80,H⟩:=H
    replace H:((Cy.f k t163).bind fun t164=>(if (((⟨#[91]⟩:ByteArray)++t162)++(⟨#[44,32]⟩:ByteArray)).size+t164.size≤9223372036854775807 then (if ((((⟨#[91]⟩:ByteArray)++t162)++(⟨#[44,32]⟩:ByteArray))++t164).size+1≤9223372036854775807 then (some (((((⟨#[91]⟩:ByteArray)++t162)++(⟨#[44,32]⟩:ByteArray))++t164)++(⟨#[93]⟩:ByteArray),0)) else (none)) else (none)))=some (r1,r2):=H
    have A8:=Aside0.mk A80
    clear A80
    replace H:=Option.bind_eq_some_iff.mp H
    obtain ⟨t164,A90,H⟩:=H
    replace H:(if (((⟨#[91]⟩:ByteArray)++t162)++(⟨#[44,32]⟩:ByteArray)).size+t164.size≤9223372036854775807 then (if ((((⟨#[91]⟩:ByteArray)++t162)++(⟨#[44,32]⟩:ByteArray))++t164).size+1≤9223372036854775807 then (some (((((⟨#[91]⟩:ByteArray)++t162)++(⟨#[44,32]⟩:ByteArray))++t164)++(⟨#[93]⟩:ByteArray),0)) else (none)) else (none))=some (r1,r2):=H
    have A9:=Aside0.mk A90
    clear A90
    by_cases c10:(((⟨#[91]⟩:ByteArray)++t162)++(⟨#[44,32]⟩:ByteArray)).size+t164.size≤9223372036854775807
    ·rw [if_pos c10] at H
     have c10b0:=eq_true c10
     have c10b1:decide ((((⟨#[91]⟩:ByteArray)++t162)++(⟨#[44,32]⟩:ByteArray)).size+t164.size≤9223372036854775807)=true:=decide_eq_true c10
     try have c10b2:(9223372036854775807<(((⟨#[91]⟩:ByteArray)++t162)++(⟨#[44,32]⟩:ByteArray)).size+t164.size)=False:=eq_false (Nat.not_lt.2 c10)
     (try have c10b3:=c10b2)
     (try simp only [ByteArray.size_append,ByteArray.size_extract,Ek,EK,F6,Ei,Eh,Ej,Nat.min_self,Nat.zero_add] at c10b3)
     by_cases c11:((((⟨#[91]⟩:ByteArray)++t162)++(⟨#[44,32]⟩:ByteArray))++t164).size+1≤9223372036854775807
     ·rw [if_pos c11] at H
      have c11b0:=eq_true c11
      have c11b1:decide (((((⟨#[91]⟩:ByteArray)++t162)++(⟨#[44,32]⟩:ByteArray))++t164).size+1≤9223372036854775807)=true:=decide_eq_true c11
      try have c11b2:(9223372036854775807<((((⟨#[91]⟩:ByteArray)++t162)++(⟨#[44,32]⟩:ByteArray))++t164).size+1)=False:=eq_false (Nat.not_lt.2 c11)
      (try have c11b3:=c11b2)
      (try simp only [ByteArray.size_append,ByteArray.size_extract,Ek,EK,F6,Ei,Eh,Ej,Nat.min_self,Nat.zero_add] at c11b3)
      simp only [zS,zP] at H
      obtain ⟨rfl,rfl⟩:=H
      go_enter Tryz.func94,Tryz.ntmps94
      try go_wp2_with (first|((with_reducible refine Ed (N:=1) rfl ?_); refine Ea ?hg (N:=1) ?hd (cs:= #[.int .i64 A7,.int .i64 AA]) (t:=39) ?hr ?_; (case hd=>rfl); (case hg=>rfl); (case hr=>first|(go_simp; done)|(go_simp; rfl)); intro gb159 hg w12 hbox hb; have n0_:=Aside0.mk (Ce (by repeat (first|(with_reducible first|exact HB.out|apply Af|apply Ab|apply Ae)|exact HB.out)) hb); have n1_:=Aside0.mk (hbox); have n2_:=Aside0.mk ((by rw [hg]; exact (Do (by repeat (first|(with_reducible first|exact HB.out|apply Af|apply Ab|apply Ae)|exact HB.out))):w.heap.size≤gb159)); have n3_:=Aside0.mk ((by rw [hg]; exact (Do (by repeat (first|(with_reducible first|exact HB.out|apply Af|apply Ab|apply Ae)|exact HB.out))):w.heap.size≤gb159)); clear HB; have HB:=n0_; have BK159:=n1_; have GW159:=n2_; have GE159:=n3_; clear n0_ n1_ n2_ n3_; clear hb hbox hg; have hcz13_0:w12.cell? ⟨gb159,0,none⟩=some (.int .i64 A7):=(Ak BK159.out 0).trans rfl; have hcz13_1:w12.cell? ⟨gb159,1,none⟩=some (.int .i64 AA):=(Ak BK159.out 1).trans rfl; have hfz13_0:=Ai BK159.out 0; have hfz13_1:=Ai BK159.out 1)|((with_reducible refine E7 (f:=76) rfl ?_); refine Ex (some 5) rfl rfl Tryz.func76 (by kernel_rfl) rfl #[.agg #[.int .i64 A7,.int .i64 AA]] rfl (by (try simp only [List.map_toArray,List.map_cons,List.map_nil]); first|done|rfl|(simp only [List.length_drop,List.length_take]; rfl)) ?_; (with_reducible refine (Ad.calls A7 AA true _ A2.out).mono ?_); rintro e w14 ⟨rfl,hb⟩; refine ⟨_,rfl,?_⟩; have n0_:=Aside0.mk (ED (g:=gb159) (o:= .cells #[.int .i64 A7,.int .i64 AA] 39 (0,0)) (by (with_reducible repeat (first|refine EC ?_ _|refine EI ?_|refine EE ?_ _)); exact BK159.out) hb); have n1_:=Aside0.mk (Ce (by repeat (first|(with_reducible first|exact HB.out|apply Af|apply Ab|apply Ae|refine Dc ?_ GE159.out)|exact HB.out)) hb); clear BK159; clear HB; have BK159:=n0_; have HB:=n1_; clear n0_ n1_; (try clear hb); (try clear hb2); (try clear hk); (try clear hi)))
      have n0_:=Aside0.mk (EI BK159.out)
      have n1_:=Aside0.mk (Ae HB.out)
      clear BK159
      clear HB
      have BK159:=n0_
      have HB:=n1_
      clear n0_ n1_
      refine MG (n:=16) (S:=fun w'=>w'.cell? ⟨gb159,0,none⟩=some (.int .i64 A7)∧w'.cell? ⟨gb159,1,none⟩=some (.int .i64 AA)) (ds:=[]) #[false,false,false,false,false,false,false,false,false,false,false,false,false,false,false,false] (by kernel_rfl) rfl rfl ⟨(Ak BK159.out 0).trans rfl,(Ak BK159.out 1).trans rfl⟩ (fun hHeld=> ?_); refine Hu Cj.tab3 Cj.bits3 (fun HT_ HW_=> ?_)
      generalize w14.drew=w15 at BK159 HB hHeld ⊢
      refine Eo (i:=0) (N:=some 7) (v:= ?_) (a':= ?_) #[true,false,false,false,false,false,false,false,false,false,false,false,false,false,false,false] rfl rfl (ET HT_.out (by kernel_rfl)) (fun _ _ _ h=>h) (Or.inl ⟨by rfl,?_⟩) ?_ ?_
      rotate_left
      ·intro w'
       go_simp
       with_reducible rfl
      rotate_left
      ·simp only [Act.put,List.setIfInBounds_toArray,List.set_cons_zero,List.set_cons_succ,ER,ES]
       rfl
      refine Eo (i:=7) (N:=some 14) (v:= ?_) (a':= ?_) #[true,false,false,false,false,false,false,true,false,false,false,false,false,false,false,false] rfl rfl (ET HT_.out (by kernel_rfl)) (fun _ _ _ h=>h) (Or.inl ⟨by rfl,?_⟩) ?_ ?_
      rotate_left
      ·intro w'
       go_simp
       with_reducible rfl
      rotate_left
      ·simp only [Act.put,List.setIfInBounds_toArray,List.set_cons_zero,List.set_cons_succ,ER,ES]
       rfl
      refine Od (i:=1) (N:=some 8) (v:= ?_) (a':= ?_) #[true,true,false,false,false,false,false,true,false,false,false,false,false,false,false,false] rfl rfl (Io HT_.out HW_.out (by kernel_rfl)) (fun _ _ _ h=>h) (Or.inl ⟨by rfl,?_⟩) hHeld ?_ ?_
      rotate_left
      ·rintro w' ⟨s0,s1⟩
       go_simp
       with_reducible rfl
      rotate_left
      ·simp only [Act.put,List.setIfInBounds_toArray,List.set_cons_zero,List.set_cons_succ,ER,ES]
       rfl
      refine Eo (i:=2) (N:=some 9) (v:= ?_) (a':= ?_) #[true,true,true,false,false,false,false,true,false,false,false,false,false,false,false,false] rfl rfl (ET HT_.out (by kernel_rfl)) (fun _ _ _ h=>h) (Or.inl ⟨by rfl,?_⟩) ?_ ?_
      rotate_left
      ·intro w'
       go_simp
       with_reducible rfl
      rotate_left
      ·simp only [Act.put,List.setIfInBounds_toArray,List.set_cons_zero,List.set_cons_succ,ER,ES]
       rfl
      refine Od (i:=8) (N:=some 15) (v:= ?_) (a':= ?_) #[true,true,true,false,false,false,false,true,true,false,false,false,false,false,false,false] rfl rfl (Io HT_.out HW_.out (by kernel_rfl)) (fun _ _ _ h=>h) (Or.inl ⟨by rfl,?_⟩) hHeld ?_ ?_
      rotate_left
      ·rintro w' ⟨s0,s1⟩
       go_simp
       with_reducible rfl
      rotate_left
      ·simp only [Act.put,List.setIfInBounds_toArray,List.set_cons_zero,List.set_cons_succ,ER,ES]
       rfl
      refine Eo (i:=9) (N:=some 16) (v:= ?_) (a':= ?_) #[true,true,true,false,false,false,false,true,true,true,false,false,false,false,false,false] rfl rfl (ET HT_.out (by kernel_rfl)) (fun _ _ _ h=>h) (Or.inl ⟨by rfl,?_⟩) ?_ ?_
      rotate_left
      ·intro w'
       go_simp
       with_reducible rfl
      rotate_left
      ·simp only [Act.put,List.setIfInBounds_toArray,List.set_cons_zero,List.set_cons_succ,ER,ES]
       rfl
      refine one_ (i:=3) (N:=some 10) #[true,true,true,true,false,false,false,true,true,true,false,false,false,false,false,false] rfl rfl (Gi HT_.out (by kernel_rfl)) (by decide) (fun K hK=> ?_)
      refine K2 Tryz.func146 (by kernel_rfl) rfl #[.int .i64 (wrap64 (A7*1000000)),.int .i64 16777216] (by rfl) rfl rfl (by (try simp only [List.map_toArray,List.map_cons,List.map_nil]); first|done|rfl|(simp only [List.length_drop,List.length_take]; rfl)) ?_
      with_reducible refine (Ag.calls (wrap64 (A7*1000000)) 16777216 t161 _ A4.out).mono ?_
      rintro e w' ⟨rfl,⟨nd,rfl⟩⟩
      refine ⟨_,rfl,?_⟩
      refine hK.out _ _ ⟨(Ak BK159.out 0).trans rfl,(Ak BK159.out 1).trans rfl⟩ (fun hHeld=> ?_)
      clear hK K
      refine IQ (a':= ?_) ?_ ?_
      rotate_left
      ·show Act.put _ (some 10) _=_
       simp only [Act.put,List.setIfInBounds_toArray,List.set_cons_zero,List.set_cons_succ,ER,ES]
       rfl
      refine one_ (i:=4) (N:=some 11) #[true,true,true,true,true,false,false,true,true,true,false,false,false,false,false,false] rfl rfl (Gi HT_.out (by kernel_rfl)) (by decide) (fun K hK=> ?_)
      refine K2 Tryz.func145 (by kernel_rfl) rfl #[.int .i64 t161] (by rfl) rfl rfl (by (try simp only [List.map_toArray,List.map_cons,List.map_nil]); first|done|rfl|(simp only [List.length_drop,List.length_take]; rfl)) ?_
      with_reducible refine (Cy.calls k t161 t162 _ A5.out).mono ?_
      rintro e w16 ⟨rfl,hb⟩
      refine ⟨_,rfl,?_⟩
      have n0_:=Aside0.mk (ED (g:=gb159) (o:= .cells #[.int .i64 A7,.int .i64 AA] 39 (0,0)) (by (with_reducible repeat (first|refine EC ?_ _|refine EI ?_|refine EE ?_ _)); exact BK159.out) hb)
      have n1_:=Aside0.mk (Ce (by repeat (first|(with_reducible first|exact HB.out|apply Af|apply Ab|apply Ae|refine Dc ?_ GE159.out)|exact HB.out)) hb)
      clear BK159
      clear HB
      have BK159:=n0_
      have HB:=n1_
      clear n0_ n1_
      (try clear hb)
      (try clear hb2)
      (try clear hk)
      (try clear hi)
      refine hK.out _ _ ⟨(Ak BK159.out 0).trans rfl,(Ak BK159.out 1).trans rfl⟩ (fun hHeld=> ?_)
      clear hK K
      refine IQ (a':= ?_) ?_ ?_
      rotate_left
      ·show Act.put _ (some 11) _=_
       simp only [Act.put,List.setIfInBounds_toArray,List.set_cons_zero,List.set_cons_succ,ER,ES]
       rfl
      refine Eo (i:=5) (N:=some 12) (v:= ?_) (a':= ?_) #[true,true,true,true,true,true,false,true,true,true,false,false,false,false,false,false] rfl rfl (ET HT_.out (by kernel_rfl)) (fun _ _ _ h=>h) (Or.inl ⟨by rfl,?_⟩) ?_ ?_
      rotate_left
      ·intro w'
       go_simp
       with_reducible rfl
      rotate_left
      ·simp only [Act.put,List.setIfInBounds_toArray,List.set_cons_zero,List.set_cons_succ,ER,ES]
       rfl
      refine Eo (i:=6) (N:=some 13) (v:= ?_) (a':= ?_) #[true,true,true,true,true,true,true,true,true,true,false,false,false,false,false,false] rfl rfl (ET HT_.out (by kernel_rfl)) (fun _ _ _ h=>h) (Or.inl ⟨by rfl,?_⟩) ?_ ?_
      rotate_left
      ·intro w'
       go_simp
       with_reducible rfl
      rotate_left
      ·simp only [Act.put,List.setIfInBounds_toArray,List.set_cons_zero,List.set_cons_succ,ER,ES]
       rfl
      refine one_ (i:=10) (N:=some 17) #[true,true,true,true,true,true,true,true,true,true,true,false,false,false,false,false] rfl rfl (Gi HT_.out (by kernel_rfl)) (by decide) (fun K hK=> ?_)
      refine K2 Tryz.func147 (by kernel_rfl) rfl #[.int .i64 (wrap64 (AA*1000000)),.int .i64 16777216] (by rfl) rfl rfl (by (try simp only [List.map_toArray,List.map_cons,List.map_nil]); first|done|rfl|(simp only [List.length_drop,List.length_take]; rfl)) ?_
      with_reducible refine (Am.calls (wrap64 (AA*1000000)) 16777216 t163 _ A8.out).mono ?_
      rintro e w' ⟨rfl,⟨nd,rfl⟩⟩
      refine ⟨_,rfl,?_⟩
      refine hK.out _ _ ⟨(Ak BK159.out 0).trans rfl,(Ak BK159.out 1).trans rfl⟩ (fun hHeld=> ?_)
      clear hK K
      refine IQ (a':= ?_) ?_ ?_
      rotate_left
      ·show Act.put _ (some 17) _=_
       simp only [Act.put,List.setIfInBounds_toArray,List.set_cons_zero,List.set_cons_succ,ER,ES]
       rfl
      refine one_ (i:=11) (N:=some 18) #[true,true,true,true,true,true,true,true,true,true,true,true,false,false,false,false] rfl rfl (Gi HT_.out (by kernel_rfl)) (by decide) (fun K hK=> ?_)
      refine K2 Tryz.func145 (by kernel_rfl) rfl #[.int .i64 t163] (by rfl) rfl rfl (by (try simp only [List.map_toArray,List.map_cons,List.map_nil]); first|done|rfl|(simp only [List.length_drop,List.length_take]; rfl)) ?_
      with_reducible refine (Cy.calls k t163 t164 _ A9.out).mono ?_
      rintro e w17 ⟨rfl,hb⟩
      refine ⟨_,rfl,?_⟩
      have n0_:=Aside0.mk (ED (g:=gb159) (o:= .cells #[.int .i64 A7,.int .i64 AA] 39 (0,0)) (by (with_reducible repeat (first|refine EC ?_ _|refine EI ?_|refine EE ?_ _)); exact BK159.out) hb)
      have n1_:=Aside0.mk (Ce (by repeat (first|(with_reducible first|exact HB.out|apply Af|apply Ab|apply Ae|refine Dc ?_ GE159.out)|exact HB.out)) hb)
      clear BK159
      clear HB
      have BK159:=n0_
      have HB:=n1_
      clear n0_ n1_
      (try clear hb)
      (try clear hb2)
      (try clear hk)
      (try clear hi)
      refine hK.out _ _ ⟨(Ak BK159.out 0).trans rfl,(Ak BK159.out 1).trans rfl⟩ (fun hHeld=> ?_)
      clear hK K
      refine IQ (a':= ?_) ?_ ?_
      rotate_left
      ·show Act.put _ (some 18) _=_
       simp only [Act.put,List.setIfInBounds_toArray,List.set_cons_zero,List.set_cons_succ,ER,ES]
       rfl
      refine Eo (i:=12) (N:=some 19) (v:= ?_) (a':= ?_) #[true,true,true,true,true,true,true,true,true,true,true,true,true,false,false,false] rfl rfl (ET HT_.out (by kernel_rfl)) (fun _ _ _ h=>h) (Or.inl ⟨by rfl,?_⟩) ?_ ?_
      rotate_left
      ·intro w'
       go_simp
       with_reducible rfl
      rotate_left
      ·simp only [Act.put,List.setIfInBounds_toArray,List.set_cons_zero,List.set_cons_succ,ER,ES]
       rfl
      refine Eo (i:=13) (N:=some 20) (v:= ?_) (a':= ?_) #[true,true,true,true,true,true,true,true,true,true,true,true,true,true,false,false] rfl rfl (ET HT_.out (by kernel_rfl)) (fun _ _ _ h=>h) (Or.inl ⟨by rfl,?_⟩) ?_ ?_
      rotate_left
      ·intro w'
       go_simp
       with_reducible rfl
      rotate_left
      ·simp only [Act.put,List.setIfInBounds_toArray,List.set_cons_zero,List.set_cons_succ,ER,ES]
       rfl
      refine Eo (i:=14) (N:=some 2) (v:= ?_) (a':= ?_) #[true,true,true,true,true,true,true,true,true,true,true,true,true,true,true,false] rfl rfl (ET HT_.out (by kernel_rfl)) (fun _ _ _ h=>h) (Or.inl ⟨by rfl,?_⟩) ?_ ?_
      rotate_left
      ·intro w'
       go_simp
       with_reducible rfl
      rotate_left
      ·simp only [Act.put,List.setIfInBounds_toArray,List.set_cons_zero,List.set_cons_succ,ER,ES]
       rfl
      refine Eo (i:=15) (N:=some 3) (v:= ?_) (a':= ?_) #[true,true,true,true,true,true,true,true,true,true,true,true,true,true,true,true] rfl rfl (ET HT_.out (by kernel_rfl)) (fun _ _ _ h=>h) (Or.inl ⟨by rfl,?_⟩) ?_ ?_
      rotate_left
      ·intro w'
       go_simp
       with_reducible rfl
      rotate_left
      ·simp only [Act.put,List.setIfInBounds_toArray,List.set_cons_zero,List.set_cons_succ,ER,ES]
       rfl
      refine PM (KT HT_.out (by kernel_rfl)) ?_
      try go_wp2
      go_ret2
      exact ⟨by first|rfl|(simp [Dk,Dj]<;>rfl)|(simp [*,Dk,Dj]<;>rfl),by repeat (first|(with_reducible first|exact HB.out|apply Af|apply Ab|apply Ae|refine Dc ?_ GE159.out)|exact HB.out)⟩
     ·rw [if_neg c11] at H
      exact absurd H (by simp)
    ·rw [if_neg c10] at H
     exact absurd H (by simp)
   ·rw [if_neg c7] at H
    exact absurd H (by simp)
  ·rw [if_neg c6] at H
   exact absurd H (by simp)
 ·replace c3:=Bool.eq_false_iff.mpr c3
  subst c3
  have H1:(some ((⟨#[]⟩:ByteArray),1))=some (r1,r2):=by rw [if_neg (show ¬(false=true) by decide)] at H; exact H
  clear H
  have H:=H1
  clear H1
  simp only [zS,zP] at H
  obtain ⟨rfl,rfl⟩:=H
  go_enter Tryz.func94,Tryz.ntmps94
  go_wp2_with (first|((with_reducible refine Ed (N:=1) rfl ?_); refine Ea ?hg (N:=1) ?hd (cs:= #[.int .i64 A7,.int .i64 AA]) (t:=39) ?hr ?_; (case hd=>rfl); (case hg=>rfl); (case hr=>first|(go_simp; done)|(go_simp; rfl)); intro gb159 hg w18 hbox hb; have n0_:=Aside0.mk (Ce (by repeat (first|(with_reducible first|exact HB.out|apply Af|apply Ab|apply Ae)|exact HB.out)) hb); have n1_:=Aside0.mk (hbox); have n2_:=Aside0.mk ((by rw [hg]; exact (Do (by repeat (first|(with_reducible first|exact HB.out|apply Af|apply Ab|apply Ae)|exact HB.out))):w.heap.size≤gb159)); have n3_:=Aside0.mk ((by rw [hg]; exact (Do (by repeat (first|(with_reducible first|exact HB.out|apply Af|apply Ab|apply Ae)|exact HB.out))):w.heap.size≤gb159)); clear HB; have HB:=n0_; have BK159:=n1_; have GW159:=n2_; have GE159:=n3_; clear n0_ n1_ n2_ n3_; clear hb hbox hg; have hcz19_0:w18.cell? ⟨gb159,0,none⟩=some (.int .i64 A7):=(Ak BK159.out 0).trans rfl; have hcz19_1:w18.cell? ⟨gb159,1,none⟩=some (.int .i64 AA):=(Ak BK159.out 1).trans rfl; have hfz19_0:=Ai BK159.out 0; have hfz19_1:=Ai BK159.out 1)|((with_reducible refine E7 (f:=76) rfl ?_); refine Ex (some 5) rfl rfl Tryz.func76 (by kernel_rfl) rfl #[.agg #[.int .i64 A7,.int .i64 AA]] rfl (by (try simp only [List.map_toArray,List.map_cons,List.map_nil]); first|done|rfl|(simp only [List.length_drop,List.length_take]; rfl)) ?_; (with_reducible refine (Ad.calls A7 AA false _ A2.out).mono ?_); rintro e w20 ⟨rfl,hb⟩; refine ⟨_,rfl,?_⟩; have n0_:=Aside0.mk (ED (g:=gb159) (o:= .cells #[.int .i64 A7,.int .i64 AA] 39 (0,0)) (by (with_reducible repeat (first|refine EC ?_ _|refine EI ?_|refine EE ?_ _)); exact BK159.out) hb); have n1_:=Aside0.mk (Ce (by repeat (first|(with_reducible first|exact HB.out|apply Af|apply Ab|apply Ae|refine Dc ?_ GE159.out)|exact HB.out)) hb); clear BK159; clear HB; have BK159:=n0_; have HB:=n1_; clear n0_ n1_; (try clear hb); (try clear hb2); (try clear hk); (try clear hi)))
  go_ret2
  exact ⟨by first|rfl|(simp [Dk,Dj]<;>rfl)|(simp [*,Dk,Dj]<;>rfl),by repeat (first|(with_reducible first|exact HB.out|apply Af|apply Ab|apply Ae|refine Dc ?_ GE159.out)|exact HB.out)⟩
def culetref28_Print.f (k:Nat) (A7:Int) (AA:Int) (AG:Int) (AF:Int) (AE:Int) (AD:Int):Option (ByteArray×Int):=(Bi.f A7 AA AG AF AE AD).bind fun t166=>(if t166=true then ((Cj.f k A7 AA).bind fun bt167=>((Cj.f k AG AF).bind fun bt169=>((Cj.f k AE AD).bind fun bt171=>(if 1+bt167.1.size≤9223372036854775807 then (if ((⟨#[40]⟩:ByteArray)++bt167.1).size+2≤9223372036854775807 then (if (((⟨#[40]⟩:ByteArray)++bt167.1)++(⟨#[44,32]⟩:ByteArray)).size+bt169.1.size≤9223372036854775807 then (if ((((⟨#[40]⟩:ByteArray)++bt167.1)++(⟨#[44,32]⟩:ByteArray))++bt169.1).size+2≤9223372036854775807 then (if (((((⟨#[40]⟩:ByteArray)++bt167.1)++(⟨#[44,32]⟩:ByteArray))++bt169.1)++(⟨#[44,32]⟩:ByteArray)).size+bt171.1.size≤9223372036854775807 then (if ((((((⟨#[40]⟩:ByteArray)++bt167.1)++(⟨#[44,32]⟩:ByteArray))++bt169.1)++(⟨#[44,32]⟩:ByteArray))++bt171.1).size+1≤9223372036854775807 then (some (((((((⟨#[40]⟩:ByteArray)++bt167.1)++(⟨#[44,32]⟩:ByteArray))++bt169.1)++(⟨#[44,32]⟩:ByteArray))++bt171.1)++(⟨#[41]⟩:ByteArray),0)) else (none)) else (none)) else (none)) else (none)) else (none)) else (none))))) else (some ((⟨#[]⟩:ByteArray),1)))
set_option maxHeartbeats 8000000 in
theorem culetref28_Print.calls (k:Nat) (A7:Int) (AA:Int) (AG:Int) (AF:Int) (AE:Int) (AD:Int) (r1:ByteArray) (r2:Int) (w:World) (h:culetref28_Print.f k A7 AA AG AF AE AD=some (r1,r2)):
  Calls Tryz.prog 48 #[.agg #[.int .i64 A7,.int .i64 AA,.int .i64 AG,.int .i64 AF,.int .i64 AE,.int .i64 AD]] w fun e w'=>e= .returned (.tuple #[.string r1,.int .i64 r2])∧Below w.heap.size w w':=by
 have hu53:=Tryz.underlying53
 have hu39:=Tryz.underlying39
 have HB:=Aside0.mk (Below.refl w.heap.size w)
 have H:((Bi.f A7 AA AG AF AE AD).bind fun t166=>(if t166=true then ((Cj.f k A7 AA).bind fun bt167=>((Cj.f k AG AF).bind fun bt169=>((Cj.f k AE AD).bind fun bt171=>(if 1+bt167.1.size≤9223372036854775807 then (if ((⟨#[40]⟩:ByteArray)++bt167.1).size+2≤9223372036854775807 then (if (((⟨#[40]⟩:ByteArray)++bt167.1)++(⟨#[44,32]⟩:ByteArray)).size+bt169.1.size≤9223372036854775807 then (if ((((⟨#[40]⟩:ByteArray)++bt167.1)++(⟨#[44,32]⟩:ByteArray))++bt169.1).size+2≤9223372036854775807 then (if (((((⟨#[40]⟩:ByteArray)++bt167.1)++(⟨#[44,32]⟩:ByteArray))++bt169.1)++(⟨#[44,32]⟩:ByteArray)).size+bt171.1.size≤9223372036854775807 then (if ((((((⟨#[40]⟩:ByteArray)++bt167.1)++(⟨#[44,32]⟩:ByteArray))++bt169.1)++(⟨#[44,32]⟩:ByteArray))++bt171.1).size+1≤9223372036854775807 then (some (((((((⟨#[40]⟩:ByteArray)++bt167.1)++(⟨#[44,32]⟩:ByteArray))++bt169.1)++(⟨#[44,32]⟩:ByteArray))++bt171.1)++(⟨#[41]⟩:ByteArray),0)) else (none)) else (none)) else (none)) else (none)) else (none)) else (none))))) else (some ((⟨#[]⟩:ByteArray),1))))=some (r1,r2):=h
 clear h
 replace H:=Option.bind_eq_some_iff.mp H
 obtain ⟨t166,A20,H⟩:=H
 replace H:(if t166=true then ((Cj.f k A7 AA).bind fun bt167=>((Cj.f k AG AF).bind fun bt169=>((Cj.f k AE AD).bind fun bt171=>(if 1+bt167.1.size≤9223372036854775807 then (if ((⟨#[40]⟩:ByteArray)++bt167.1).size+2≤9223372036854775807 then (if (((⟨#[40]⟩:ByteArray)++bt167.1)++(⟨#[44,32]⟩:ByteArray)).size+bt169.1.size≤9223372036854775807 then (if ((((⟨#[40]⟩:ByteArray)++bt167.1)++(⟨#[44,32]⟩:ByteArray))++bt169.1).size+2≤9223372036854775807 then (if (((((⟨#[40]⟩:ByteArray)++bt167.1)++(⟨#[44,32]⟩:ByteArray))++bt169.1)++(⟨#[44,32]⟩:ByteArray)).size+bt171.1.size≤9223372036854775807 then (if ((((((⟨#[40]⟩:ByteArray)++bt167.1)++(⟨#[44,32]⟩:ByteArray))++bt169.1)++(⟨#[44,32]⟩:ByteArray))++bt171.1).size+1≤9223372036854775807 then (some (((((((⟨#[40]⟩:ByteArray)++bt167.1)++(⟨#[44,32]⟩:ByteArray))++bt169.1)++(⟨#[44,32]⟩:ByteArray))++bt171.1)++(⟨#[41]⟩:ByteArray),0)) else (none)) else (none)) else (none)) else (none)) else (none)) else (none))))) else (some ((⟨#[]⟩:ByteArray),1)))=some (r1,r2):=H
 have A2:=Aside0.mk A20
 clear A20
 by_cases c3:t166=true
 ·subst c3
  have H1:((Cj.f k A7 AA).bind fun bt167=>((Cj.f k AG AF).bind fun bt169=>((Cj.f k AE AD).bind fun bt171=>(if 1+bt167.1.size≤9223372036854775807 then (if ((⟨#[40]⟩:ByteArray)++bt167.1).size+2≤9223372036854775807 then (if (((⟨#[40]⟩:ByteArray)++bt167.1)++(⟨#[44,32]⟩:ByteArray)).size+bt169.1.size≤9223372036854775807 then (if ((((⟨#[40]⟩:ByteArray)++bt167.1)++(⟨#[44,32]⟩:ByteArray))++bt169.1).size+2≤9223372036854775807 then (if (((((⟨#[40]⟩:ByteArray)++bt167.1)++(⟨#[44,32]⟩:ByteArray))++bt169.1)++(⟨#[44,32]⟩:ByteArray)).size+bt171.1.size≤9223372036854775807 then (if ((((((⟨#[40]⟩:ByteArray)++bt167.1)++(⟨#[44,32]⟩:ByteArray))++bt169.1)++(⟨#[44,32]⟩:ByteArray))++bt171.1).size+1≤9223372036854775807 then (some (((((((⟨#[40]⟩:ByteArray)++bt167.1)++(⟨#[44,32]⟩:ByteArray))++bt169.1)++(⟨#[44,32]⟩:ByteArray))++bt171.1)++(⟨#[41]⟩:ByteArray),0)) else (none)) else (none)) else (none)) else (none)) else (none)) else (none)))))=some (r1,r2):=by rw [if_pos rfl] at H; exact H
  clear H
  have H:=H1
  clear H1
  replace H:=Option.bind_eq_some_iff.mp H
  obtain ⟨⟨t167,t168⟩,A40,H⟩:=H
  replace H:((Cj.f k AG AF).bind fun bt169=>((Cj.f k AE AD).bind fun bt171=>(if 1+t167.size≤9223372036854775807 then (if ((⟨#[40]⟩:ByteArray)++t167).size+2≤9223372036854775807 then (if (((⟨#[40]⟩:ByteArray)++t167)++(⟨#[44,32]⟩:ByteArray)).size+bt169.1.size≤9223372036854775807 then (if ((((⟨#[40]⟩:ByteArray)++t167)++(⟨#[44,32]⟩:ByteArray))++bt169.1).size+2≤9223372036854775807 then (if (((((⟨#[40]⟩:ByteArray)++t167)++(⟨#[44,32]⟩:ByteArray))++bt169.1)++(⟨#[44,32]⟩:ByteArray)).size+bt171.1.size≤9223372036854775807 then (if ((((((⟨#[40]⟩:ByteArray)++t167)++(⟨#[44,32]⟩:ByteArray))++bt169.1)++(⟨#[44,32]⟩:ByteArray))++bt171.1).size+1≤9223372036854775807 then (some (((((((⟨#[40]⟩:ByteArray)++t167)++(⟨#[44,32]⟩:ByteArray))++bt169.1)++(⟨#[44,32]⟩:ByteArray))++bt171.1)++(⟨#[41]⟩:ByteArray),0)) else (none)) else (none)) else (none)) else (none)) else (none)) else (none))))=some (r1,r2):=H
  have A4:=Aside0.mk A40
  clear A40
  replace H:=Option.bind_eq_some_iff.mp H
  obtain ⟨⟨t169,t170⟩,A50,H⟩:=H
  replace H:((Cj.f k AE AD).bind fun bt171=>(if 1+t167.size≤9223372036854775807 then (if ((⟨#[40]⟩:ByteArray)++t167).size+2≤9223372036854775807 then (if (((⟨#[40]⟩:ByteArray)++t167)++(⟨#[44,32]⟩:ByteArray)).size+t169.size≤9223372036854775807 then (if ((((⟨#[40]⟩:ByteArray)++t167)++(⟨#[44,32]⟩:ByteArray))++t169).size+2≤9223372036854775807 then (if (((((⟨#[40]⟩:ByteArray)++t167)++(⟨#[44,32]⟩:ByteArray))++t169)++(⟨#[44,32]⟩:ByteArray)).size+bt171.1.size≤9223372036854775807 then (if ((((((⟨#[40]⟩:ByteArray)++t167)++(⟨#[44,32]⟩:ByteArray))++t169)++(⟨#[44,32]⟩:ByteArray))++bt171.1).size+1≤9223372036854775807 then (some (((((((⟨#[40]⟩:ByteArray)++t167)++(⟨#[44,32]⟩:ByteArray))++t169)++(⟨#[44,32]⟩:ByteArray))++bt171.1)++(⟨#[41]⟩:ByteArray),0)) else (none)) else (none)) else (none)) else (none)) else (none)) else (none)))=some (r1,r2):=H
  have A5:=Aside0.mk A50
  clear A50
  replace H:=Option.bind_eq_some_iff.mp H
  obtain ⟨⟨t171,t172⟩,A60,H⟩:=H
  replace H:(if 1+t167.size≤9223372036854775807 then (if ((⟨#[40]⟩:ByteArray)++t167).size+2≤9223372036854775807 then (if (((⟨#[40]⟩:ByteArray)++t167)++(⟨#[44,32]⟩:ByteArray)).size+t169.size≤9223372036854775807 then (if ((((⟨#[40]⟩:ByteArray)++t167)++(⟨#[44,32]⟩:ByteArray))++t169).size+2≤9223372036854775807 then (if (((((⟨#[40]⟩:ByteArray)++t167)++(⟨#[44,32]⟩:ByteArray))++t169)++(⟨#[44,32]⟩:ByteArray)).size+t171.size≤9223372036854775807 then (if ((((((⟨#[40]⟩:ByteArray)++t167)++(⟨#[44,32]⟩:ByteArray))++t169)++(⟨#[44,32]⟩:ByteArray))++t171).size+1≤9223372036854775807 then (some (((((((⟨#[40]⟩:ByteArray)++t167)++(⟨#[44,32]⟩:ByteArray))++t169)++(⟨#[44,32]⟩:ByteArray))++t171)++(⟨#[41]⟩:ByteArray),0)) else (none)) else (none)) else (none)) else (none)) else (none)) else (none))=some (r1,r2):=H
  have A6:=Aside0.mk A60
  clear A60
  by_cases c7:1+t167.size≤9223372036854775807
  ·rw [if_pos c7] at H
   have c7b0:=eq_true c7
   have c7b1:decide (1+t167.size≤9223372036854775807)=true:=decide_eq_true c7
   try have c7b2:(9223372036854775807<1+t167.size)=False:=eq_false (Nat.not_lt.2 c7)
   (try have c7b3:=c7b2)
   (try simp only [ByteArray.size_append,ByteArray.size_extract,Ek,EK,F6,Ei,Eh,Ej,Nat.min_self,Nat.zero_add] at c7b3)
   by_cases c8:((⟨#[40]⟩:ByteArray)++t167).size+2≤9223372036854775807
   ·rw [if_pos c8] at H
    have c8b0:=eq_true c8
    have c8b1:decide (((⟨#[40]⟩:ByteArray)++t167).size+2≤9223372036854775807)=true:=decide_eq_true c8
    try have c8b2:(9223372036854775807<((⟨#[40]⟩:ByteArray)++t167).size+2)=False:=eq_false (Nat.not_lt.2 c8)
    (try have c8b3:=c8b2)
    (try simp only [ByteArray.size_append,ByteArray.size_extract,Ek,EK,F6,Ei,Eh,Ej,Nat.min_self,Nat.zero_add] at c8b3)
    by_cases c9:(((⟨#[40]⟩:ByteArray)++t167)++(⟨#[44,32]⟩:ByteArray)).size+t169.size≤9223372036854775807
    ·rw [if_pos c9] at H
     have c9b0:=eq_true c9
     have c9b1:decide ((((⟨#[40]⟩:ByteArray)++t167)++(⟨#[44,32]⟩:ByteArray)).size+t169.size≤9223372036854775807)=true:=decide_eq_true c9
     try have c9b2:(9223372036854775807<(((⟨#[40]⟩:ByteArray)++t167)++(⟨#[44,32]⟩:ByteArray)).size+t169.size)=False:=eq_false (Nat.not_lt.2 c9)
     (try have c9b3:=c9b2)
     (try simp only [ByteArray.size_append,ByteArray.size_extract,Ek,EK,F6,Ei,Eh,Ej,Nat.min_self,Nat.zero_add] at c9b3)
     by_cases c10:((((⟨#[40]⟩:ByteArray)++t167)++(⟨#[44,32]⟩:ByteArray))++t169).size+2≤9223372036854775807
     ·rw [if_pos c10] at H
      have c10b0:=eq_true c10
      have c10b1:decide (((((⟨#[40]⟩:ByteArray)++t167)++(⟨#[44,32]⟩:ByteArray))++t169).size+2≤9223372036854775807)=true:=decide_eq_true c10
      try have c10b2:(9223372036854775807<((((⟨#[40]⟩:ByteArray)++t167)++(⟨#[44,32]⟩:ByteArray))++t169).size+2)=False:=eq_false (Nat.not_lt.2 c10)
      (try have c10b3:=c10b2)
      (try simp only [ByteArray.size_append,ByteArray.size_extract,Ek,EK,F6,Ei,Eh,Ej,Nat.min_self,Nat.zero_add] at c10b3)
      by_cases c11:(((((⟨#[40]⟩:ByteArray)++t167)++(⟨#[44,32]⟩:ByteArray))++t169)++(⟨#[44,32]⟩:ByteArray)).size+t171.size≤9223372036854775807
      ·rw [if_pos c11] at H
       have c11b0:=eq_true c11
       have c11b1:decide ((((((⟨#[40]⟩:ByteArray)++t167)++(⟨#[44,32]⟩:ByteArray))++t169)++(⟨#[44,32]⟩:ByteArray)).size+t171.size≤9223372036854775807)=true:=decide_eq_true c11
       try have c11b2:(9223372036854775807<(((((⟨#[40]⟩:ByteArray)++t167)++(⟨#[44,32]⟩:ByteArray))++t169)++(⟨#[44,32]⟩:ByteArray)).size+t171.size)=False:=eq_false (Nat.not_lt.2 c11)
       (try have c11b3:=c11b2)
       (try simp only [ByteArray.size_append,ByteArray.size_extract,Ek,EK,F6,Ei,Eh,Ej,Nat.min_self,Nat.zero_add] at c11b3)
       by_cases c12:((((((⟨#[40]⟩:ByteArray)++t167)++(⟨#[44,32]⟩:ByteArray))++t169)++(⟨#[44,32]⟩:ByteArray))++t171).size+1≤9223372036854775807
       ·rw [if_pos c12] at H
        have c12b0:=eq_true c12
        have c12b1:decide (((((((⟨#[40]⟩:ByteArray)++t167)++(⟨#[44,32]⟩:ByteArray))++t169)++(⟨#[44,32]⟩:ByteArray))++t171).size+1≤9223372036854775807)=true:=decide_eq_true c12
        try have c12b2:(9223372036854775807<((((((⟨#[40]⟩:ByteArray)++t167)++(⟨#[44,32]⟩:ByteArray))++t169)++(⟨#[44,32]⟩:ByteArray))++t171).size+1)=False:=eq_false (Nat.not_lt.2 c12)
        (try have c12b3:=c12b2)
        (try simp only [ByteArray.size_append,ByteArray.size_extract,Ek,EK,F6,Ei,Eh,Ej,Nat.min_self,Nat.zero_add] at c12b3)
        simp only [zS,zP] at H
        obtain ⟨rfl,rfl⟩:=H
        go_enter Tryz.func48,Tryz.ntmps48
        go_wp2_with (first|((with_reducible refine Ed (N:=1) rfl ?_); refine Ea ?hg (N:=1) ?hd (cs:= #[.int .i64 A7,.int .i64 AA,.int .i64 AG,.int .i64 AF,.int .i64 AE,.int .i64 AD]) (t:=53) ?hr ?_; (case hd=>rfl); (case hg=>rfl); (case hr=>first|(go_simp; done)|(go_simp; rfl)); intro gb165 hg w13 hbox hb; have n0_:=Aside0.mk (Ce (by repeat (first|(with_reducible first|exact HB.out|apply Af|apply Ab|apply Ae)|exact HB.out)) hb); have n1_:=Aside0.mk (hbox); have n2_:=Aside0.mk ((by rw [hg]; exact (Do (by repeat (first|(with_reducible first|exact HB.out|apply Af|apply Ab|apply Ae)|exact HB.out))):w.heap.size≤gb165)); have n3_:=Aside0.mk ((by rw [hg]; exact (Do (by repeat (first|(with_reducible first|exact HB.out|apply Af|apply Ab|apply Ae)|exact HB.out))):w.heap.size≤gb165)); clear HB; have HB:=n0_; have BK165:=n1_; have GW165:=n2_; have GE165:=n3_; clear n0_ n1_ n2_ n3_; clear hb hbox hg; have hcz14_0:w13.cell? ⟨gb165,0,none⟩=some (.int .i64 A7):=(Ak BK165.out 0).trans rfl; have hcz14_1:w13.cell? ⟨gb165,1,none⟩=some (.int .i64 AA):=(Ak BK165.out 1).trans rfl; have hcz14_2:w13.cell? ⟨gb165,2,none⟩=some (.int .i64 AG):=(Ak BK165.out 2).trans rfl; have hcz14_3:w13.cell? ⟨gb165,3,none⟩=some (.int .i64 AF):=(Ak BK165.out 3).trans rfl; have hcz14_4:w13.cell? ⟨gb165,4,none⟩=some (.int .i64 AE):=(Ak BK165.out 4).trans rfl; have hcz14_5:w13.cell? ⟨gb165,5,none⟩=some (.int .i64 AD):=(Ak BK165.out 5).trans rfl; have hfz14_0:=Ai BK165.out 0; have hfz14_1:=Ai BK165.out 1; have hfz14_2:=Ai BK165.out 2; have hfz14_3:=Ai BK165.out 3; have hfz14_4:=Ai BK165.out 4; have hfz14_5:=Ai BK165.out 5)|((with_reducible refine E7 (f:=34) rfl ?_); refine Ex (some 11) rfl rfl Tryz.func34 (by kernel_rfl) rfl #[.agg #[.int .i64 A7,.int .i64 AA,.int .i64 AG,.int .i64 AF,.int .i64 AE,.int .i64 AD]] rfl (by (try simp only [List.map_toArray,List.map_cons,List.map_nil]); first|done|rfl|(simp only [List.length_drop,List.length_take]; rfl)) ?_; (with_reducible refine (Bi.calls A7 AA AG AF AE AD true _ A2.out).mono ?_); rintro e w15 ⟨rfl,hb⟩; refine ⟨_,rfl,?_⟩; have n0_:=Aside0.mk (ED (g:=gb165) (o:= .cells #[.int .i64 A7,.int .i64 AA,.int .i64 AG,.int .i64 AF,.int .i64 AE,.int .i64 AD] 53 (0,0)) (by (with_reducible repeat (first|refine EC ?_ _|refine EI ?_|refine EE ?_ _)); exact BK165.out) hb); have n1_:=Aside0.mk (Ce (by repeat (first|(with_reducible first|exact HB.out|apply Af|apply Ab|apply Ae|refine Dc ?_ GE165.out)|exact HB.out)) hb); clear BK165; clear HB; have BK165:=n0_; have HB:=n1_; clear n0_ n1_; (try clear hb); (try clear hb2); (try clear hk); (try clear hi); have hcz16_0:w15.cell? ⟨gb165,0,none⟩=some (.int .i64 A7):=(Ak BK165.out 0).trans rfl; have hcz16_1:w15.cell? ⟨gb165,1,none⟩=some (.int .i64 AA):=(Ak BK165.out 1).trans rfl; have hcz16_2:w15.cell? ⟨gb165,2,none⟩=some (.int .i64 AG):=(Ak BK165.out 2).trans rfl; have hcz16_3:w15.cell? ⟨gb165,3,none⟩=some (.int .i64 AF):=(Ak BK165.out 3).trans rfl; have hcz16_4:w15.cell? ⟨gb165,4,none⟩=some (.int .i64 AE):=(Ak BK165.out 4).trans rfl; have hcz16_5:w15.cell? ⟨gb165,5,none⟩=some (.int .i64 AD):=(Ak BK165.out 5).trans rfl; have hfz16_0:=Ai BK165.out 0; have hfz16_1:=Ai BK165.out 1; have hfz16_2:=Ai BK165.out 2; have hfz16_3:=Ai BK165.out 3; have hfz16_4:=Ai BK165.out 4; have hfz16_5:=Ai BK165.out 5)|((with_reducible refine E7 (f:=94) rfl ?_); refine Ex (some 16) rfl rfl Tryz.func94 (by kernel_rfl) rfl #[.agg #[.int .i64 A7,.int .i64 AA]] rfl (by (try simp only [List.map_toArray,List.map_cons,List.map_nil]); first|done|rfl|(simp only [List.length_drop,List.length_take]; rfl)) ?_; (with_reducible refine (Cj.calls k A7 AA t167 t168 _ A4.out).mono ?_); rintro e w17 ⟨rfl,hb⟩; refine ⟨_,rfl,?_⟩; have n0_:=Aside0.mk (ED (g:=gb165) (o:= .cells #[.int .i64 A7,.int .i64 AA,.int .i64 AG,.int .i64 AF,.int .i64 AE,.int .i64 AD] 53 (0,0)) (by (with_reducible repeat (first|refine EC ?_ _|refine EI ?_|refine EE ?_ _)); exact BK165.out) hb); have n1_:=Aside0.mk (Ce (by repeat (first|(with_reducible first|exact HB.out|apply Af|apply Ab|apply Ae|refine Dc ?_ GE165.out)|exact HB.out)) hb); clear BK165; clear HB; have BK165:=n0_; have HB:=n1_; clear n0_ n1_; (try clear hb); (try clear hb2); (try clear hk); (try clear hi); have hcz18_0:w17.cell? ⟨gb165,0,none⟩=some (.int .i64 A7):=(Ak BK165.out 0).trans rfl; have hcz18_1:w17.cell? ⟨gb165,1,none⟩=some (.int .i64 AA):=(Ak BK165.out 1).trans rfl; have hcz18_2:w17.cell? ⟨gb165,2,none⟩=some (.int .i64 AG):=(Ak BK165.out 2).trans rfl; have hcz18_3:w17.cell? ⟨gb165,3,none⟩=some (.int .i64 AF):=(Ak BK165.out 3).trans rfl; have hcz18_4:w17.cell? ⟨gb165,4,none⟩=some (.int .i64 AE):=(Ak BK165.out 4).trans rfl; have hcz18_5:w17.cell? ⟨gb165,5,none⟩=some (.int .i64 AD):=(Ak BK165.out 5).trans rfl; have hfz18_0:=Ai BK165.out 0; have hfz18_1:=Ai BK165.out 1; have hfz18_2:=Ai BK165.out 2; have hfz18_3:=Ai BK165.out 3; have hfz18_4:=Ai BK165.out 4; have hfz18_5:=Ai BK165.out 5)|((with_reducible refine E7 (f:=94) rfl ?_); refine Ex (some 22) rfl rfl Tryz.func94 (by kernel_rfl) rfl #[.agg #[.int .i64 AG,.int .i64 AF]] rfl (by (try simp only [List.map_toArray,List.map_cons,List.map_nil]); first|done|rfl|(simp only [List.length_drop,List.length_take]; rfl)) ?_; (with_reducible refine (Cj.calls k AG AF t169 t170 _ A5.out).mono ?_); rintro e w19 ⟨rfl,hb⟩; refine ⟨_,rfl,?_⟩; have n0_:=Aside0.mk (ED (g:=gb165) (o:= .cells #[.int .i64 A7,.int .i64 AA,.int .i64 AG,.int .i64 AF,.int .i64 AE,.int .i64 AD] 53 (0,0)) (by (with_reducible repeat (first|refine EC ?_ _|refine EI ?_|refine EE ?_ _)); exact BK165.out) hb); have n1_:=Aside0.mk (Ce (by repeat (first|(with_reducible first|exact HB.out|apply Af|apply Ab|apply Ae|refine Dc ?_ GE165.out)|exact HB.out)) hb); clear BK165; clear HB; have BK165:=n0_; have HB:=n1_; clear n0_ n1_; (try clear hb); (try clear hb2); (try clear hk); (try clear hi); have hcz20_0:w19.cell? ⟨gb165,0,none⟩=some (.int .i64 A7):=(Ak BK165.out 0).trans rfl; have hcz20_1:w19.cell? ⟨gb165,1,none⟩=some (.int .i64 AA):=(Ak BK165.out 1).trans rfl; have hcz20_2:w19.cell? ⟨gb165,2,none⟩=some (.int .i64 AG):=(Ak BK165.out 2).trans rfl; have hcz20_3:w19.cell? ⟨gb165,3,none⟩=some (.int .i64 AF):=(Ak BK165.out 3).trans rfl; have hcz20_4:w19.cell? ⟨gb165,4,none⟩=some (.int .i64 AE):=(Ak BK165.out 4).trans rfl; have hcz20_5:w19.cell? ⟨gb165,5,none⟩=some (.int .i64 AD):=(Ak BK165.out 5).trans rfl; have hfz20_0:=Ai BK165.out 0; have hfz20_1:=Ai BK165.out 1; have hfz20_2:=Ai BK165.out 2; have hfz20_3:=Ai BK165.out 3; have hfz20_4:=Ai BK165.out 4; have hfz20_5:=Ai BK165.out 5)|((with_reducible refine E7 (f:=94) rfl ?_); refine Ex (some 28) rfl rfl Tryz.func94 (by kernel_rfl) rfl #[.agg #[.int .i64 AE,.int .i64 AD]] rfl (by (try simp only [List.map_toArray,List.map_cons,List.map_nil]); first|done|rfl|(simp only [List.length_drop,List.length_take]; rfl)) ?_; (with_reducible refine (Cj.calls k AE AD t171 t172 _ A6.out).mono ?_); rintro e w21 ⟨rfl,hb⟩; refine ⟨_,rfl,?_⟩; have n0_:=Aside0.mk (ED (g:=gb165) (o:= .cells #[.int .i64 A7,.int .i64 AA,.int .i64 AG,.int .i64 AF,.int .i64 AE,.int .i64 AD] 53 (0,0)) (by (with_reducible repeat (first|refine EC ?_ _|refine EI ?_|refine EE ?_ _)); exact BK165.out) hb); have n1_:=Aside0.mk (Ce (by repeat (first|(with_reducible first|exact HB.out|apply Af|apply Ab|apply Ae|refine Dc ?_ GE165.out)|exact HB.out)) hb); clear BK165; clear HB; have BK165:=n0_; have HB:=n1_; clear n0_ n1_; (try clear hb); (try clear hb2); (try clear hk); (try clear hi)))
        go_ret2
        exact ⟨by first|rfl|(simp [Dk,Dj]<;>rfl)|(simp [*,Dk,Dj]<;>rfl),by repeat (first|(with_reducible first|exact HB.out|apply Af|apply Ab|apply Ae|refine Dc ?_ GE165.out)|exact HB.out)⟩
       ·rw [if_neg c12] at H
        exact absurd H (by simp)
      ·rw [if_neg c11] at H
       exact absurd H (by simp)
     ·rw [if_neg c10] at H
      exact absurd H (by simp)
    ·rw [if_neg c9] at H
     exact absurd H (by simp)
   ·rw [if_neg c8] at H
    exact absurd H (by simp)
  ·rw [if_neg c7] at H
   exact absurd H (by simp)
 ·replace c3:=Bool.eq_false_iff.mpr c3
  subst c3
  have H1:(some ((⟨#[]⟩:ByteArray),1))=some (r1,r2):=by rw [if_neg (show ¬(false=true) by decide)] at H; exact H
  clear H
  have H:=H1
  clear H1
  simp only [zS,zP] at H
  obtain ⟨rfl,rfl⟩:=H
  go_enter Tryz.func48,Tryz.ntmps48
  go_wp2_with (first|((with_reducible refine Ed (N:=1) rfl ?_); refine Ea ?hg (N:=1) ?hd (cs:= #[.int .i64 A7,.int .i64 AA,.int .i64 AG,.int .i64 AF,.int .i64 AE,.int .i64 AD]) (t:=53) ?hr ?_; (case hd=>rfl); (case hg=>rfl); (case hr=>first|(go_simp; done)|(go_simp; rfl)); intro gb165 hg w22 hbox hb; have n0_:=Aside0.mk (Ce (by repeat (first|(with_reducible first|exact HB.out|apply Af|apply Ab|apply Ae)|exact HB.out)) hb); have n1_:=Aside0.mk (hbox); have n2_:=Aside0.mk ((by rw [hg]; exact (Do (by repeat (first|(with_reducible first|exact HB.out|apply Af|apply Ab|apply Ae)|exact HB.out))):w.heap.size≤gb165)); have n3_:=Aside0.mk ((by rw [hg]; exact (Do (by repeat (first|(with_reducible first|exact HB.out|apply Af|apply Ab|apply Ae)|exact HB.out))):w.heap.size≤gb165)); clear HB; have HB:=n0_; have BK165:=n1_; have GW165:=n2_; have GE165:=n3_; clear n0_ n1_ n2_ n3_; clear hb hbox hg; have hcz23_0:w22.cell? ⟨gb165,0,none⟩=some (.int .i64 A7):=(Ak BK165.out 0).trans rfl; have hcz23_1:w22.cell? ⟨gb165,1,none⟩=some (.int .i64 AA):=(Ak BK165.out 1).trans rfl; have hcz23_2:w22.cell? ⟨gb165,2,none⟩=some (.int .i64 AG):=(Ak BK165.out 2).trans rfl; have hcz23_3:w22.cell? ⟨gb165,3,none⟩=some (.int .i64 AF):=(Ak BK165.out 3).trans rfl; have hcz23_4:w22.cell? ⟨gb165,4,none⟩=some (.int .i64 AE):=(Ak BK165.out 4).trans rfl; have hcz23_5:w22.cell? ⟨gb165,5,none⟩=some (.int .i64 AD):=(Ak BK165.out 5).trans rfl; have hfz23_0:=Ai BK165.out 0; have hfz23_1:=Ai BK165.out 1; have hfz23_2:=Ai BK165.out 2; have hfz23_3:=Ai BK165.out 3; have hfz23_4:=Ai BK165.out 4; have hfz23_5:=Ai BK165.out 5)|((with_reducible refine E7 (f:=34) rfl ?_); refine Ex (some 11) rfl rfl Tryz.func34 (by kernel_rfl) rfl #[.agg #[.int .i64 A7,.int .i64 AA,.int .i64 AG,.int .i64 AF,.int .i64 AE,.int .i64 AD]] rfl (by (try simp only [List.map_toArray,List.map_cons,List.map_nil]); first|done|rfl|(simp only [List.length_drop,List.length_take]; rfl)) ?_; (with_reducible refine (Bi.calls A7 AA AG AF AE AD false _ A2.out).mono ?_); rintro e w24 ⟨rfl,hb⟩; refine ⟨_,rfl,?_⟩; have n0_:=Aside0.mk (ED (g:=gb165) (o:= .cells #[.int .i64 A7,.int .i64 AA,.int .i64 AG,.int .i64 AF,.int .i64 AE,.int .i64 AD] 53 (0,0)) (by (with_reducible repeat (first|refine EC ?_ _|refine EI ?_|refine EE ?_ _)); exact BK165.out) hb); have n1_:=Aside0.mk (Ce (by repeat (first|(with_reducible first|exact HB.out|apply Af|apply Ab|apply Ae|refine Dc ?_ GE165.out)|exact HB.out)) hb); clear BK165; clear HB; have BK165:=n0_; have HB:=n1_; clear n0_ n1_; (try clear hb); (try clear hb2); (try clear hk); (try clear hi)))
  go_ret2
  exact ⟨by first|rfl|(simp [Dk,Dj]<;>rfl)|(simp [*,Dk,Dj]<;>rfl),by repeat (first|(with_reducible first|exact HB.out|apply Af|apply Ab|apply Ae|refine Dc ?_ GE165.out)|exact HB.out)⟩
end Go.Proofs.YtpejalpgficopaaGreatDoor.PPr
end
section
namespace Go.Proofs.YtpejalpgficopaaGreatDoor.G
open Go
def dch (n:Nat):UInt8:=UInt8.ofNat (48+n)
def rloop (least n:Nat) (s:List UInt8):List UInt8:=if h:0<n∨s.length<least then rloop least (n/10) (dch (n%10)::s) else s
termination_by (n,least-s.length)
decreasing_by
 rcases Nat.eq_zero_or_pos n with h0|h0
 ·subst h0
  simp only [Nat.zero_div]
  refine Prod.Lex.right _ ?_
  simp only [List.length_cons]
  omega
 ·exact Prod.Lex.left _ _ (by omega)
theorem rloop_stop {least:Nat} {s:List UInt8} (h:least≤s.length):rloop least 0 s=s:=by
 rw [rloop,dif_neg (by omega)]
theorem rloop_step {least n:Nat} {s:List UInt8} (h:0<n∨s.length<least):rloop least n s=rloop least (n/10) (dch (n%10)::s):=by
 rw [rloop,dif_pos h]
theorem Nq {least:Nat} :∀(n:Nat) (s:List UInt8),0<n→least≤s.length+1→rloop least n s=Lib.decDigits n++s:=by
 intro n
 induction n using Nat.strongRecOn with
 | _ n ih=>
  intro s h0 hs
  rw [rloop_step (.inl h0),Lib.decDigits]
  by_cases h:n<10
  ·rw [dif_pos h,show n/10=0 by omega,show n%10=n by omega,rloop_stop (by simp only [List.length_cons]; omega)]
   rfl
  ·rw [dif_neg h,ih (n/10) (by omega) _ (by omega) (by simp only [List.length_cons]; omega),List.append_assoc]
   rfl
theorem rloop_one (n:Nat):rloop 1 n []=Lib.decDigits n:=by
 rcases Nat.eq_zero_or_pos n with h|h
 ·subst h
  rw [rloop_step (.inr (by decide)),rloop_stop (by simp),Lib.decDigits]
  rfl
 ·rw [Nq n [] h (by simp),List.append_nil]
def six (n:Nat):List UInt8:=[dch (n/100000%10),dch (n/10000%10),dch (n/1000%10),dch (n/100%10),dch (n/10%10),dch (n%10)]
theorem rloop_six {n:Nat} (h:n<1000000):rloop 6 n []=six n:=by
 have e:∀(a:Nat) (s:List UInt8),s.length<6→rloop 6 a s=rloop 6 (a/10) (dch (a%10)::s):=fun a s hs=>rloop_step (.inr hs)
 rw [e _ _ (by simp),e _ _ (by simp),e _ _ (by simp),e _ _ (by simp),e _ _ (by simp),e _ _ (by simp)]
 rw [show n/10/10/10/10/10/10=0 by omega,rloop_stop (by simp)]
 unfold six
 rw [show n/10/10=n/100 by omega,show n/100/10=n/1000 by omega,show n/1000/10=n/10000 by omega,show n/10000/10=n/100000 by omega]
theorem dec_million {n:Nat} (h:n<1000000):Lib.decDigits (1000000+n)=49::six n:=by
 have e:∀a:Nat,10≤a→Lib.decDigits a=Lib.decDigits (a/10)++[dch (a%10)]:=fun a ha=>by rw [Lib.decDigits,dif_neg (by omega)]; rfl
 rw [e (1000000+n) (by omega),e ((1000000+n)/10) (by omega),e ((1000000+n)/10/10) (by omega),e ((1000000+n)/10/10/10) (by omega),e ((1000000+n)/10/10/10/10) (by omega),e ((1000000+n)/10/10/10/10/10) (by omega)]
 rw [show (1000000+n)/10/10/10/10/10/10=1 by omega,show Lib.decDigits 1=[49] by rw [Lib.decDigits]; rfl]
 unfold six
 rw [show (1000000+n)%10=n%10 by omega,show (1000000+n)/10%10=n/10%10 by omega,show (1000000+n)/10/10%10=n/100%10 by omega,show (1000000+n)/10/10/10%10=n/1000%10 by omega,show (1000000+n)/10/10/10/10%10=n/10000%10 by omega,show (1000000+n)/10/10/10/10/10%10=n/100000%10 by omega]
 rfl
end Go.Proofs.YtpejalpgficopaaGreatDoor.G
end
section
namespace Go.Proofs.YtpejalpgficopaaGreatDoor.PPr
open Go.RowKit Go.Proofs.YtpejalpgficopaaGreatDoorW.PrintWords Go.Proofs.YtpejalpgficopaaGreatDoorW.PrintLast Go.Proofs.YtpejalpgficopaaGreatDoorW.PrintMore
theorem Ev.iff_pos {α:Type} {c:Prop} [Decidable c] {g f:Nat→Option α} {r:α} (h:c) (k:Ev g r):Ev (fun n=>if c then g n else f n) r:=Ev.congr (fun n=>if_pos h) k
theorem Ev.iff_neg {α:Type} {c:Prop} [Decidable c] {g f:Nat→Option α} {r:α} (h:¬c) (k:Ev f r):Ev (fun n=>if c then g n else f n) r:=Ev.congr (fun n=>if_neg h) k
theorem Ev.bindc {α β:Type} {o:Option α} {f:Nat→α→Option β} {a:α} {r:β} (h:o=some a) (k:Ev (fun n=>f n a) r):Ev (fun n=>o.bind (f n)) r:=Ev.congr (fun n=>by rw [h]; rfl) k
theorem Ev.const {α:Type} {o:Option α} {r:α} (h:o=some r):Ev (fun _=>o) r:=⟨0,fun _ _=>h⟩
theorem w64 {x:Int} (h: -9223372036854775808≤x) (h':x≤9223372036854775807):wrap64 x=x:=by unfold wrap64; omega
def bs (l:List UInt8):ByteArray:=⟨l.toArray⟩
theorem Jp (a b:List UInt8):bs a++bs b=bs (a++b):=by
 apply ByteArray.ext
 rw [ByteArray.data_append]
 simp [bs]
theorem F0 (a:List UInt8):(bs a).size=a.length:=by simp [bs,ByteArray.size]
theorem dgt {n:Nat} :strOfNums ([(wrap64 (48+Int.tmod (n:Int) 10))%256]:List Int)=bs [G.dch (n%10)]:=by
 have e:Int.tmod (n:Int) 10=((n%10:Nat):Int):=by
  rw [Int.tmod_eq_emod_of_nonneg (by omega)]; omega
 rw [e,w64 (by omega) (by omega)]
 have e2:((48+((n%10:Nat):Int))%256).toNat=48+n%10:=by omega
 unfold strOfNums bs
 simp only [List.map_cons,List.map_nil,e2]
 rfl
theorem tdv {n:Nat} (k:Nat) (hk:k=10∨k=1000000) (hn:n≤1000000000):wrap64 (Int.tdiv (n:Int) (k:Int))=((n/k:Nat):Int):=by
 rw [Int.tdiv_eq_ediv_of_nonneg (by omega),←Int.natCast_ediv]
 have h1:=Nat.div_le_self n k
 generalize n/k=q at h1 ⊢
 rw [w64 (by omega) (by omega)]
theorem rdig:∀(n:Nat) (least:Nat) (j:Nat) (s:List UInt8),n≤1000000→s.length+j=least→s.length≤100→least≤10→Ev (fun k=>Cx.l0 k (n:Int) (least:Int) (bs s)) (bs (G.rloop least n s)):=by
 have one:∀(n least:Nat) (s:List UInt8),n≤1000000→s.length≤1000→(0<n∨s.length<least)→Ev (fun k=>Cx.l0 k ((n/10:Nat):Int) (least:Int) (bs (G.dch (n%10)::s))) (bs (G.rloop least (n/10) (G.dch (n%10)::s)))→Ev (fun k=>Cx.l0 k (n:Int) (least:Int) (bs s)) (bs (G.rloop least n s)):=by
  intro n least s hn hs hc h
  have hz:(bs [G.dch (n%10)]).size+(bs s).size≤9223372036854775807:=by rw [F0,F0]; simp only [List.length_cons,List.length_nil]; omega
  have h2:Ev (fun k=>(some (([(wrap64 (48+(Int.tmod (n:Int) 10)))%256]:List Int):List Int)).bind fun y=>(if (strOfNums y).size+(bs s).size≤9223372036854775807 then (Cx.l0 k (wrap64 (Int.tdiv (n:Int) 10)) (least:Int) ((strOfNums y)++bs s)) else (none))) (bs (G.rloop least n s)):=by
   refine Ev.bindc rfl ?_
   rw [dgt,show ((10:Int))=((10:Nat):Int) from rfl,tdv 10 (.inl rfl) (by omega),Jp]
   refine Ev.iff_pos hz ?_
   rw [G.rloop_step hc]
   exact h
  by_cases c:(n:Int)>0
  ·exact Ev.step (fun k=>rfl) (Ev.iff_pos c h2)
  ·refine Ev.step (fun k=>rfl) (Ev.iff_neg c (Ev.iff_pos ?_ h2))
   rw [F0]; omega
 intro n
 induction n using Nat.strongRecOn with
 | _ n ih=>
  intro least j
  induction j with
  | zero=>
   intro s hn hj hs hl
   by_cases c:0<n
   ·refine one n least s hn (by omega) (.inl c) ?_
    by_cases e:0<n/10
    ·have:=ih (n/10) (by omega)
     have hlong:∀(m:Nat) (t:List UInt8),m≤1000000→least≤t.length→t.length+m≤2000000→Ev (fun k=>Cx.l0 k (m:Int) (least:Int) (bs t)) (bs (G.rloop least m t)):=by
      intro m
      induction m using Nat.strongRecOn with
      | _ m ih2=>
       intro t hm ht hb
       by_cases d:0<m
       ·have hz:(bs [G.dch (m%10)]).size+(bs t).size≤9223372036854775807:=by rw [F0,F0]; simp only [List.length_cons,List.length_nil]; omega
        refine Ev.step (fun k=>rfl) (Ev.iff_pos (by omega) (Ev.bindc rfl ?_))
        rw [dgt,show ((10:Int))=((10:Nat):Int) from rfl,tdv 10 (.inl rfl) (by omega),Jp]
        refine Ev.iff_pos hz ?_
        rw [G.rloop_step (.inl d)]
        exact ih2 (m/10) (by omega) _ (by omega) (by simp only [List.length_append,List.length_cons,List.length_nil]; omega) (by simp only [List.length_append,List.length_cons,List.length_nil]; omega)
       ·have e0:m=0:=by omega
        subst e0
        rw [G.rloop_stop ht]
        exact Ev.step (fun k=>rfl) (Ev.iff_neg (by omega) (Ev.iff_neg (by rw [F0]; omega) (Ev.now _)))
     exact hlong (n/10) _ (by omega) (by simp only [List.length_cons]; omega) (by simp only [List.length_cons]; omega)
    ·have e0:n/10=0:=by omega
     rw [e0,G.rloop_stop (by simp only [List.length_cons]; omega)]
     exact Ev.step (fun k=>rfl) (Ev.iff_neg (by omega) (Ev.iff_neg (by rw [F0]; simp only [List.length_cons]; omega) (Ev.now _)))
   ·have e0:n=0:=by omega
    subst e0
    rw [G.rloop_stop (by omega)]
    exact Ev.step (fun k=>rfl) (Ev.iff_neg (by omega) (Ev.iff_neg (by rw [F0]; omega) (Ev.now _)))
  | succ j ihj=>
   intro s hn hj hs hl
   refine one n least s hn (by omega) (.inr (by omega)) ?_
   by_cases e:n/10<n
   ·exact ih (n/10) e least j _ (by omega) (by simp only [List.length_cons]; omega) (by simp only [List.length_cons]; omega) hl
   ·have e0:n=0:=by omega
    subst e0
    exact ihj _ (by omega) (by simp only [List.length_cons]; omega) (by simp only [List.length_cons]; omega) hl
def milB (u:Nat):ByteArray:=bs (Go.Lib.decDigits (u/1000000)++46::G.six (u%1000000))
def decB (n:Int):ByteArray:=if n<0 then bs [45]++milB n.natAbs else milB n.natAbs
theorem PN:∀(k u:Nat),u<10^(k+1)→(Go.Lib.decDigits u).length≤k+1
 |0,u,h=>by rw [Go.Lib.decDigits,dif_pos (by omega)]; simp
 | k +1,u,h=>by
  rw [Go.Lib.decDigits]
  by_cases c:u<10
  ·rw [dif_pos c]; simp
  ·rw [dif_neg c,List.length_append]
   have:=PN k (u/10) (by rw [Nat.pow_succ] at h; omega)
   simp only [List.length_cons,List.length_nil]; omega
theorem LN {u:Nat} (h:u≤10000000):(Go.Lib.decDigits u).length≤8:=PN 7 u (by omega)
theorem G5 {n:Int} (h:n.natAbs≤1000000000):(decB n).size≤100:=by
 have h1:(milB n.natAbs).size≤20:=by
  unfold milB
  rw [F0,List.length_append]
  have:=LN (u:=n.natAbs/1000000) (by omega)
  simp only [List.length_cons,G.six,List.length_nil]; omega
 unfold decB
 split
 ·rw [ByteArray.size_append,F0]; simp only [List.length_cons,List.length_nil]; omega
 ·omega
theorem Qq (u:Nat):Qr (u:Int)=bs (Go.Lib.decDigits u):=by
 unfold Qr bs
 rw [Go.Lib.itoa,if_neg (by omega),Int.toNat_natCast]
theorem tmd {n:Nat} :Int.tmod (n:Int) 1000000=((n%1000000:Nat):Int):=by
 rw [Int.tmod_eq_emod_of_nonneg (by omega)]; omega
theorem PE (u:Nat) (h:u≤1000000000):Du.f (u:Int)=some (bs (Go.Lib.decDigits u)):=by
 unfold Du.f
 rw [if_pos (by omega),Qq]
theorem ext_one (c:UInt8) (l:List UInt8):(bs (c::l)).extract 1 (bs (c::l)).size=bs l:=by
 apply ByteArray.ext
 rw [ByteArray.data_extract,F0]
 simp [bs]
theorem NM {u:Nat} (h:u≤1000000000) (pre:ByteArray) (hp:pre.size≤1):
  ((Du.f (wrap64 (1000000+(Int.tmod (u:Int) 1000000)))).bind fun t124=>((Du.f (wrap64 (Int.tdiv (u:Int) 1000000))).bind fun t125=>(if pre.size+t125.size≤9223372036854775807 then (if (pre++t125).size+1≤9223372036854775807 then (if 1≤(t124.size:Int) then (if ((pre++t125)++(⟨#[46]⟩:ByteArray)).size+(t124.extract 1 t124.size).size≤9223372036854775807 then (some (((pre++t125)++(⟨#[46]⟩:ByteArray))++(t124.extract 1 t124.size))) else (none)) else (none)) else (none)) else (none))))=some (pre++milB u):=by
 have e1:wrap64 (1000000+(Int.tmod (u:Int) 1000000))=((1000000+u%1000000:Nat):Int):=by rw [tmd,w64 (by omega) (by omega)]; omega
 have e2:wrap64 (Int.tdiv (u:Int) 1000000)=((u/1000000:Nat):Int):=tdv 1000000 (.inr rfl) h
 have l1:=LN (u:=u/1000000) (by omega)
 have l6:(G.six (u%1000000)).length=6:=rfl
 rw [e1,e2,PE _ (by omega),PE _ (by omega),Option.bind_some,Option.bind_some,G.dec_million (Nat.mod_lt _ (by omega)),ext_one]
 have s0:(⟨#[46]⟩:ByteArray).size=1:=rfl
 rw [if_pos (by rw [F0]; omega),if_pos (by rw [ByteArray.size_append,F0]; omega),if_pos (by rw [F0]; simp only [List.length_cons]; omega),if_pos (by rw [ByteArray.size_append,ByteArray.size_append,F0,F0,s0]; omega)]
 unfold milB
 have e3:(⟨#[46]⟩:ByteArray)=bs [46]:=rfl
 rw [e3,ByteArray.append_assoc,ByteArray.append_assoc,Jp,Jp]
 rfl
theorem Nb {n:Int} (h:n.natAbs≤1000000000):Cu.f n=some (decB n):=by
 unfold Cu.f decB
 by_cases c:n<0
 ·rw [if_pos c,if_pos c]
  have e:wrap64 (-n)=((n.natAbs:Nat):Int):=by rw [w64 (by omega) (by omega)]; omega
  rw [e]
  exact NM h (⟨#[45]⟩:ByteArray) (by decide)
 ·rw [if_neg c,if_neg c]
  obtain ⟨u,rfl⟩:=Int.eq_ofNat_of_zero_le (show 0≤n by omega)
  have:=NM (u:=u) (by omega) (⟨#[]⟩:ByteArray) (by decide)
  rw [Int.natAbs_natCast]
  refine this.trans ?_
  congr 1
theorem K4 (u:Nat) (h:u≤1000000000):Ev (fun k=>Cy.f k (u:Int)) (milB u):=by
 have e2:wrap64 (Int.tdiv (u:Int) 1000000)=((u/1000000:Nat):Int):=tdv 1000000 (.inr rfl) h
 have l1:=LN (u:=u/1000000) (by omega)
 have l6:(G.six (u%1000000)).length=6:=rfl
 have h1:Ev (fun k=>Cx.f k (wrap64 (Int.tdiv (u:Int) 1000000)) 1) (bs (Go.Lib.decDigits (u/1000000))):=by
  rw [e2]
  have:=rdig (u/1000000) 1 1 [] (by omega) rfl (by simp) (by omega)
  rw [G.rloop_one] at this
  exact this
 have h2:Ev (fun k=>Cx.f k (Int.tmod (u:Int) 1000000) 6) (bs (G.six (u%1000000))):=by
  rw [tmd]
  have:=rdig (u%1000000) 6 6 [] (by omega) rfl (by simp) (by omega)
  rw [G.rloop_six (Nat.mod_lt _ (by omega))] at this
  exact this
 refine Ev.step (g:=fun k=>Cy.f k (u:Int)) (fun k=>rfl) (Ev.iff_neg (by omega) (Ev.bind h1 (Ev.iff_pos (by rw [F0]; omega) (Ev.bind h2 (Ev.iff_pos (by rw [ByteArray.size_append,F0,F0,show (⟨#[46]⟩:ByteArray).size=1 from rfl]; omega) (Ev.const ?_))))))
 unfold milB
 have e3:(⟨#[46]⟩:ByteArray)=bs [46]:=rfl
 rw [e3,Jp,Jp,List.append_assoc]
 rfl
theorem PO {n:Int} (h:n.natAbs≤1000000000):Ev (fun k=>Cy.f k n) (decB n):=by
 unfold decB
 by_cases c:n<0
 ·rw [if_pos c]
  have e:wrap64 (-n)=((n.natAbs:Nat):Int):=by rw [w64 (by omega) (by omega)]; omega
  have h1:=K4 n.natAbs h
  rw [←e] at h1
  have hz:=G5 h
  unfold decB at hz
  rw [if_pos c,ByteArray.size_append,F0] at hz
  exact Ev.step (g:=fun k=>Cy.f k n) (fun k=>rfl) (Ev.iff_pos c (Ev.bind h1 (Ev.iff_pos (by simp only [List.length_cons,List.length_nil] at hz; omega) (Ev.now _))))
 ·rw [if_neg c]
  obtain ⟨u,rfl⟩:=Int.eq_ofNat_of_zero_le (show 0≤n by omega)
  exact K4 u (by omega)
theorem LG {a:Int} (h:a.natAbs≤2000000000000000):As.f a 16777216=some (a/16777216):=by
 unfold As.f
 rw [if_neg (by decide)]
 have m:=Int.tmod_add_mul_tdiv a 16777216
 have s:=Int.natAbs_tmod a 16777216
 have hb:(a.tmod 16777216).natAbs<16777216:=by rw [s]; exact Nat.mod_lt _ (by decide)
 by_cases hs:0≤a
 ·have e1:Int.tdiv a 16777216=a/16777216:=Int.tdiv_eq_ediv_of_nonneg hs
  rw [e1]
  split
  ·rw [w64 (by omega) (by omega)]
  ·rw [if_neg (by omega),w64 (by omega) (by omega)]
 ·have hn:a.tmod 16777216≤0:=by
   have:=Int.tmod_nonneg (a:= -a) 16777216 (by omega)
   rw [Int.neg_tmod] at this; omega
  have hq:(Int.tdiv a 16777216).natAbs≤2000000000000000:=by
   have:=Int.natAbs_tdiv a 16777216
   rw [this]; exact Nat.le_trans (Nat.div_le_self _ _) h
  split
  ·rw [w64 (by omega) (by omega)]; congr 1; omega
  ·rw [if_pos (by omega),w64 (x:=Int.tdiv a 16777216) (by omega) (by omega),w64 (by omega) (by omega)]; congr 1; omega
theorem M4 {a:Int} (h:a.natAbs≤2000000000000000):Ag.f a 16777216=some (a/16777216):=by
 unfold Ag.f
 rw [if_neg (by decide),if_neg (by decide)]
 have m:=Int.tmod_add_mul_tdiv a 16777216
 have s:=Int.natAbs_tmod a 16777216
 have hb:(a.tmod 16777216).natAbs<16777216:=by rw [s]; exact Nat.mod_lt _ (by decide)
 have hq:(Int.tdiv a 16777216).natAbs≤2000000000000000:=by
  have:=Int.natAbs_tdiv a 16777216
  rw [this]; exact Nat.le_trans (Nat.div_le_self _ _) h
 rw [w64 (x:=Int.tdiv a 16777216) (by omega) (by omega),w64 (x:=Int.tdiv a 16777216*16777216) (by omega) (by omega)]
 by_cases hs:0≤a
 ·have e1:Int.tdiv a 16777216=a/16777216:=Int.tdiv_eq_ediv_of_nonneg hs
  rw [e1]
  rw [if_neg (by omega)]
 ·have hn:a.tmod 16777216≤0:=by
   have:=Int.tmod_nonneg (a:= -a) 16777216 (by omega)
   rw [Int.neg_tmod] at this; omega
  split
  ·rw [w64 (by omega) (by omega)]; congr 1; omega
  ·congr 1; omega
theorem Q4 {a:Int} (h:a.natAbs≤2000000000000000):Bb.f a 16777216=some (-(-a/16777216)):=by
 unfold Bb.f
 rw [w64 (x:= -a) (by omega) (by omega),LG (by omega),Option.bind_some,w64 (by omega) (by omega)]
theorem RM {a:Int} (h:a.natAbs≤2000000000000000):Am.f a 16777216=some (-(-a/16777216)):=by
 unfold Am.f
 rw [w64 (x:= -a) (by omega) (by omega),M4 (by omega),Option.bind_some,w64 (by omega) (by omega)]
def vI (a b:Int):Bool:=decide (-1073741824≤a∧a≤b∧b≤1073741824)
theorem vI_iff {a b:Int} :vI a b=true↔ -1073741824≤a∧a≤b∧b≤1073741824:=by simp only [vI,zD]
theorem Ke (a b:Int):Ah.f a b=some (vI a b):=by
 unfold Ah.f vI
 by_cases c1:a≤b
 ·rw [if_pos c1]
  by_cases c2:a≥ -1073741824
  ·rw [if_pos c2]; congr 1; by_cases c3:b≤1073741824<;>simp [c1,c3]<;>omega
  ·rw [if_neg c2]; congr 1; symm; exact decide_eq_false (by omega)
 ·rw [if_neg c1]; congr 1; symm; exact decide_eq_false (by omega)
theorem Lh (a b:Int):Ad.f a b=some (vI a b):=by
 unfold Ad.f vI
 by_cases c2: -1073741824≤a
 ·rw [if_pos c2]
  by_cases c1:a≤b
  ·rw [if_pos c1]; congr 1; by_cases c3:b≤1073741824<;>simp [c1,c2,c3]
  ·rw [if_neg c1]; congr 1; symm; exact decide_eq_false (by omega)
 ·rw [if_neg c2]; congr 1; symm; exact decide_eq_false (by omega)
def QH (a b:Int):ByteArray:=(((⟨#[91]⟩:ByteArray)++decB (a*1000000/16777216)++(⟨#[44,32]⟩:ByteArray))++decB (-(-(b*1000000)/16777216)))++(⟨#[93]⟩:ByteArray)
def printI (a b:Int):ByteArray×Int:=if vI a b=true then (QH a b,0) else ((⟨#[]⟩:ByteArray),1)
theorem bounds {a b:Int} (v:vI a b=true):(a*1000000).natAbs≤2000000000000000∧(b*1000000).natAbs≤2000000000000000∧(a*1000000/16777216).natAbs≤1000000000∧(-(-(b*1000000)/16777216)).natAbs≤1000000000:=by
 have:=vI_iff.mp v
 refine ⟨by omega,by omega,by omega,by omega⟩
theorem sz {x y:ByteArray} (hx:x.size≤100) (hy:y.size≤100):1+x.size≤9223372036854775807∧((⟨#[91]⟩:ByteArray)++x).size+2≤9223372036854775807∧(((⟨#[91]⟩:ByteArray)++x)++(⟨#[44,32]⟩:ByteArray)).size+y.size≤9223372036854775807∧((((⟨#[91]⟩:ByteArray)++x)++(⟨#[44,32]⟩:ByteArray))++y).size+1≤9223372036854775807:=by
 have s0:(⟨#[91]⟩:ByteArray).size=1:=rfl
 have s1:(⟨#[44,32]⟩:ByteArray).size=2:=rfl
 simp only [ByteArray.size_append,s0,s1]
 omega
theorem IY (a b:Int):Da.f a b=some (printI a b):=by
 unfold Da.f printI
 rw [Ke,Option.bind_some]
 cases v:vI a b with
 |false=>rfl
 | true=>
  obtain ⟨b1,b2,b3,b4⟩:=bounds v
  obtain ⟨z1,z2,z3,z4⟩:=sz (G5 b3) (G5 b4)
  rw [if_pos rfl,if_pos rfl,w64 (x:=a*1000000) (by omega) (by omega),w64 (x:=b*1000000) (by omega) (by omega),LG b1,Q4 b2,Option.bind_some,Nb b3,Option.bind_some,if_pos z1,if_pos z2,Option.bind_some,Nb b4,Option.bind_some,if_pos z3,if_pos z4]
  rfl
theorem JZ (a b:Int):Ev (fun k=>Cj.f k a b) (printI a b):=by
 unfold Cj.f printI
 refine Ev.bindc (Lh a b) ?_
 cases v:vI a b with
 |false=>exact Ev.iff_neg (by simp) (Ev.now _)
 | true=>
  obtain ⟨b1,b2,b3,b4⟩:=bounds v
  obtain ⟨z1,z2,z3,z4⟩:=sz (G5 b3) (G5 b4)
  rw [w64 (x:=a*1000000) (by omega) (by omega),w64 (x:=b*1000000) (by omega) (by omega)]
  exact Ev.iff_pos rfl (Ev.bindc (M4 b1) (Ev.bind (PO b3) (Ev.iff_pos z1 (Ev.iff_pos z2 (Ev.bindc (RM b2) (Ev.bind (PO b4) (Ev.iff_pos z3 (Ev.iff_pos z4 (Ev.now _)))))))))
end Go.Proofs.YtpejalpgficopaaGreatDoor.PPr
end
section
namespace RX
open Go Go.RowKit
theorem okWide_agg {P:Program} {w:World} {r:Reach} {b:Nat} {t:TypeId} {v:Value} {ts:List TypeId} (hu:(match P.underlying t with|some (.struct _)=>true|some (.array _ _)=>true|_=>false)=true) (hc:P.cellTypes P.depth t=some ts) (hn:P.cellsOf t=ts.length) (h:Value.okWide P w r b t v):
  ∃l:List Value,v= .agg ⟨l⟩∧l.length=ts.length∧∀(i:Nat) (x:Value) (u:TypeId),l[i]? =some x→ts[i]? =some u→Cell.okWide P w r b u x:=by
 have key:∃cs,v= .agg cs∧cs.size=P.cellsOf t∧Row.okWide P w r b t cs:=by
  unfold Value.okWide at h
  split at h
  ·exact h
  ·exact h
  ·rename_i h1 h2
   split at hu
   ·rename_i hs; exact absurd hs (h1 _)
   ·rename_i hs; exact absurd hs (h2 _ _)
   ·cases hu
 obtain ⟨cs,rfl,hsz,ts',hts,_,hcell⟩:=key
 rw [hc] at hts
 injection hts with hts
 subst hts
 refine ⟨cs.toList,rfl,by simp [hsz,hn],fun i x u hx hu'=> ?_⟩
 have hx':cs[i]? =some x:=by simpa using hx
 obtain ⟨u',e,hk⟩:=hcell i x hx'
 have hlt:i<ts.length:=(List.getElem?_eq_some_iff.1 hu').1
 rw [Nat.mod_eq_of_lt hlt,hu'] at e
 injection e with e
 subst e
 exact hk
theorem len_succ {α:Type} {l:List α} {n:Nat} (h:l.length=n+1):∃x l',l=x::l'∧l'.length=n:=by
 cases l with
 |nil=>simp at h
 |cons x l'=>exact ⟨x,l',rfl,by simpa using h⟩
theorem len_zero {α:Type} {l:List α} (h:l.length=0):l=[]:=List.length_eq_zero_iff.1 h
theorem cell_int {P:Program} {w:World} {r:Reach} {b:Nat} {u:TypeId} {k:IntKind} {x:Value} (hu:P.underlying u=some (.int k)) (h:Cell.okWide P w r b u x):∃n,x= .int k n∧k.has n:=by
 unfold Cell.okWide at h
 rw [hu] at h
 cases x<;>simp [Cell.ok,hu] at h
 obtain ⟨rfl,h⟩:=h
 exact ⟨_,rfl,h⟩
theorem trod_lt {H:Type} {enc:TypeId×Value→H} {P:Program} {w:World} {spare:Nat→Bool} {held:Bool} {t:TypeId} {v:Value} {d:DataW H} {ps:List MemPlace} (h:DataW.Trod enc P w 0 spare held t v d ps):∀x∈ps,x.block<w.heap.size:=by
 obtain ⟨m,hm⟩:=h
 exact DataW.trod_lt m _ _ _ hm
end RX
end
section
namespace Go.Proofs.YtpejalpgficopaaGreatDoor.G
open Go Go.Proofs RX Go.RowKit
theorem Qh {vs:List Value} (h:∀u∈vs,Clo u) (g:Nat→Nat):vs.map (ren g)=vs:=by
 calc vs.map (ren g)=vs.map id:=List.map_congr_left fun c hc=>h c hc g
  _=vs:=by simp
theorem Kh {P:Program} {f:FuncId} {s:HSpec} (he:∃fn,P.funcs[f]? =some fn∧fn.name≠ "runtime.NumGoroutine" ∧fn.body.isSome=true)
  (h:∀vs bl v bl',s vs bl=some (true,v,bl')→bl=[]∧bl'=[]∧(∀u∈vs,Clo u)∧Clo v∧∀w,TabOk w→Calls P f ⟨vs⟩ w fun e w'=>e= .returned v∧Below w.heap.size w w'):SOK P f s:=by
 refine ⟨he,fun vs bl v bl' hs _ g w _ _ ht _=> ?_⟩
 obtain ⟨rfl,rfl,ha,hv,hc⟩:=h vs bl v bl' hs
 rw [Qh ha]
 refine (hc w ht).mono ?_
 rintro e w' ⟨rfl,hb⟩
 exact ⟨g,fun i hi=>absurd hi (by simp),by rw [hv g],fun i b hb=>by simp at hb,fun i _ hi=>absurd hi (by simp),fun i j _ hi=>absurd hi (by simp),⟨hb.os,hb.tape,hb.output,hb.size,fun k hk _=>hb.block k hk⟩⟩
theorem PZ {w:World} (h:TabOk w):PPr.Tab w:=by
 have e:TB=[(0,(Go.Lib.pow10Tab.map fun z=>Value.int .u64 z))]:=by kernel_rfl
 obtain ⟨o,ho,C,ty,fr,rfl,hc,hl⟩:=h (0,(Go.Lib.pow10Tab.map fun z=>Value.int .u64 z)) (by rw [e]; simp)
 have hC:C=Go.Lib.pow10Tab.map fun z=>Value.int .u64 z:=by
  apply List.ext_getElem?
  intro i
  by_cases hi:i<C.length
  ·have hi2:=hi
   rw [hl] at hi2
   rw [List.getElem?_eq_getElem hi2]
   exact hc i _ (List.getElem?_eq_getElem hi2)
  ·rw [List.getElem?_eq_none (by omega),List.getElem?_eq_none (by rw [←hl]; omega)]
 unfold PPr.Tab Go.Lib.TabIs World.var?
 have hg:Tryz.prog.globalNamed "internal/strconv.uint64pow10" =some 0:=by kernel_rfl
 rw [hg]
 show (match w.heap[0]? with|some (Obj.cells cs _ _)=>some cs|_=>none)=_
 rw [ho,hC]
theorem Ph {w:World} (h:PPr.Tab w):TabOk w:=by
 have e:TB=[(0,(Go.Lib.pow10Tab.map fun z=>Value.int .u64 z))]:=by kernel_rfl
 intro x hx
 rw [e,List.mem_singleton] at hx
 subst hx
 unfold PPr.Tab Go.Lib.TabIs World.var? at h
 have hg:Tryz.prog.globalNamed "internal/strconv.uint64pow10" =some 0:=by kernel_rfl
 rw [hg] at h
 have h:(match w.heap[0]? with|some (Obj.cells cs _ _)=>some cs|_=>none)=some (Go.Lib.pow10Tab.map fun z=>Value.int .u64 z).toArray:=h
 cases ho:w.heap[0]? with
 |none=>rw [ho] at h; cases h
 | some o=>
  rw [ho] at h
  cases o with
  | cells cs ty fr=>
   injection h with h
   subst h
   exact ⟨_,rfl,_,ty,fr,rfl,fun i v hv=>hv,rfl⟩
  |_=>cases h
def Da (a b:Int):ByteArray×Int:=PPr.printI a b
def Cj (a b:Int):ByteArray×Int:=PPr.printI a b
theorem PP (x:ByteArray) (n:Int):Clo (.tuple ⟨[.string x,.int .i64 n]⟩):=clo_spec 8 _ rfl
end Go.Proofs.YtpejalpgficopaaGreatDoor.G
end
section
namespace Go.Proofs.YtpejalpgficopaaGreatDoor.PPr
open Go.RowKit Go.Proofs.YtpejalpgficopaaGreatDoorW.PrintWords Go.Proofs.YtpejalpgficopaaGreatDoorW.PrintLast Go.Proofs.YtpejalpgficopaaGreatDoorW.PrintMore
theorem Fl (a b:Int):(printI a b).1.size≤210:=by
 unfold printI
 cases v:vI a b with
 |false=>rw [if_neg (by simp)]; exact Nat.zero_le _
 | true=>
  obtain ⟨_,_,b3,b4⟩:=bounds v
  have h1:=G5 b3
  have h2:=G5 b4
  rw [if_pos rfl]
  show (QH a b).size≤210
  unfold QH
  simp only [ByteArray.size_append,show (⟨#[91]⟩:ByteArray).size=1 from rfl,show (⟨#[44,32]⟩:ByteArray).size=2 from rfl,show (⟨#[93]⟩:ByteArray).size=1 from rfl]
  omega
def printD (a0 a1 b0 b1 c0 c1:Int):ByteArray×Int:=if vI a0 a1=true∧vI b0 b1=true∧vI c0 c1=true then (((((((⟨#[40]⟩:ByteArray)++(printI a0 a1).1)++(⟨#[44,32]⟩:ByteArray))++(printI b0 b1).1)++(⟨#[44,32]⟩:ByteArray))++(printI c0 c1).1)++(⟨#[41]⟩:ByteArray),0) else ((⟨#[]⟩:ByteArray),1)
theorem sz6 {x y z:ByteArray} (hx:x.size≤210) (hy:y.size≤210) (hz:z.size≤210):1+x.size≤9223372036854775807∧((⟨#[40]⟩:ByteArray)++x).size+2≤9223372036854775807∧(((⟨#[40]⟩:ByteArray)++x)++(⟨#[44,32]⟩:ByteArray)).size+y.size≤9223372036854775807∧((((⟨#[40]⟩:ByteArray)++x)++(⟨#[44,32]⟩:ByteArray))++y).size+2≤9223372036854775807∧(((((⟨#[40]⟩:ByteArray)++x)++(⟨#[44,32]⟩:ByteArray))++y)++(⟨#[44,32]⟩:ByteArray)).size+z.size≤9223372036854775807∧((((((⟨#[40]⟩:ByteArray)++x)++(⟨#[44,32]⟩:ByteArray))++y)++(⟨#[44,32]⟩:ByteArray))++z).size+1≤9223372036854775807:=by
 simp only [ByteArray.size_append,show (⟨#[40]⟩:ByteArray).size=1 from rfl,show (⟨#[44,32]⟩:ByteArray).size=2 from rfl]
 omega
def vD (a0 a1 b0 b1 c0 c1:Int):Bool:=if vI a0 a1=true∧vI b0 b1=true∧vI c0 c1=true then true else false
theorem NX (a0 a1 b0 b1 c0 c1:Int):Bo.f a0 a1 b0 b1 c0 c1=some (vD a0 a1 b0 b1 c0 c1):=by
 unfold Bo.f vD
 simp only [Ke,Option.bind_some]
 cases vI a0 a1<;>cases vI b0 b1<;>cases vI c0 c1<;>rfl
theorem OE (a0 a1 b0 b1 c0 c1:Int):Bi.f a0 a1 b0 b1 c0 c1=some (vD a0 a1 b0 b1 c0 c1):=by
 unfold Bi.f vD
 simp only [Lh,Option.bind_some]
 cases vI a0 a1<;>cases vI b0 b1<;>cases vI c0 c1<;>rfl
theorem Ls {a0 a1 b0 b1 c0 c1:Int} :printD a0 a1 b0 b1 c0 c1=if vD a0 a1 b0 b1 c0 c1=true then (((((((⟨#[40]⟩:ByteArray)++(printI a0 a1).1)++(⟨#[44,32]⟩:ByteArray))++(printI b0 b1).1)++(⟨#[44,32]⟩:ByteArray))++(printI c0 c1).1)++(⟨#[41]⟩:ByteArray),0) else ((⟨#[]⟩:ByteArray),1):=by
 unfold printD vD
 by_cases h:vI a0 a1=true∧vI b0 b1=true∧vI c0 c1=true
 ·rw [if_pos h,if_pos h,if_pos rfl]
 ·rw [if_neg h,if_neg h,if_neg (by simp)]
theorem dprint_prog (a0 a1 b0 b1 c0 c1:Int):direction_Print.f a0 a1 b0 b1 c0 c1=some (printD a0 a1 b0 b1 c0 c1):=by
 unfold direction_Print.f
 rw [Ls,NX,Option.bind_some]
 cases v:vD a0 a1 b0 b1 c0 c1 with
 |false=>rfl
 | true=>
  obtain ⟨z1,z2,z3,z4,z5,z6⟩:=sz6 (Fl a0 a1) (Fl b0 b1) (Fl c0 c1)
  rw [if_pos rfl,if_pos rfl,IY,Option.bind_some,IY,Option.bind_some,IY,Option.bind_some,if_pos z1,if_pos z2,if_pos z3,if_pos z4,if_pos z5,if_pos z6]
theorem dprint_ref (a0 a1 b0 b1 c0 c1:Int):Ev (fun k=>culetref28_Print.f k a0 a1 b0 b1 c0 c1) (printD a0 a1 b0 b1 c0 c1):=by
 unfold culetref28_Print.f
 rw [Ls]
 refine Ev.bindc (OE a0 a1 b0 b1 c0 c1) ?_
 cases v:vD a0 a1 b0 b1 c0 c1 with
 |false=>exact Ev.iff_neg (by simp) (Ev.now _)
 | true=>
  obtain ⟨z1,z2,z3,z4,z5,z6⟩:=sz6 (Fl a0 a1) (Fl b0 b1) (Fl c0 c1)
  exact Ev.iff_pos rfl (Ev.bind (JZ a0 a1) (Ev.bind (JZ b0 b1) (Ev.bind (JZ c0 c1) (Ev.iff_pos z1 (Ev.iff_pos z2 (Ev.iff_pos z3 (Ev.iff_pos z4 (Ev.iff_pos z5 (Ev.iff_pos z6 (Ev.now _))))))))))
end Go.Proofs.YtpejalpgficopaaGreatDoor.PPr
end
section
namespace Go.Proofs.YtpejalpgficopaaGreatDoor.G
open Go Go.Proofs RX Go.RowKit
def direction_Print (a0 a1 b0 b1 c0 c1:Int):ByteArray×Int:=PPr.printD a0 a1 b0 b1 c0 c1
def culetref28_Print (a0 a1 b0 b1 c0 c1:Int):ByteArray×Int:=PPr.printD a0 a1 b0 b1 c0 c1
theorem direction_Print.ok:SOK Tryz.prog 47 (direction_Print.sp direction_Print):=by
 refine Kh ⟨_,Tryz.func47,by decide,rfl⟩ fun vs bl v bl' hs=> ?_
 unfold direction_Print.sp at hs
 split at hs
 ·simp only [zS,zP,true_and] at hs
  obtain ⟨rfl,rfl⟩:=hs
  refine ⟨rfl,rfl,fun u hu=> ?_,PP _ _,fun w ht=> ?_⟩
  ·rw [List.mem_singleton] at hu; subst hu; exact clo_spec 8 _ rfl
  ·exact PPr.direction_Print.calls _ _ _ _ _ _ _ _ w (PPr.dprint_prog _ _ _ _ _ _) (PZ ht)
 ·cases hs
theorem culetref28_Print.ok:SOK Tryz.prog 48 (culetref28_Print.sp culetref28_Print):=by
 refine Kh ⟨_,Tryz.func48,by decide,rfl⟩ fun vs bl v bl' hs=> ?_
 unfold culetref28_Print.sp at hs
 split at hs
 ·simp only [zS,zP,true_and] at hs
  obtain ⟨rfl,rfl⟩:=hs
  refine ⟨rfl,rfl,fun u hu=> ?_,PP _ _,fun w ht=> ?_⟩
  ·rw [List.mem_singleton] at hu; subst hu; exact clo_spec 8 _ rfl
  ·rename_i a0 a1 b0 b1 c0 c1
   obtain ⟨k,hk⟩:=(PPr.dprint_ref a0 a1 b0 b1 c0 c1).rounds
   exact PPr.culetref28_Print.calls k _ _ _ _ _ _ _ _ w hk
 ·cases hs
end Go.Proofs.YtpejalpgficopaaGreatDoor.G
end
section
namespace Go.Proofs.YtpejalpgficopaaGreatDoor.G
open Go Go.Proofs RX
def mn (x y:Int):Int:=if y<x then y else x
def mx (x y:Int):Int:=if y>x then y else x
theorem mn_eq (x y:Int):mn x y=min x y:=by unfold mn; split<;>omega
theorem mx_eq (x y:Int):mx x y=max x y:=by unfold mx; split<;>omega
def EY.sp:HSpec
 |[.slice (some ⟨0,0,none⟩) 2 2],[.cs [.int .i64 a,.int .i64 b] 3]=>some (true,.tuple ⟨[.int .i64 (mn (mn a a) b),.int .i64 (mx (mx a a) b)]⟩,[.cs [.int .i64 a,.int .i64 b] 3])
 |[.slice (some ⟨0,0,none⟩) 4 4],[.cs [.int .i64 a,.int .i64 b,.int .i64 c,.int .i64 d] 3]=>some (true,.tuple ⟨[.int .i64 (mn (mn (mn (mn a a) b) c) d),.int .i64 (mx (mx (mx (mx a a) b) c) d)]⟩,[.cs [.int .i64 a,.int .i64 b,.int .i64 c,.int .i64 d] 3])
 |_,_=>none
theorem extremes2 (a b:Int):xfn Tryz.prog ⟨[],[],[]⟩ [] 10 Tryz.f117 [.slice (some ⟨0,0,none⟩) 2 2] [.cs [.int .i64 a,.int .i64 b] 3]=some (.tuple ⟨[.int .i64 (mn (mn a a) b),.int .i64 (mx (mx a a) b)]⟩,[.cs [.int .i64 a,.int .i64 b] 3]):=by kernel_rfl
theorem extremes4 (a b c d:Int):xfn Tryz.prog ⟨[],[],[]⟩ [] 10 Tryz.f117 [.slice (some ⟨0,0,none⟩) 4 4] [.cs [.int .i64 a,.int .i64 b,.int .i64 c,.int .i64 d] 3]=some (.tuple ⟨[.int .i64 (mn (mn (mn (mn a a) b) c) d),.int .i64 (mx (mx (mx (mx a a) b) c) d)]⟩,[.cs [.int .i64 a,.int .i64 b,.int .i64 c,.int .i64 d] 3]):=by kernel_rfl
theorem EY.ok:SOK Tryz.prog 117 EY.sp:=by
 refine Dl (E:=⟨[],[],[]⟩) ⟨Ac,Aq,Aj,Ap⟩ 10 Tryz.func117 (by decide) rfl Bf fun vs bl v bl' h=> ?_
 unfold EY.sp at h
 split at h
 ·simp only [zS,zP,true_and] at h
  obtain ⟨rfl,rfl⟩:=h
  exact ⟨extremes2 _ _,by simp [okV,Nat.blt],clo_spec 8 _ rfl,Bg rfl⟩
 ·simp only [zS,zP,true_and] at h
  obtain ⟨rfl,rfl⟩:=h
  exact ⟨extremes4 _ _ _ _,by simp [okV,Nat.blt],clo_spec 8 _ rfl,Bg rfl⟩
 ·cases h
end Go.Proofs.YtpejalpgficopaaGreatDoor.G
end
