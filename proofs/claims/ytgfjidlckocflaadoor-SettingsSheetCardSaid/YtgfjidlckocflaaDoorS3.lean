/- A part of what the law's proof leans on. PACKED BY pack.py of this repo. -/
import Derived.Test.YtgfjidlckocflaaDoorS2
set_option linter.unusedVariables false
set_option linter.unusedSimpArgs false
set_option linter.defProp false
set_option linter.unusedSectionVars false
section
namespace Go.Proofs.YtgfjidlckocflaaDoor.PAll
set_option maxRecDepth 100000
open Go.RowKit Go.Proofs.YtgfjidlckocflaaDoorW.PrintWords Go.Proofs.YtgfjidlckocflaaDoorW.PrintLast Go.Proofs.YtgfjidlckocflaaDoorW.PrintMore
attribute [local go_sem] BM BK BV BU BD BC BL BJ
def An.f (k:Nat) (AB:Int) (AA:Int) (AC:Int) (AE:Int) (AD:Int) (AF:Int):Option (Bool):=(AY.f k AB AA AC).bind fun t186=>(if t186=true then ((AY.f k AE AD AF).bind fun t187=>(if t187=true then ((Af.f AD).bind fun t188=>((Af.f AA).bind fun t189=>(some (decide ((wrap64 (AB*t188))>(wrap64 (AE*t189))))))) else (some false))) else (some false))
def An.T1:Bool×List (List Nat×List Nat):=(true,[([],[]),([0],[0]),([1,1],[1]),([2],[2]),([3,2,2],[2,3]),([2,4],[2,4]),([5,4],[5]),([6],[6]),([7,6],[6,7]),([6],[6]),([9,6],[6,9]),([10,6,6],[6,10]),([8,11,6],[6,8,11]),([6],[6]),([13,6],[6,13]),([6],[6]),([15,6],[6,15]),([16,11,6],[6,16]),([14,17,6],[6,14,17]),([12,18,6],[6,12,18]),([6,19],[6,19]),([20,17,0,1,2,3,4,5,6,7,8,9,10,11,12,13,14,15,16,17,18,19,20],[20])])
def An.B1:List Nat:=[0,1,3,7,15,31,63,127,255,127,639,1663,4095,127,8319,127,32895,102015,257663,524287,1048575,2097151]
theorem An.tab1:rtab .any (Ck Tryd.f28 1)=An.T1:=by kernel_rfl
theorem An.bits1:Be An.T1.2 An.B1=true:=by kernel_rfl
set_option maxHeartbeats 8000000 in
theorem An.calls (k:Nat) (AB:Int) (AA:Int) (AC:Int) (AE:Int) (AD:Int) (AF:Int) (r:Bool) (w:World) (h:An.f k AB AA AC AE AD AF=some r):
  Calls Tryd.prog 28 #[.agg #[.int .i64 AB,.int .i64 AA,.int .i64 AC],.agg #[.int .i64 AE,.int .i64 AD,.int .i64 AF]] w fun e w'=>e= .returned (.bool r)∧Below w.heap.size w w':=by
 have hu33:=Tryd.underlying33
 have HB:=Aside0.mk (Below.refl w.heap.size w)
 have H:((AY.f k AB AA AC).bind fun t186=>(if t186=true then ((AY.f k AE AD AF).bind fun t187=>(if t187=true then ((Af.f AD).bind fun t188=>((Af.f AA).bind fun t189=>(some (decide ((wrap64 (AB*t188))>(wrap64 (AE*t189))))))) else (some false))) else (some false)))=some r:=h
 clear h
 replace H:=Option.bind_eq_some_iff.mp H
 obtain ⟨t186,A30,H⟩:=H
 replace H:(if t186=true then ((AY.f k AE AD AF).bind fun t187=>(if t187=true then ((Af.f AD).bind fun t188=>((Af.f AA).bind fun t189=>(some (decide ((wrap64 (AB*t188))>(wrap64 (AE*t189))))))) else (some false))) else (some false))=some r:=H
 have A3:=Aside0.mk A30
 clear A30
 by_cases c4:t186=true
 ·subst c4
  have H1:((AY.f k AE AD AF).bind fun t187=>(if t187=true then ((Af.f AD).bind fun t188=>((Af.f AA).bind fun t189=>(some (decide ((wrap64 (AB*t188))>(wrap64 (AE*t189))))))) else (some false)))=some r:=by rw [if_pos rfl] at H; exact H
  clear H
  have H:=H1
  clear H1
  replace H:=Option.bind_eq_some_iff.mp H
  obtain ⟨t187,A50,H⟩:=H
  replace H:(if t187=true then ((Af.f AD).bind fun t188=>((Af.f AA).bind fun t189=>(some (decide ((wrap64 (AB*t188))>(wrap64 (AE*t189))))))) else (some false))=some r:=H
  have A5:=Aside0.mk A50
  clear A50
  by_cases c6:t187=true
  ·subst c6
   have H1:((Af.f AD).bind fun t188=>((Af.f AA).bind fun t189=>(some (decide ((wrap64 (AB*t188))>(wrap64 (AE*t189)))))))=some r:=by rw [if_pos rfl] at H; exact H
   clear H
   have H:=H1
   clear H1
   replace H:=Option.bind_eq_some_iff.mp H
   obtain ⟨t188,A70,H⟩:=H
   replace H:((Af.f AA).bind fun t189=>(some (decide ((wrap64 (AB*t188))>(wrap64 (AE*t189))))))=some r:=H
   have A7:=Aside0.mk A70
   clear A70
   replace H:=Option.bind_eq_some_iff.mp H
   obtain ⟨t189,A80,H⟩:=H
   replace H:(some (decide ((wrap64 (AB*t188))>(wrap64 (AE*t189)))))=some r:=H
   have A8:=Aside0.mk A80
   clear A80
   obtain rfl:=Option.some.inj H
   go_enter Tryd.func28,Tryd.ntmps28
   try go_wp2_with (first|((with_reducible refine Ar (N:=2) rfl ?_); refine Am ?hg (N:=2) ?hd (cs:= #[.int .i64 AB,.int .i64 AA,.int .i64 AC]) (t:=33) ?hr ?_; (case hd=>rfl); (case hg=>rfl); (case hr=>first|(go_simp; done)|(go_simp; rfl)); intro gb184 hg w9 hbox hb; have n0_:=Aside0.mk (AP (by repeat (first|(with_reducible first|exact HB.out|apply AI|apply AG|apply AH)|exact HB.out)) hb); have n1_:=Aside0.mk (hbox); have n2_:=Aside0.mk ((by rw [hg]; exact (AT (by repeat (first|(with_reducible first|exact HB.out|apply AI|apply AG|apply AH)|exact HB.out))):w.heap.size≤gb184)); have n3_:=Aside0.mk ((by rw [hg]; exact (AT (by repeat (first|(with_reducible first|exact HB.out|apply AI|apply AG|apply AH)|exact HB.out))):w.heap.size≤gb184)); clear HB; have HB:=n0_; have BK184:=n1_; have GW184:=n2_; have GE184:=n3_; clear n0_ n1_ n2_ n3_; clear hb hbox hg)|((with_reducible refine Ar (N:=3) rfl ?_); refine Am ?hg (N:=3) ?hd (cs:= #[.int .i64 AE,.int .i64 AD,.int .i64 AF]) (t:=33) ?hr ?_; (case hd=>rfl); (case hg=>rfl); (case hr=>first|(go_simp; done)|(go_simp; rfl)); intro gb185 hg w10 hbox hb; have n0_:=Aside0.mk (Ai (g:=gb184) (o:= .cells #[.int .i64 AB,.int .i64 AA,.int .i64 AC] 33 (0,0)) (by (with_reducible repeat (first|refine Ab ?_ _|refine AZ ?_|refine Ac ?_ _)); exact BK184.out) hb); have n1_:=Aside0.mk (AP (by repeat (first|(with_reducible first|exact HB.out|apply AI|apply AG|apply AH|refine AV ?_ GE184.out)|exact HB.out)) hb); have n2_:=Aside0.mk (hbox); have n3_:=Aside0.mk ((by rw [hg]; exact (AT (by repeat (first|(with_reducible first|exact HB.out|apply AI|apply AG|apply AH|refine AV ?_ GE184.out)|exact HB.out))):w.heap.size≤gb185)); have n4_:=Aside0.mk ((by rw [hg]; exact (AT (by repeat (first|(with_reducible first|exact HB.out|apply AI|apply AG|apply AH|refine AV ?_ GE184.out)|exact HB.out))):w.heap.size≤gb185)); have n5_:=Aside0.mk ((by rw [hg]; exact Nat.ne_of_lt (Bi (g:=gb184) (o:= .cells #[.int .i64 AB,.int .i64 AA,.int .i64 AC] 33 (0,0)) (by (with_reducible repeat (first|refine Ab ?_ _|refine AZ ?_|refine Ac ?_ _)); exact BK184.out)):gb184≠gb185)); have n6_:=Aside0.mk ((by rw [hg]; exact Nat.ne_of_gt (Bi (g:=gb184) (o:= .cells #[.int .i64 AB,.int .i64 AA,.int .i64 AC] 33 (0,0)) (by (with_reducible repeat (first|refine Ab ?_ _|refine AZ ?_|refine Ac ?_ _)); exact BK184.out)):gb185≠gb184)); clear BK184; clear HB; have BK184:=n0_; have HB:=n1_; have BK185:=n2_; have GW185:=n3_; have GE185:=n4_; have NB184_185:=n5_; have NB185_184:=n6_; clear n0_ n1_ n2_ n3_ n4_ n5_ n6_; clear hb hbox hg))
   have n0_:=Aside0.mk (AZ BK184.out)
   have n1_:=Aside0.mk (AZ BK185.out)
   have n2_:=Aside0.mk (AH HB.out)
   clear BK184
   clear BK185
   clear HB
   have BK184:=n0_
   have BK185:=n1_
   have HB:=n2_
   clear n0_ n1_ n2_
   refine BR (n:=22) (S:=fun w'=>w'.cell? ⟨gb184,0,none⟩=some (.int .i64 AB)∧w'.cell? ⟨gb184,1,none⟩=some (.int .i64 AA)∧w'.cell? ⟨gb184,2,none⟩=some (.int .i64 AC)∧w'.cell? ⟨gb185,0,none⟩=some (.int .i64 AE)∧w'.cell? ⟨gb185,1,none⟩=some (.int .i64 AD)∧w'.cell? ⟨gb185,2,none⟩=some (.int .i64 AF)) (ds:=[]) #[false,false,false,false,false,false,false,false,false,false,false,false,false,false,false,false,false,false,false,false,false,false] (by kernel_rfl) rfl rfl ⟨(AJ BK184.out 0).trans rfl,(AJ BK184.out 1).trans rfl,(AJ BK184.out 2).trans rfl,(AJ BK185.out 0).trans rfl,(AJ BK185.out 1).trans rfl,(AJ BK185.out 2).trans rfl⟩ (fun hHeld=> ?_); refine B4 An.tab1 An.bits1 (fun HT_ HW_=> ?_)
   generalize w10.drew=w11 at BK184 BK185 HB hHeld ⊢
   refine Aw (i:=0) (N:=some 5) (v:= ?_) (a':= ?_) #[true,false,false,false,false,false,false,false,false,false,false,false,false,false,false,false,false,false,false,false,false,false] rfl rfl (Ak HT_.out HW_.out (by kernel_rfl)) (fun _ _ _ h=>h) (Or.inl ⟨by rfl,?_⟩) hHeld ?_ ?_
   rotate_left
   ·rintro w' ⟨s0,s1,s2,s3,s4,s5⟩
    go_simp
    with_reducible rfl
   rotate_left
   ·simp only [Act.put,List.setIfInBounds_toArray,List.set_cons_zero,List.set_cons_succ,AL,AM]
    rfl
   refine one_ (i:=1) (N:=some 6) #[true,true,false,false,false,false,false,false,false,false,false,false,false,false,false,false,false,false,false,false,false,false] rfl rfl (B7 HT_.out (by kernel_rfl)) (by decide) (fun K hK=> ?_)
   refine BW Tryd.func25 (by kernel_rfl) rfl #[.agg #[.int .i64 AB,.int .i64 AA,.int .i64 AC]] (by rfl) rfl rfl (by (try simp only [List.map_toArray,List.map_cons,List.map_nil]); first|done|rfl|(simp only [List.length_drop,List.length_take]; rfl)) ?_
   with_reducible refine (AY.calls k AB AA AC true _ A3.out).mono ?_
   rintro e w12 ⟨rfl,hb⟩
   refine ⟨_,rfl,?_⟩
   have n0_:=Aside0.mk (Ai (g:=gb184) (o:= .cells #[.int .i64 AB,.int .i64 AA,.int .i64 AC] 33 (0,0)) (by (with_reducible repeat (first|refine Ab ?_ _|refine AZ ?_|refine Ac ?_ _)); exact BK184.out) hb)
   have n1_:=Aside0.mk (Ai (g:=gb185) (o:= .cells #[.int .i64 AE,.int .i64 AD,.int .i64 AF] 33 (0,0)) (by (with_reducible repeat (first|refine Ab ?_ _|refine AZ ?_|refine Ac ?_ _)); exact BK185.out) hb)
   have n2_:=Aside0.mk (AP (by repeat (first|(with_reducible first|exact HB.out|apply AI|apply AG|apply AH|refine AV ?_ GE184.out|refine AV ?_ GE185.out)|exact HB.out)) hb)
   clear BK184
   clear BK185
   clear HB
   have BK184:=n0_
   have BK185:=n1_
   have HB:=n2_
   clear n0_ n1_ n2_
   (try clear hb)
   (try clear hb2)
   (try clear hk)
   (try clear hi)
   refine hK.out _ _ ⟨(AJ BK184.out 0).trans rfl,(AJ BK184.out 1).trans rfl,(AJ BK184.out 2).trans rfl,(AJ BK185.out 0).trans rfl,(AJ BK185.out 1).trans rfl,(AJ BK185.out 2).trans rfl⟩ (fun hHeld=> ?_)
   clear hK K
   refine B8 (a':= ?_) ?_ ?_
   rotate_left
   ·show Act.put _ (some 6) _=_
    simp only [Act.put,List.setIfInBounds_toArray,List.set_cons_zero,List.set_cons_succ,AL,AM]
    rfl
   refine AO (i:=2) (N:=some 7) (v:= ?_) (a':= ?_) #[true,true,true,false,false,false,false,false,false,false,false,false,false,false,false,false,false,false,false,false,false,false] rfl rfl (AK HT_.out (by kernel_rfl)) (fun _ _ _ h=>h) (Or.inl ⟨by rfl,?_⟩) ?_ ?_
   rotate_left
   ·intro w'
    go_simp
    with_reducible rfl
   rotate_left
   ·simp only [Act.put,List.setIfInBounds_toArray,List.set_cons_zero,List.set_cons_succ,AL,AM]
    rfl
   refine Aw (i:=3) (N:=some 8) (v:= ?_) (a':= ?_) #[true,true,true,true,false,false,false,false,false,false,false,false,false,false,false,false,false,false,false,false,false,false] rfl rfl (Ak HT_.out HW_.out (by kernel_rfl)) (fun _ _ _ h=>h) (Or.inl ⟨by rfl,?_⟩) hHeld ?_ ?_
   rotate_left
   ·rintro w' ⟨s0,s1,s2,s3,s4,s5⟩
    go_simp
    with_reducible rfl
   rotate_left
   ·simp only [Act.put,List.setIfInBounds_toArray,List.set_cons_zero,List.set_cons_succ,AL,AM]
    rfl
   refine one_ (i:=4) (N:=some 9) #[true,true,true,true,true,false,false,false,false,false,false,false,false,false,false,false,false,false,false,false,false,false] rfl rfl (B7 HT_.out (by kernel_rfl)) (by decide) (fun K hK=> ?_)
   refine BW Tryd.func25 (by kernel_rfl) rfl #[.agg #[.int .i64 AE,.int .i64 AD,.int .i64 AF]] (by rfl) rfl rfl (by (try simp only [List.map_toArray,List.map_cons,List.map_nil]); first|done|rfl|(simp only [List.length_drop,List.length_take]; rfl)) ?_
   with_reducible refine (AY.calls k AE AD AF true _ A5.out).mono ?_
   rintro e w13 ⟨rfl,hb⟩
   refine ⟨_,rfl,?_⟩
   have n0_:=Aside0.mk (Ai (g:=gb184) (o:= .cells #[.int .i64 AB,.int .i64 AA,.int .i64 AC] 33 (0,0)) (by (with_reducible repeat (first|refine Ab ?_ _|refine AZ ?_|refine Ac ?_ _)); exact BK184.out) hb)
   have n1_:=Aside0.mk (Ai (g:=gb185) (o:= .cells #[.int .i64 AE,.int .i64 AD,.int .i64 AF] 33 (0,0)) (by (with_reducible repeat (first|refine Ab ?_ _|refine AZ ?_|refine Ac ?_ _)); exact BK185.out) hb)
   have n2_:=Aside0.mk (AP (by repeat (first|(with_reducible first|exact HB.out|apply AI|apply AG|apply AH|refine AV ?_ GE184.out|refine AV ?_ GE185.out)|exact HB.out)) hb)
   clear BK184
   clear BK185
   clear HB
   have BK184:=n0_
   have BK185:=n1_
   have HB:=n2_
   clear n0_ n1_ n2_
   (try clear hb)
   (try clear hb2)
   (try clear hk)
   (try clear hi)
   refine hK.out _ _ ⟨(AJ BK184.out 0).trans rfl,(AJ BK184.out 1).trans rfl,(AJ BK184.out 2).trans rfl,(AJ BK185.out 0).trans rfl,(AJ BK185.out 1).trans rfl,(AJ BK185.out 2).trans rfl⟩ (fun hHeld=> ?_)
   clear hK K
   refine B8 (a':= ?_) ?_ ?_
   rotate_left
   ·show Act.put _ (some 9) _=_
    simp only [Act.put,List.setIfInBounds_toArray,List.set_cons_zero,List.set_cons_succ,AL,AM]
    rfl
   refine AO (i:=5) (N:=some 10) (v:= ?_) (a':= ?_) #[true,true,true,true,true,true,false,false,false,false,false,false,false,false,false,false,false,false,false,false,false,false] rfl rfl (AK HT_.out (by kernel_rfl)) (fun _ _ _ h=>h) (Or.inl ⟨by rfl,?_⟩) ?_ ?_
   rotate_left
   ·intro w'
    go_simp
    with_reducible rfl
   rotate_left
   ·simp only [Act.put,List.setIfInBounds_toArray,List.set_cons_zero,List.set_cons_succ,AL,AM]
    rfl
   refine AO (i:=6) (N:=some 11) (v:= ?_) (a':= ?_) #[true,true,true,true,true,true,true,false,false,false,false,false,false,false,false,false,false,false,false,false,false,false] rfl rfl (AK HT_.out (by kernel_rfl)) (fun _ _ _ h=>h) (Or.inl ⟨by rfl,?_⟩) ?_ ?_
   rotate_left
   ·intro w'
    go_simp
    with_reducible rfl
   rotate_left
   ·simp only [Act.put,List.setIfInBounds_toArray,List.set_cons_zero,List.set_cons_succ,AL,AM]
    rfl
   refine AO (i:=7) (N:=some 12) (v:= ?_) (a':= ?_) #[true,true,true,true,true,true,true,true,false,false,false,false,false,false,false,false,false,false,false,false,false,false] rfl rfl (AK HT_.out (by kernel_rfl)) (fun _ _ _ h=>h) (Or.inl ⟨by rfl,?_⟩) ?_ ?_
   rotate_left
   ·intro w'
    go_simp
    with_reducible rfl
   rotate_left
   ·simp only [Act.put,List.setIfInBounds_toArray,List.set_cons_zero,List.set_cons_succ,AL,AM]
    rfl
   refine AO (i:=9) (N:=some 14) (v:= ?_) (a':= ?_) #[true,true,true,true,true,true,true,true,false,true,false,false,false,false,false,false,false,false,false,false,false,false] rfl rfl (AK HT_.out (by kernel_rfl)) (fun _ _ _ h=>h) (Or.inl ⟨by rfl,?_⟩) ?_ ?_
   rotate_left
   ·intro w'
    go_simp
    with_reducible rfl
   rotate_left
   ·simp only [Act.put,List.setIfInBounds_toArray,List.set_cons_zero,List.set_cons_succ,AL,AM]
    rfl
   refine AO (i:=13) (N:=some 18) (v:= ?_) (a':= ?_) #[true,true,true,true,true,true,true,true,false,true,false,false,false,true,false,false,false,false,false,false,false,false] rfl rfl (AK HT_.out (by kernel_rfl)) (fun _ _ _ h=>h) (Or.inl ⟨by rfl,?_⟩) ?_ ?_
   rotate_left
   ·intro w'
    go_simp
    with_reducible rfl
   rotate_left
   ·simp only [Act.put,List.setIfInBounds_toArray,List.set_cons_zero,List.set_cons_succ,AL,AM]
    rfl
   refine AO (i:=15) (N:=some 20) (v:= ?_) (a':= ?_) #[true,true,true,true,true,true,true,true,false,true,false,false,false,true,false,true,false,false,false,false,false,false] rfl rfl (AK HT_.out (by kernel_rfl)) (fun _ _ _ h=>h) (Or.inl ⟨by rfl,?_⟩) ?_ ?_
   rotate_left
   ·intro w'
    go_simp
    with_reducible rfl
   rotate_left
   ·simp only [Act.put,List.setIfInBounds_toArray,List.set_cons_zero,List.set_cons_succ,AL,AM]
    rfl
   refine Aw (i:=8) (N:=some 13) (v:= ?_) (a':= ?_) #[true,true,true,true,true,true,true,true,true,true,false,false,false,true,false,true,false,false,false,false,false,false] rfl rfl (Ak HT_.out HW_.out (by kernel_rfl)) (fun _ _ _ h=>h) (Or.inl ⟨by rfl,?_⟩) hHeld ?_ ?_
   rotate_left
   ·rintro w' ⟨s0,s1,s2,s3,s4,s5⟩
    go_simp
    with_reducible rfl
   rotate_left
   ·simp only [Act.put,List.setIfInBounds_toArray,List.set_cons_zero,List.set_cons_succ,AL,AM]
    rfl
   refine Aw (i:=10) (N:=some 15) (v:= ?_) (a':= ?_) #[true,true,true,true,true,true,true,true,true,true,true,false,false,true,false,true,false,false,false,false,false,false] rfl rfl (Ak HT_.out HW_.out (by kernel_rfl)) (fun _ _ _ h=>h) (Or.inl ⟨by rfl,?_⟩) hHeld ?_ ?_
   rotate_left
   ·rintro w' ⟨s0,s1,s2,s3,s4,s5⟩
    go_simp
    with_reducible rfl
   rotate_left
   ·simp only [Act.put,List.setIfInBounds_toArray,List.set_cons_zero,List.set_cons_succ,AL,AM]
    rfl
   refine Aw (i:=14) (N:=some 19) (v:= ?_) (a':= ?_) #[true,true,true,true,true,true,true,true,true,true,true,false,false,true,true,true,false,false,false,false,false,false] rfl rfl (Ak HT_.out HW_.out (by kernel_rfl)) (fun _ _ _ h=>h) (Or.inl ⟨by rfl,?_⟩) hHeld ?_ ?_
   rotate_left
   ·rintro w' ⟨s0,s1,s2,s3,s4,s5⟩
    go_simp
    with_reducible rfl
   rotate_left
   ·simp only [Act.put,List.setIfInBounds_toArray,List.set_cons_zero,List.set_cons_succ,AL,AM]
    rfl
   refine Aw (i:=16) (N:=some 21) (v:= ?_) (a':= ?_) #[true,true,true,true,true,true,true,true,true,true,true,false,false,true,true,true,true,false,false,false,false,false] rfl rfl (Ak HT_.out HW_.out (by kernel_rfl)) (fun _ _ _ h=>h) (Or.inl ⟨by rfl,?_⟩) hHeld ?_ ?_
   rotate_left
   ·rintro w' ⟨s0,s1,s2,s3,s4,s5⟩
    go_simp
    with_reducible rfl
   rotate_left
   ·simp only [Act.put,List.setIfInBounds_toArray,List.set_cons_zero,List.set_cons_succ,AL,AM]
    rfl
   refine one_ (i:=11) (N:=some 16) #[true,true,true,true,true,true,true,true,true,true,true,true,false,true,true,true,true,false,false,false,false,false] rfl rfl (B7 HT_.out (by kernel_rfl)) (by decide) (fun K hK=> ?_)
   refine BW Tryd.func41 (by kernel_rfl) rfl #[.int .i64 AD] (by rfl) rfl rfl (by (try simp only [List.map_toArray,List.map_cons,List.map_nil]); first|done|rfl|(simp only [List.length_drop,List.length_take]; rfl)) ?_
   with_reducible refine (Af.calls AD t188 _ A7.out).mono ?_
   rintro e w' ⟨rfl,⟨nd,rfl⟩⟩
   refine ⟨_,rfl,?_⟩
   refine hK.out _ _ ⟨(AJ BK184.out 0).trans rfl,(AJ BK184.out 1).trans rfl,(AJ BK184.out 2).trans rfl,(AJ BK185.out 0).trans rfl,(AJ BK185.out 1).trans rfl,(AJ BK185.out 2).trans rfl⟩ (fun hHeld=> ?_)
   clear hK K
   refine B8 (a':= ?_) ?_ ?_
   rotate_left
   ·show Act.put _ (some 16) _=_
    simp only [Act.put,List.setIfInBounds_toArray,List.set_cons_zero,List.set_cons_succ,AL,AM]
    rfl
   refine AO (i:=12) (N:=some 17) (v:= ?_) (a':= ?_) #[true,true,true,true,true,true,true,true,true,true,true,true,true,true,true,true,true,false,false,false,false,false] rfl rfl (AK HT_.out (by kernel_rfl)) (fun _ _ _ h=>h) (Or.inl ⟨by rfl,?_⟩) ?_ ?_
   rotate_left
   ·intro w'
    go_simp
    with_reducible rfl
   rotate_left
   ·simp only [Act.put,List.setIfInBounds_toArray,List.set_cons_zero,List.set_cons_succ,AL,AM]
    rfl
   refine one_ (i:=17) (N:=some 22) #[true,true,true,true,true,true,true,true,true,true,true,true,true,true,true,true,true,true,false,false,false,false] rfl rfl (B7 HT_.out (by kernel_rfl)) (by decide) (fun K hK=> ?_)
   refine BW Tryd.func41 (by kernel_rfl) rfl #[.int .i64 AA] (by rfl) rfl rfl (by (try simp only [List.map_toArray,List.map_cons,List.map_nil]); first|done|rfl|(simp only [List.length_drop,List.length_take]; rfl)) ?_
   with_reducible refine (Af.calls AA t189 _ A8.out).mono ?_
   rintro e w' ⟨rfl,⟨nd,rfl⟩⟩
   refine ⟨_,rfl,?_⟩
   refine hK.out _ _ ⟨(AJ BK184.out 0).trans rfl,(AJ BK184.out 1).trans rfl,(AJ BK184.out 2).trans rfl,(AJ BK185.out 0).trans rfl,(AJ BK185.out 1).trans rfl,(AJ BK185.out 2).trans rfl⟩ (fun hHeld=> ?_)
   clear hK K
   refine B8 (a':= ?_) ?_ ?_
   rotate_left
   ·show Act.put _ (some 22) _=_
    simp only [Act.put,List.setIfInBounds_toArray,List.set_cons_zero,List.set_cons_succ,AL,AM]
    rfl
   refine AO (i:=18) (N:=some 23) (v:= ?_) (a':= ?_) #[true,true,true,true,true,true,true,true,true,true,true,true,true,true,true,true,true,true,true,false,false,false] rfl rfl (AK HT_.out (by kernel_rfl)) (fun _ _ _ h=>h) (Or.inl ⟨by rfl,?_⟩) ?_ ?_
   rotate_left
   ·intro w'
    go_simp
    with_reducible rfl
   rotate_left
   ·simp only [Act.put,List.setIfInBounds_toArray,List.set_cons_zero,List.set_cons_succ,AL,AM]
    rfl
   refine AO (i:=19) (N:=some 24) (v:= ?_) (a':= ?_) #[true,true,true,true,true,true,true,true,true,true,true,true,true,true,true,true,true,true,true,true,false,false] rfl rfl (AK HT_.out (by kernel_rfl)) (fun _ _ _ h=>h) (Or.inl ⟨by rfl,?_⟩) ?_ ?_
   rotate_left
   ·intro w'
    go_simp
    with_reducible rfl
   rotate_left
   ·simp only [Act.put,List.setIfInBounds_toArray,List.set_cons_zero,List.set_cons_succ,AL,AM]
    rfl
   refine AO (i:=20) (N:=some 25) (v:= ?_) (a':= ?_) #[true,true,true,true,true,true,true,true,true,true,true,true,true,true,true,true,true,true,true,true,true,false] rfl rfl (AK HT_.out (by kernel_rfl)) (fun _ _ _ h=>h) (Or.inl ⟨by rfl,?_⟩) ?_ ?_
   rotate_left
   ·intro w'
    go_simp
    with_reducible rfl
   rotate_left
   ·simp only [Act.put,List.setIfInBounds_toArray,List.set_cons_zero,List.set_cons_succ,AL,AM]
    rfl
   refine AO (i:=21) (N:=some 4) (v:= ?_) (a':= ?_) #[true,true,true,true,true,true,true,true,true,true,true,true,true,true,true,true,true,true,true,true,true,true] rfl rfl (AK HT_.out (by kernel_rfl)) (fun _ _ _ h=>h) (Or.inl ⟨by rfl,?_⟩) ?_ ?_
   rotate_left
   ·intro w'
    go_simp
    with_reducible rfl
   rotate_left
   ·simp only [Act.put,List.setIfInBounds_toArray,List.set_cons_zero,List.set_cons_succ,AL,AM]
    rfl
   refine Bb (BA HT_.out (by kernel_rfl)) ?_
   try go_wp2
   go_ret
   exact ⟨by first|rfl|(simp [AS,AR]<;>rfl)|(simp [*,AS,AR]<;>rfl),by repeat (first|(with_reducible first|exact HB.out|apply AI|apply AG|apply AH|refine AV ?_ GE184.out|refine AV ?_ GE185.out)|exact HB.out)⟩
  ·replace c6:=Bool.eq_false_iff.mpr c6
   subst c6
   have H1:(some false)=some r:=by rw [if_neg (show ¬(false=true) by decide)] at H; exact H
   clear H
   have H:=H1
   clear H1
   obtain rfl:=Option.some.inj H
   go_enter Tryd.func28,Tryd.ntmps28
   try go_wp2_with (first|((with_reducible refine Ar (N:=2) rfl ?_); refine Am ?hg (N:=2) ?hd (cs:= #[.int .i64 AB,.int .i64 AA,.int .i64 AC]) (t:=33) ?hr ?_; (case hd=>rfl); (case hg=>rfl); (case hr=>first|(go_simp; done)|(go_simp; rfl)); intro gb184 hg w14 hbox hb; have n0_:=Aside0.mk (AP (by repeat (first|(with_reducible first|exact HB.out|apply AI|apply AG|apply AH)|exact HB.out)) hb); have n1_:=Aside0.mk (hbox); have n2_:=Aside0.mk ((by rw [hg]; exact (AT (by repeat (first|(with_reducible first|exact HB.out|apply AI|apply AG|apply AH)|exact HB.out))):w.heap.size≤gb184)); have n3_:=Aside0.mk ((by rw [hg]; exact (AT (by repeat (first|(with_reducible first|exact HB.out|apply AI|apply AG|apply AH)|exact HB.out))):w.heap.size≤gb184)); clear HB; have HB:=n0_; have BK184:=n1_; have GW184:=n2_; have GE184:=n3_; clear n0_ n1_ n2_ n3_; clear hb hbox hg)|((with_reducible refine Ar (N:=3) rfl ?_); refine Am ?hg (N:=3) ?hd (cs:= #[.int .i64 AE,.int .i64 AD,.int .i64 AF]) (t:=33) ?hr ?_; (case hd=>rfl); (case hg=>rfl); (case hr=>first|(go_simp; done)|(go_simp; rfl)); intro gb185 hg w15 hbox hb; have n0_:=Aside0.mk (Ai (g:=gb184) (o:= .cells #[.int .i64 AB,.int .i64 AA,.int .i64 AC] 33 (0,0)) (by (with_reducible repeat (first|refine Ab ?_ _|refine AZ ?_|refine Ac ?_ _)); exact BK184.out) hb); have n1_:=Aside0.mk (AP (by repeat (first|(with_reducible first|exact HB.out|apply AI|apply AG|apply AH|refine AV ?_ GE184.out)|exact HB.out)) hb); have n2_:=Aside0.mk (hbox); have n3_:=Aside0.mk ((by rw [hg]; exact (AT (by repeat (first|(with_reducible first|exact HB.out|apply AI|apply AG|apply AH|refine AV ?_ GE184.out)|exact HB.out))):w.heap.size≤gb185)); have n4_:=Aside0.mk ((by rw [hg]; exact (AT (by repeat (first|(with_reducible first|exact HB.out|apply AI|apply AG|apply AH|refine AV ?_ GE184.out)|exact HB.out))):w.heap.size≤gb185)); have n5_:=Aside0.mk ((by rw [hg]; exact Nat.ne_of_lt (Bi (g:=gb184) (o:= .cells #[.int .i64 AB,.int .i64 AA,.int .i64 AC] 33 (0,0)) (by (with_reducible repeat (first|refine Ab ?_ _|refine AZ ?_|refine Ac ?_ _)); exact BK184.out)):gb184≠gb185)); have n6_:=Aside0.mk ((by rw [hg]; exact Nat.ne_of_gt (Bi (g:=gb184) (o:= .cells #[.int .i64 AB,.int .i64 AA,.int .i64 AC] 33 (0,0)) (by (with_reducible repeat (first|refine Ab ?_ _|refine AZ ?_|refine Ac ?_ _)); exact BK184.out)):gb185≠gb184)); clear BK184; clear HB; have BK184:=n0_; have HB:=n1_; have BK185:=n2_; have GW185:=n3_; have GE185:=n4_; have NB184_185:=n5_; have NB185_184:=n6_; clear n0_ n1_ n2_ n3_ n4_ n5_ n6_; clear hb hbox hg))
   have n0_:=Aside0.mk (AZ BK184.out)
   have n1_:=Aside0.mk (AZ BK185.out)
   have n2_:=Aside0.mk (AH HB.out)
   clear BK184
   clear BK185
   clear HB
   have BK184:=n0_
   have BK185:=n1_
   have HB:=n2_
   clear n0_ n1_ n2_
   refine BR (n:=22) (S:=fun w'=>w'.cell? ⟨gb184,0,none⟩=some (.int .i64 AB)∧w'.cell? ⟨gb184,1,none⟩=some (.int .i64 AA)∧w'.cell? ⟨gb184,2,none⟩=some (.int .i64 AC)∧w'.cell? ⟨gb185,0,none⟩=some (.int .i64 AE)∧w'.cell? ⟨gb185,1,none⟩=some (.int .i64 AD)∧w'.cell? ⟨gb185,2,none⟩=some (.int .i64 AF)) (ds:=[]) #[false,false,false,false,false,false,false,false,false,false,false,false,false,false,false,false,false,false,false,false,false,false] (by kernel_rfl) rfl rfl ⟨(AJ BK184.out 0).trans rfl,(AJ BK184.out 1).trans rfl,(AJ BK184.out 2).trans rfl,(AJ BK185.out 0).trans rfl,(AJ BK185.out 1).trans rfl,(AJ BK185.out 2).trans rfl⟩ (fun hHeld=> ?_); refine B4 An.tab1 An.bits1 (fun HT_ HW_=> ?_)
   generalize w15.drew=w16 at BK184 BK185 HB hHeld ⊢
   refine Aw (i:=0) (N:=some 5) (v:= ?_) (a':= ?_) #[true,false,false,false,false,false,false,false,false,false,false,false,false,false,false,false,false,false,false,false,false,false] rfl rfl (Ak HT_.out HW_.out (by kernel_rfl)) (fun _ _ _ h=>h) (Or.inl ⟨by rfl,?_⟩) hHeld ?_ ?_
   rotate_left
   ·rintro w' ⟨s0,s1,s2,s3,s4,s5⟩
    go_simp
    with_reducible rfl
   rotate_left
   ·simp only [Act.put,List.setIfInBounds_toArray,List.set_cons_zero,List.set_cons_succ,AL,AM]
    rfl
   refine one_ (i:=1) (N:=some 6) #[true,true,false,false,false,false,false,false,false,false,false,false,false,false,false,false,false,false,false,false,false,false] rfl rfl (B7 HT_.out (by kernel_rfl)) (by decide) (fun K hK=> ?_)
   refine BW Tryd.func25 (by kernel_rfl) rfl #[.agg #[.int .i64 AB,.int .i64 AA,.int .i64 AC]] (by rfl) rfl rfl (by (try simp only [List.map_toArray,List.map_cons,List.map_nil]); first|done|rfl|(simp only [List.length_drop,List.length_take]; rfl)) ?_
   with_reducible refine (AY.calls k AB AA AC true _ A3.out).mono ?_
   rintro e w17 ⟨rfl,hb⟩
   refine ⟨_,rfl,?_⟩
   have n0_:=Aside0.mk (Ai (g:=gb184) (o:= .cells #[.int .i64 AB,.int .i64 AA,.int .i64 AC] 33 (0,0)) (by (with_reducible repeat (first|refine Ab ?_ _|refine AZ ?_|refine Ac ?_ _)); exact BK184.out) hb)
   have n1_:=Aside0.mk (Ai (g:=gb185) (o:= .cells #[.int .i64 AE,.int .i64 AD,.int .i64 AF] 33 (0,0)) (by (with_reducible repeat (first|refine Ab ?_ _|refine AZ ?_|refine Ac ?_ _)); exact BK185.out) hb)
   have n2_:=Aside0.mk (AP (by repeat (first|(with_reducible first|exact HB.out|apply AI|apply AG|apply AH|refine AV ?_ GE184.out|refine AV ?_ GE185.out)|exact HB.out)) hb)
   clear BK184
   clear BK185
   clear HB
   have BK184:=n0_
   have BK185:=n1_
   have HB:=n2_
   clear n0_ n1_ n2_
   (try clear hb)
   (try clear hb2)
   (try clear hk)
   (try clear hi)
   refine hK.out _ _ ⟨(AJ BK184.out 0).trans rfl,(AJ BK184.out 1).trans rfl,(AJ BK184.out 2).trans rfl,(AJ BK185.out 0).trans rfl,(AJ BK185.out 1).trans rfl,(AJ BK185.out 2).trans rfl⟩ (fun hHeld=> ?_)
   clear hK K
   refine B8 (a':= ?_) ?_ ?_
   rotate_left
   ·show Act.put _ (some 6) _=_
    simp only [Act.put,List.setIfInBounds_toArray,List.set_cons_zero,List.set_cons_succ,AL,AM]
    rfl
   refine AO (i:=2) (N:=some 7) (v:= ?_) (a':= ?_) #[true,true,true,false,false,false,false,false,false,false,false,false,false,false,false,false,false,false,false,false,false,false] rfl rfl (AK HT_.out (by kernel_rfl)) (fun _ _ _ h=>h) (Or.inl ⟨by rfl,?_⟩) ?_ ?_
   rotate_left
   ·intro w'
    go_simp
    with_reducible rfl
   rotate_left
   ·simp only [Act.put,List.setIfInBounds_toArray,List.set_cons_zero,List.set_cons_succ,AL,AM]
    rfl
   refine Aw (i:=3) (N:=some 8) (v:= ?_) (a':= ?_) #[true,true,true,true,false,false,false,false,false,false,false,false,false,false,false,false,false,false,false,false,false,false] rfl rfl (Ak HT_.out HW_.out (by kernel_rfl)) (fun _ _ _ h=>h) (Or.inl ⟨by rfl,?_⟩) hHeld ?_ ?_
   rotate_left
   ·rintro w' ⟨s0,s1,s2,s3,s4,s5⟩
    go_simp
    with_reducible rfl
   rotate_left
   ·simp only [Act.put,List.setIfInBounds_toArray,List.set_cons_zero,List.set_cons_succ,AL,AM]
    rfl
   refine one_ (i:=4) (N:=some 9) #[true,true,true,true,true,false,false,false,false,false,false,false,false,false,false,false,false,false,false,false,false,false] rfl rfl (B7 HT_.out (by kernel_rfl)) (by decide) (fun K hK=> ?_)
   refine BW Tryd.func25 (by kernel_rfl) rfl #[.agg #[.int .i64 AE,.int .i64 AD,.int .i64 AF]] (by rfl) rfl rfl (by (try simp only [List.map_toArray,List.map_cons,List.map_nil]); first|done|rfl|(simp only [List.length_drop,List.length_take]; rfl)) ?_
   with_reducible refine (AY.calls k AE AD AF false _ A5.out).mono ?_
   rintro e w18 ⟨rfl,hb⟩
   refine ⟨_,rfl,?_⟩
   have n0_:=Aside0.mk (Ai (g:=gb184) (o:= .cells #[.int .i64 AB,.int .i64 AA,.int .i64 AC] 33 (0,0)) (by (with_reducible repeat (first|refine Ab ?_ _|refine AZ ?_|refine Ac ?_ _)); exact BK184.out) hb)
   have n1_:=Aside0.mk (Ai (g:=gb185) (o:= .cells #[.int .i64 AE,.int .i64 AD,.int .i64 AF] 33 (0,0)) (by (with_reducible repeat (first|refine Ab ?_ _|refine AZ ?_|refine Ac ?_ _)); exact BK185.out) hb)
   have n2_:=Aside0.mk (AP (by repeat (first|(with_reducible first|exact HB.out|apply AI|apply AG|apply AH|refine AV ?_ GE184.out|refine AV ?_ GE185.out)|exact HB.out)) hb)
   clear BK184
   clear BK185
   clear HB
   have BK184:=n0_
   have BK185:=n1_
   have HB:=n2_
   clear n0_ n1_ n2_
   (try clear hb)
   (try clear hb2)
   (try clear hk)
   (try clear hi)
   refine hK.out _ _ ⟨(AJ BK184.out 0).trans rfl,(AJ BK184.out 1).trans rfl,(AJ BK184.out 2).trans rfl,(AJ BK185.out 0).trans rfl,(AJ BK185.out 1).trans rfl,(AJ BK185.out 2).trans rfl⟩ (fun hHeld=> ?_)
   clear hK K
   refine B8 (a':= ?_) ?_ ?_
   rotate_left
   ·show Act.put _ (some 9) _=_
    simp only [Act.put,List.setIfInBounds_toArray,List.set_cons_zero,List.set_cons_succ,AL,AM]
    rfl
   refine AO (i:=5) (N:=some 10) (v:= ?_) (a':= ?_) #[true,true,true,true,true,true,false,false,false,false,false,false,false,false,false,false,false,false,false,false,false,false] rfl rfl (AK HT_.out (by kernel_rfl)) (fun _ _ _ h=>h) (Or.inl ⟨by rfl,?_⟩) ?_ ?_
   rotate_left
   ·intro w'
    go_simp
    with_reducible rfl
   rotate_left
   ·simp only [Act.put,List.setIfInBounds_toArray,List.set_cons_zero,List.set_cons_succ,AL,AM]
    rfl
   refine AO (i:=6) (N:=some 11) (v:= ?_) (a':= ?_) #[true,true,true,true,true,true,true,false,false,false,false,false,false,false,false,false,false,false,false,false,false,false] rfl rfl (AK HT_.out (by kernel_rfl)) (fun _ _ _ h=>h) (Or.inl ⟨by rfl,?_⟩) ?_ ?_
   rotate_left
   ·intro w'
    go_simp
    with_reducible rfl
   rotate_left
   ·simp only [Act.put,List.setIfInBounds_toArray,List.set_cons_zero,List.set_cons_succ,AL,AM]
    rfl
   refine AO (i:=7) (N:=some 12) (v:=undef) (a':= ?_) #[true,true,true,true,true,true,true,true,false,false,false,false,false,false,false,false,false,false,false,false,false,false] rfl rfl (AK HT_.out (by kernel_rfl)) (fun _ _ _ h=>h) (Or.inr ⟨by rfl,rfl⟩) ?_ ?_
   rotate_left
   ·simp only [Act.put,List.setIfInBounds_toArray,List.set_cons_zero,List.set_cons_succ,AL,AM]
    rfl
   refine AO (i:=8) (N:=some 13) (v:=undef) (a':= ?_) #[true,true,true,true,true,true,true,true,true,false,false,false,false,false,false,false,false,false,false,false,false,false] rfl rfl (AK HT_.out (by kernel_rfl)) (fun _ _ _ h=>h) (Or.inr ⟨by rfl,rfl⟩) ?_ ?_
   rotate_left
   ·simp only [Act.put,List.setIfInBounds_toArray,List.set_cons_zero,List.set_cons_succ,AL,AM]
    rfl
   refine AO (i:=9) (N:=some 14) (v:=undef) (a':= ?_) #[true,true,true,true,true,true,true,true,true,true,false,false,false,false,false,false,false,false,false,false,false,false] rfl rfl (AK HT_.out (by kernel_rfl)) (fun _ _ _ h=>h) (Or.inr ⟨by rfl,rfl⟩) ?_ ?_
   rotate_left
   ·simp only [Act.put,List.setIfInBounds_toArray,List.set_cons_zero,List.set_cons_succ,AL,AM]
    rfl
   refine AO (i:=10) (N:=some 15) (v:=undef) (a':= ?_) #[true,true,true,true,true,true,true,true,true,true,true,false,false,false,false,false,false,false,false,false,false,false] rfl rfl (AK HT_.out (by kernel_rfl)) (fun _ _ _ h=>h) (Or.inr ⟨by rfl,rfl⟩) ?_ ?_
   rotate_left
   ·simp only [Act.put,List.setIfInBounds_toArray,List.set_cons_zero,List.set_cons_succ,AL,AM]
    rfl
   refine AO (i:=11) (N:=some 16) (v:=undef) (a':= ?_) #[true,true,true,true,true,true,true,true,true,true,true,true,false,false,false,false,false,false,false,false,false,false] rfl rfl (AK HT_.out (by kernel_rfl)) (fun _ _ _ h=>h) (Or.inr ⟨by rfl,rfl⟩) ?_ ?_
   rotate_left
   ·simp only [Act.put,List.setIfInBounds_toArray,List.set_cons_zero,List.set_cons_succ,AL,AM]
    rfl
   refine AO (i:=12) (N:=some 17) (v:=undef) (a':= ?_) #[true,true,true,true,true,true,true,true,true,true,true,true,true,false,false,false,false,false,false,false,false,false] rfl rfl (AK HT_.out (by kernel_rfl)) (fun _ _ _ h=>h) (Or.inr ⟨by rfl,rfl⟩) ?_ ?_
   rotate_left
   ·simp only [Act.put,List.setIfInBounds_toArray,List.set_cons_zero,List.set_cons_succ,AL,AM]
    rfl
   refine AO (i:=13) (N:=some 18) (v:=undef) (a':= ?_) #[true,true,true,true,true,true,true,true,true,true,true,true,true,true,false,false,false,false,false,false,false,false] rfl rfl (AK HT_.out (by kernel_rfl)) (fun _ _ _ h=>h) (Or.inr ⟨by rfl,rfl⟩) ?_ ?_
   rotate_left
   ·simp only [Act.put,List.setIfInBounds_toArray,List.set_cons_zero,List.set_cons_succ,AL,AM]
    rfl
   refine AO (i:=14) (N:=some 19) (v:=undef) (a':= ?_) #[true,true,true,true,true,true,true,true,true,true,true,true,true,true,true,false,false,false,false,false,false,false] rfl rfl (AK HT_.out (by kernel_rfl)) (fun _ _ _ h=>h) (Or.inr ⟨by rfl,rfl⟩) ?_ ?_
   rotate_left
   ·simp only [Act.put,List.setIfInBounds_toArray,List.set_cons_zero,List.set_cons_succ,AL,AM]
    rfl
   refine AO (i:=15) (N:=some 20) (v:=undef) (a':= ?_) #[true,true,true,true,true,true,true,true,true,true,true,true,true,true,true,true,false,false,false,false,false,false] rfl rfl (AK HT_.out (by kernel_rfl)) (fun _ _ _ h=>h) (Or.inr ⟨by rfl,rfl⟩) ?_ ?_
   rotate_left
   ·simp only [Act.put,List.setIfInBounds_toArray,List.set_cons_zero,List.set_cons_succ,AL,AM]
    rfl
   refine AO (i:=16) (N:=some 21) (v:=undef) (a':= ?_) #[true,true,true,true,true,true,true,true,true,true,true,true,true,true,true,true,true,false,false,false,false,false] rfl rfl (AK HT_.out (by kernel_rfl)) (fun _ _ _ h=>h) (Or.inr ⟨by rfl,rfl⟩) ?_ ?_
   rotate_left
   ·simp only [Act.put,List.setIfInBounds_toArray,List.set_cons_zero,List.set_cons_succ,AL,AM]
    rfl
   refine AO (i:=17) (N:=some 22) (v:=undef) (a':= ?_) #[true,true,true,true,true,true,true,true,true,true,true,true,true,true,true,true,true,true,false,false,false,false] rfl rfl (AK HT_.out (by kernel_rfl)) (fun _ _ _ h=>h) (Or.inr ⟨by rfl,rfl⟩) ?_ ?_
   rotate_left
   ·simp only [Act.put,List.setIfInBounds_toArray,List.set_cons_zero,List.set_cons_succ,AL,AM]
    rfl
   refine AO (i:=18) (N:=some 23) (v:=undef) (a':= ?_) #[true,true,true,true,true,true,true,true,true,true,true,true,true,true,true,true,true,true,true,false,false,false] rfl rfl (AK HT_.out (by kernel_rfl)) (fun _ _ _ h=>h) (Or.inr ⟨by rfl,rfl⟩) ?_ ?_
   rotate_left
   ·simp only [Act.put,List.setIfInBounds_toArray,List.set_cons_zero,List.set_cons_succ,AL,AM]
    rfl
   refine AO (i:=19) (N:=some 24) (v:=undef) (a':= ?_) #[true,true,true,true,true,true,true,true,true,true,true,true,true,true,true,true,true,true,true,true,false,false] rfl rfl (AK HT_.out (by kernel_rfl)) (fun _ _ _ h=>h) (Or.inr ⟨by rfl,rfl⟩) ?_ ?_
   rotate_left
   ·simp only [Act.put,List.setIfInBounds_toArray,List.set_cons_zero,List.set_cons_succ,AL,AM]
    rfl
   refine AO (i:=20) (N:=some 25) (v:= ?_) (a':= ?_) #[true,true,true,true,true,true,true,true,true,true,true,true,true,true,true,true,true,true,true,true,true,false] rfl rfl (AK HT_.out (by kernel_rfl)) (fun _ _ _ h=>h) (Or.inl ⟨by rfl,?_⟩) ?_ ?_
   rotate_left
   ·intro w'
    go_simp
    with_reducible rfl
   rotate_left
   ·simp only [Act.put,List.setIfInBounds_toArray,List.set_cons_zero,List.set_cons_succ,AL,AM]
    rfl
   refine AO (i:=21) (N:=some 4) (v:= ?_) (a':= ?_) #[true,true,true,true,true,true,true,true,true,true,true,true,true,true,true,true,true,true,true,true,true,true] rfl rfl (AK HT_.out (by kernel_rfl)) (fun _ _ _ h=>h) (Or.inl ⟨by rfl,?_⟩) ?_ ?_
   rotate_left
   ·intro w'
    go_simp
    with_reducible rfl
   rotate_left
   ·simp only [Act.put,List.setIfInBounds_toArray,List.set_cons_zero,List.set_cons_succ,AL,AM]
    rfl
   refine Bb (BA HT_.out (by kernel_rfl)) ?_
   try go_wp2
   go_ret
   exact ⟨by first|rfl|(simp [AS,AR]<;>rfl)|(simp [*,AS,AR]<;>rfl),by repeat (first|(with_reducible first|exact HB.out|apply AI|apply AG|apply AH|refine AV ?_ GE184.out|refine AV ?_ GE185.out)|exact HB.out)⟩
 ·replace c4:=Bool.eq_false_iff.mpr c4
  subst c4
  have H1:(some false)=some r:=by rw [if_neg (show ¬(false=true) by decide)] at H; exact H
  clear H
  have H:=H1
  clear H1
  obtain rfl:=Option.some.inj H
  go_enter Tryd.func28,Tryd.ntmps28
  try go_wp2_with (first|((with_reducible refine Ar (N:=2) rfl ?_); refine Am ?hg (N:=2) ?hd (cs:= #[.int .i64 AB,.int .i64 AA,.int .i64 AC]) (t:=33) ?hr ?_; (case hd=>rfl); (case hg=>rfl); (case hr=>first|(go_simp; done)|(go_simp; rfl)); intro gb184 hg w19 hbox hb; have n0_:=Aside0.mk (AP (by repeat (first|(with_reducible first|exact HB.out|apply AI|apply AG|apply AH)|exact HB.out)) hb); have n1_:=Aside0.mk (hbox); have n2_:=Aside0.mk ((by rw [hg]; exact (AT (by repeat (first|(with_reducible first|exact HB.out|apply AI|apply AG|apply AH)|exact HB.out))):w.heap.size≤gb184)); have n3_:=Aside0.mk ((by rw [hg]; exact (AT (by repeat (first|(with_reducible first|exact HB.out|apply AI|apply AG|apply AH)|exact HB.out))):w.heap.size≤gb184)); clear HB; have HB:=n0_; have BK184:=n1_; have GW184:=n2_; have GE184:=n3_; clear n0_ n1_ n2_ n3_; clear hb hbox hg)|((with_reducible refine Ar (N:=3) rfl ?_); refine Am ?hg (N:=3) ?hd (cs:= #[.int .i64 AE,.int .i64 AD,.int .i64 AF]) (t:=33) ?hr ?_; (case hd=>rfl); (case hg=>rfl); (case hr=>first|(go_simp; done)|(go_simp; rfl)); intro gb185 hg w20 hbox hb; have n0_:=Aside0.mk (Ai (g:=gb184) (o:= .cells #[.int .i64 AB,.int .i64 AA,.int .i64 AC] 33 (0,0)) (by (with_reducible repeat (first|refine Ab ?_ _|refine AZ ?_|refine Ac ?_ _)); exact BK184.out) hb); have n1_:=Aside0.mk (AP (by repeat (first|(with_reducible first|exact HB.out|apply AI|apply AG|apply AH|refine AV ?_ GE184.out)|exact HB.out)) hb); have n2_:=Aside0.mk (hbox); have n3_:=Aside0.mk ((by rw [hg]; exact (AT (by repeat (first|(with_reducible first|exact HB.out|apply AI|apply AG|apply AH|refine AV ?_ GE184.out)|exact HB.out))):w.heap.size≤gb185)); have n4_:=Aside0.mk ((by rw [hg]; exact (AT (by repeat (first|(with_reducible first|exact HB.out|apply AI|apply AG|apply AH|refine AV ?_ GE184.out)|exact HB.out))):w.heap.size≤gb185)); have n5_:=Aside0.mk ((by rw [hg]; exact Nat.ne_of_lt (Bi (g:=gb184) (o:= .cells #[.int .i64 AB,.int .i64 AA,.int .i64 AC] 33 (0,0)) (by (with_reducible repeat (first|refine Ab ?_ _|refine AZ ?_|refine Ac ?_ _)); exact BK184.out)):gb184≠gb185)); have n6_:=Aside0.mk ((by rw [hg]; exact Nat.ne_of_gt (Bi (g:=gb184) (o:= .cells #[.int .i64 AB,.int .i64 AA,.int .i64 AC] 33 (0,0)) (by (with_reducible repeat (first|refine Ab ?_ _|refine AZ ?_|refine Ac ?_ _)); exact BK184.out)):gb185≠gb184)); clear BK184; clear HB; have BK184:=n0_; have HB:=n1_; have BK185:=n2_; have GW185:=n3_; have GE185:=n4_; have NB184_185:=n5_; have NB185_184:=n6_; clear n0_ n1_ n2_ n3_ n4_ n5_ n6_; clear hb hbox hg))
  have n0_:=Aside0.mk (AZ BK184.out)
  have n1_:=Aside0.mk (AZ BK185.out)
  have n2_:=Aside0.mk (AH HB.out)
  clear BK184
  clear BK185
  clear HB
  have BK184:=n0_
  have BK185:=n1_
  have HB:=n2_
  clear n0_ n1_ n2_
  refine BR (n:=22) (S:=fun w'=>w'.cell? ⟨gb184,0,none⟩=some (.int .i64 AB)∧w'.cell? ⟨gb184,1,none⟩=some (.int .i64 AA)∧w'.cell? ⟨gb184,2,none⟩=some (.int .i64 AC)) (ds:=[]) #[false,false,false,false,false,false,false,false,false,false,false,false,false,false,false,false,false,false,false,false,false,false] (by kernel_rfl) rfl rfl ⟨(AJ BK184.out 0).trans rfl,(AJ BK184.out 1).trans rfl,(AJ BK184.out 2).trans rfl⟩ (fun hHeld=> ?_); refine B4 An.tab1 An.bits1 (fun HT_ HW_=> ?_)
  generalize w20.drew=w21 at BK184 BK185 HB hHeld ⊢
  refine Aw (i:=0) (N:=some 5) (v:= ?_) (a':= ?_) #[true,false,false,false,false,false,false,false,false,false,false,false,false,false,false,false,false,false,false,false,false,false] rfl rfl (Ak HT_.out HW_.out (by kernel_rfl)) (fun _ _ _ h=>h) (Or.inl ⟨by rfl,?_⟩) hHeld ?_ ?_
  rotate_left
  ·rintro w' ⟨s0,s1,s2⟩
   go_simp
   with_reducible rfl
  rotate_left
  ·simp only [Act.put,List.setIfInBounds_toArray,List.set_cons_zero,List.set_cons_succ,AL,AM]
   rfl
  refine one_ (i:=1) (N:=some 6) #[true,true,false,false,false,false,false,false,false,false,false,false,false,false,false,false,false,false,false,false,false,false] rfl rfl (B7 HT_.out (by kernel_rfl)) (by decide) (fun K hK=> ?_)
  refine BW Tryd.func25 (by kernel_rfl) rfl #[.agg #[.int .i64 AB,.int .i64 AA,.int .i64 AC]] (by rfl) rfl rfl (by (try simp only [List.map_toArray,List.map_cons,List.map_nil]); first|done|rfl|(simp only [List.length_drop,List.length_take]; rfl)) ?_
  with_reducible refine (AY.calls k AB AA AC false _ A3.out).mono ?_
  rintro e w22 ⟨rfl,hb⟩
  refine ⟨_,rfl,?_⟩
  have n0_:=Aside0.mk (Ai (g:=gb184) (o:= .cells #[.int .i64 AB,.int .i64 AA,.int .i64 AC] 33 (0,0)) (by (with_reducible repeat (first|refine Ab ?_ _|refine AZ ?_|refine Ac ?_ _)); exact BK184.out) hb)
  have n1_:=Aside0.mk (Ai (g:=gb185) (o:= .cells #[.int .i64 AE,.int .i64 AD,.int .i64 AF] 33 (0,0)) (by (with_reducible repeat (first|refine Ab ?_ _|refine AZ ?_|refine Ac ?_ _)); exact BK185.out) hb)
  have n2_:=Aside0.mk (AP (by repeat (first|(with_reducible first|exact HB.out|apply AI|apply AG|apply AH|refine AV ?_ GE184.out|refine AV ?_ GE185.out)|exact HB.out)) hb)
  clear BK184
  clear BK185
  clear HB
  have BK184:=n0_
  have BK185:=n1_
  have HB:=n2_
  clear n0_ n1_ n2_
  (try clear hb)
  (try clear hb2)
  (try clear hk)
  (try clear hi)
  refine hK.out _ _ ⟨(AJ BK184.out 0).trans rfl,(AJ BK184.out 1).trans rfl,(AJ BK184.out 2).trans rfl⟩ (fun hHeld=> ?_)
  clear hK K
  refine B8 (a':= ?_) ?_ ?_
  rotate_left
  ·show Act.put _ (some 6) _=_
   simp only [Act.put,List.setIfInBounds_toArray,List.set_cons_zero,List.set_cons_succ,AL,AM]
   rfl
  refine AO (i:=2) (N:=some 7) (v:= ?_) (a':= ?_) #[true,true,true,false,false,false,false,false,false,false,false,false,false,false,false,false,false,false,false,false,false,false] rfl rfl (AK HT_.out (by kernel_rfl)) (fun _ _ _ h=>h) (Or.inl ⟨by rfl,?_⟩) ?_ ?_
  rotate_left
  ·intro w'
   go_simp
   with_reducible rfl
  rotate_left
  ·simp only [Act.put,List.setIfInBounds_toArray,List.set_cons_zero,List.set_cons_succ,AL,AM]
   rfl
  refine AO (i:=3) (N:=some 8) (v:=undef) (a':= ?_) #[true,true,true,true,false,false,false,false,false,false,false,false,false,false,false,false,false,false,false,false,false,false] rfl rfl (AK HT_.out (by kernel_rfl)) (fun _ _ _ h=>h) (Or.inr ⟨by rfl,rfl⟩) ?_ ?_
  rotate_left
  ·simp only [Act.put,List.setIfInBounds_toArray,List.set_cons_zero,List.set_cons_succ,AL,AM]
   rfl
  refine AO (i:=4) (N:=some 9) (v:=undef) (a':= ?_) #[true,true,true,true,true,false,false,false,false,false,false,false,false,false,false,false,false,false,false,false,false,false] rfl rfl (AK HT_.out (by kernel_rfl)) (fun _ _ _ h=>h) (Or.inr ⟨by rfl,rfl⟩) ?_ ?_
  rotate_left
  ·simp only [Act.put,List.setIfInBounds_toArray,List.set_cons_zero,List.set_cons_succ,AL,AM]
   rfl
  refine AO (i:=5) (N:=some 10) (v:= ?_) (a':= ?_) #[true,true,true,true,true,true,false,false,false,false,false,false,false,false,false,false,false,false,false,false,false,false] rfl rfl (AK HT_.out (by kernel_rfl)) (fun _ _ _ h=>h) (Or.inl ⟨by rfl,?_⟩) ?_ ?_
  rotate_left
  ·intro w'
   go_simp
   with_reducible rfl
  rotate_left
  ·simp only [Act.put,List.setIfInBounds_toArray,List.set_cons_zero,List.set_cons_succ,AL,AM]
   rfl
  refine AO (i:=6) (N:=some 11) (v:= ?_) (a':= ?_) #[true,true,true,true,true,true,true,false,false,false,false,false,false,false,false,false,false,false,false,false,false,false] rfl rfl (AK HT_.out (by kernel_rfl)) (fun _ _ _ h=>h) (Or.inl ⟨by rfl,?_⟩) ?_ ?_
  rotate_left
  ·intro w'
   go_simp
   with_reducible rfl
  rotate_left
  ·simp only [Act.put,List.setIfInBounds_toArray,List.set_cons_zero,List.set_cons_succ,AL,AM]
   rfl
  refine AO (i:=7) (N:=some 12) (v:=undef) (a':= ?_) #[true,true,true,true,true,true,true,true,false,false,false,false,false,false,false,false,false,false,false,false,false,false] rfl rfl (AK HT_.out (by kernel_rfl)) (fun _ _ _ h=>h) (Or.inr ⟨by rfl,rfl⟩) ?_ ?_
  rotate_left
  ·simp only [Act.put,List.setIfInBounds_toArray,List.set_cons_zero,List.set_cons_succ,AL,AM]
   rfl
  refine AO (i:=8) (N:=some 13) (v:=undef) (a':= ?_) #[true,true,true,true,true,true,true,true,true,false,false,false,false,false,false,false,false,false,false,false,false,false] rfl rfl (AK HT_.out (by kernel_rfl)) (fun _ _ _ h=>h) (Or.inr ⟨by rfl,rfl⟩) ?_ ?_
  rotate_left
  ·simp only [Act.put,List.setIfInBounds_toArray,List.set_cons_zero,List.set_cons_succ,AL,AM]
   rfl
  refine AO (i:=9) (N:=some 14) (v:=undef) (a':= ?_) #[true,true,true,true,true,true,true,true,true,true,false,false,false,false,false,false,false,false,false,false,false,false] rfl rfl (AK HT_.out (by kernel_rfl)) (fun _ _ _ h=>h) (Or.inr ⟨by rfl,rfl⟩) ?_ ?_
  rotate_left
  ·simp only [Act.put,List.setIfInBounds_toArray,List.set_cons_zero,List.set_cons_succ,AL,AM]
   rfl
  refine AO (i:=10) (N:=some 15) (v:=undef) (a':= ?_) #[true,true,true,true,true,true,true,true,true,true,true,false,false,false,false,false,false,false,false,false,false,false] rfl rfl (AK HT_.out (by kernel_rfl)) (fun _ _ _ h=>h) (Or.inr ⟨by rfl,rfl⟩) ?_ ?_
  rotate_left
  ·simp only [Act.put,List.setIfInBounds_toArray,List.set_cons_zero,List.set_cons_succ,AL,AM]
   rfl
  refine AO (i:=11) (N:=some 16) (v:=undef) (a':= ?_) #[true,true,true,true,true,true,true,true,true,true,true,true,false,false,false,false,false,false,false,false,false,false] rfl rfl (AK HT_.out (by kernel_rfl)) (fun _ _ _ h=>h) (Or.inr ⟨by rfl,rfl⟩) ?_ ?_
  rotate_left
  ·simp only [Act.put,List.setIfInBounds_toArray,List.set_cons_zero,List.set_cons_succ,AL,AM]
   rfl
  refine AO (i:=12) (N:=some 17) (v:=undef) (a':= ?_) #[true,true,true,true,true,true,true,true,true,true,true,true,true,false,false,false,false,false,false,false,false,false] rfl rfl (AK HT_.out (by kernel_rfl)) (fun _ _ _ h=>h) (Or.inr ⟨by rfl,rfl⟩) ?_ ?_
  rotate_left
  ·simp only [Act.put,List.setIfInBounds_toArray,List.set_cons_zero,List.set_cons_succ,AL,AM]
   rfl
  refine AO (i:=13) (N:=some 18) (v:=undef) (a':= ?_) #[true,true,true,true,true,true,true,true,true,true,true,true,true,true,false,false,false,false,false,false,false,false] rfl rfl (AK HT_.out (by kernel_rfl)) (fun _ _ _ h=>h) (Or.inr ⟨by rfl,rfl⟩) ?_ ?_
  rotate_left
  ·simp only [Act.put,List.setIfInBounds_toArray,List.set_cons_zero,List.set_cons_succ,AL,AM]
   rfl
  refine AO (i:=14) (N:=some 19) (v:=undef) (a':= ?_) #[true,true,true,true,true,true,true,true,true,true,true,true,true,true,true,false,false,false,false,false,false,false] rfl rfl (AK HT_.out (by kernel_rfl)) (fun _ _ _ h=>h) (Or.inr ⟨by rfl,rfl⟩) ?_ ?_
  rotate_left
  ·simp only [Act.put,List.setIfInBounds_toArray,List.set_cons_zero,List.set_cons_succ,AL,AM]
   rfl
  refine AO (i:=15) (N:=some 20) (v:=undef) (a':= ?_) #[true,true,true,true,true,true,true,true,true,true,true,true,true,true,true,true,false,false,false,false,false,false] rfl rfl (AK HT_.out (by kernel_rfl)) (fun _ _ _ h=>h) (Or.inr ⟨by rfl,rfl⟩) ?_ ?_
  rotate_left
  ·simp only [Act.put,List.setIfInBounds_toArray,List.set_cons_zero,List.set_cons_succ,AL,AM]
   rfl
  refine AO (i:=16) (N:=some 21) (v:=undef) (a':= ?_) #[true,true,true,true,true,true,true,true,true,true,true,true,true,true,true,true,true,false,false,false,false,false] rfl rfl (AK HT_.out (by kernel_rfl)) (fun _ _ _ h=>h) (Or.inr ⟨by rfl,rfl⟩) ?_ ?_
  rotate_left
  ·simp only [Act.put,List.setIfInBounds_toArray,List.set_cons_zero,List.set_cons_succ,AL,AM]
   rfl
  refine AO (i:=17) (N:=some 22) (v:=undef) (a':= ?_) #[true,true,true,true,true,true,true,true,true,true,true,true,true,true,true,true,true,true,false,false,false,false] rfl rfl (AK HT_.out (by kernel_rfl)) (fun _ _ _ h=>h) (Or.inr ⟨by rfl,rfl⟩) ?_ ?_
  rotate_left
  ·simp only [Act.put,List.setIfInBounds_toArray,List.set_cons_zero,List.set_cons_succ,AL,AM]
   rfl
  refine AO (i:=18) (N:=some 23) (v:=undef) (a':= ?_) #[true,true,true,true,true,true,true,true,true,true,true,true,true,true,true,true,true,true,true,false,false,false] rfl rfl (AK HT_.out (by kernel_rfl)) (fun _ _ _ h=>h) (Or.inr ⟨by rfl,rfl⟩) ?_ ?_
  rotate_left
  ·simp only [Act.put,List.setIfInBounds_toArray,List.set_cons_zero,List.set_cons_succ,AL,AM]
   rfl
  refine AO (i:=19) (N:=some 24) (v:=undef) (a':= ?_) #[true,true,true,true,true,true,true,true,true,true,true,true,true,true,true,true,true,true,true,true,false,false] rfl rfl (AK HT_.out (by kernel_rfl)) (fun _ _ _ h=>h) (Or.inr ⟨by rfl,rfl⟩) ?_ ?_
  rotate_left
  ·simp only [Act.put,List.setIfInBounds_toArray,List.set_cons_zero,List.set_cons_succ,AL,AM]
   rfl
  refine AO (i:=20) (N:=some 25) (v:= ?_) (a':= ?_) #[true,true,true,true,true,true,true,true,true,true,true,true,true,true,true,true,true,true,true,true,true,false] rfl rfl (AK HT_.out (by kernel_rfl)) (fun _ _ _ h=>h) (Or.inl ⟨by rfl,?_⟩) ?_ ?_
  rotate_left
  ·intro w'
   go_simp
   with_reducible rfl
  rotate_left
  ·simp only [Act.put,List.setIfInBounds_toArray,List.set_cons_zero,List.set_cons_succ,AL,AM]
   rfl
  refine AO (i:=21) (N:=some 4) (v:= ?_) (a':= ?_) #[true,true,true,true,true,true,true,true,true,true,true,true,true,true,true,true,true,true,true,true,true,true] rfl rfl (AK HT_.out (by kernel_rfl)) (fun _ _ _ h=>h) (Or.inl ⟨by rfl,?_⟩) ?_ ?_
  rotate_left
  ·intro w'
   go_simp
   with_reducible rfl
  rotate_left
  ·simp only [Act.put,List.setIfInBounds_toArray,List.set_cons_zero,List.set_cons_succ,AL,AM]
   rfl
  refine Bb (BA HT_.out (by kernel_rfl)) ?_
  try go_wp2
  go_ret
  exact ⟨by first|rfl|(simp [AS,AR]<;>rfl)|(simp [*,AS,AR]<;>rfl),by repeat (first|(with_reducible first|exact HB.out|apply AI|apply AG|apply AH|refine AV ?_ GE184.out|refine AV ?_ GE185.out)|exact HB.out)⟩
def B3.f (a0:Int):Option (Int):=some (Int.tmod (wrap64 ((Int.tmod a0 24)+24)) 24)
set_option maxHeartbeats 8000000 in
theorem B3.calls (a0:Int) (r:Int) (w:World) (h:B3.f a0=some r):
  Calls Tryd.prog 36 #[.int .i64 a0] w fun e w'=>e= .returned (.int .i64 r)∧Drawn0 w w':=by
 have H:(some (Int.tmod (wrap64 ((Int.tmod a0 24)+24)) 24))=some r:=h
 clear h
 obtain rfl:=Option.some.inj H
 go_enter Tryd.func36,Tryd.ntmps36
 go_wp2
 go_ret
 exact ⟨by first|rfl|(simp; done)|(simp [*]; done),by repeat (first|exact Drawn0.refl _|apply Drawn0.step)⟩
def At.j0:Nat→Int→Int→Bool→Option (Int×Int×Int)
 |0,_,_,_=>none
 |k+1,x0,x1,x14=>if x14=true then (some (0,0,2)) else ((B3.f x0).bind fun t190=>(if (wrap64 (Int.tdiv (wrap64 (t190*x1)) 24))=0 then (some (x1,Int.tmod (wrap64 (t190*x1)) 24,0)) else (some (wrap64 (Int.tdiv (wrap64 (t190*x1)) 24),Int.tmod (wrap64 (t190*x1)) 24,0))))
def At.f (k:Nat) (a0:Int) (a1:Int):Option (Int×Int×Int):=if a1<1 then (At.j0 k a0 a1 true) else (At.j0 k a0 a1 (decide (a1>200)))
set_option maxHeartbeats 8000000 in
theorem At.calls (k:Nat) (a0:Int) (a1:Int) (r1:Int) (r2:Int) (r3:Int) (w:World) (h:At.f k a0 a1=some (r1,r2,r3)):
  Calls Tryd.prog 12 #[.int .i64 a0,.int .i64 a1] w fun e w'=>e= .returned (.tuple #[.int .i64 r1,.int .i64 r2,.int .i64 r3])∧Drawn0 w w':=by
 have H:(if a1<1 then (At.j0 k a0 a1 true) else (At.j0 k a0 a1 (decide (a1>200))))=some (r1,r2,r3):=h
 clear h
 have HC3:=Aside0.mk H
 clear H
 go_enter Tryd.func12,Tryd.ntmps12
 go_upto_region 1 with (fail)
 go_cut [14] (fun v14 wc=>∃(kq:Nat) (x14_2:Bool),v14= .bool x14_2∧Aside0 (At.j0 kq a0 a1 x14_2=some (r1,r2,r3))∧Aside0 (kq≤k)∧Drawn0 w wc)
 case first=>
  have H:=HC3.out
  clear HC3
  by_cases c4:a1<1
  ·rw [if_pos c4] at H
   have c4b0:decide (a1<1)=true:=decide_eq_true c4
   clear c4
   (first|rw [c4b0]|(simp only [AL,AM]; rw [c4b0])|skip)
   have H':=Aside0.mk H
   clear H
   go_wp2
   go_meet
   case rel=>exact ⟨_,(true),(by first|rfl|(simp; done)|(simp [*]; done)),H',⟨by first|omega|exact Nat.le_refl _⟩,by repeat (first|exact Drawn0.refl _|apply Drawn0.step)⟩
  ·rw [if_neg c4] at H
   have c4b0:decide (a1<1)=false:=decide_eq_false c4
   clear c4
   (first|rw [c4b0]|(simp only [AL,AM]; rw [c4b0])|skip)
   have H':=Aside0.mk H
   clear H
   go_wp2
   go_meet
   case rel=>exact ⟨_,(decide (a1>200)),(by first|rfl|(simp; done)|(simp [*]; done)),H',⟨by first|omega|exact Nat.le_refl _⟩,by repeat (first|exact Drawn0.refl _|apply Drawn0.step)⟩
 case rest=>
  clear HC3
  try clear c1
  try clear p2
  try clear c4
  try clear c4b0
  obtain ⟨kq,x14_2,rfl,HA,HJ2,⟨mc2,rfl⟩⟩:=hcut
  cases kq with
  |zero=>exact absurd HA.out (by simp [At.j0])
  | succ kj2=>
   have H:=HA.out
   clear HA
   simp only [At.j0] at H
   by_cases c5:x14_2=true
   ·subst c5
    have H1:(some (0,0,2))=some (r1,r2,r3):=by rw [if_pos rfl] at H; exact H
    clear H
    have H:=H1
    clear H1
    simp only [Option.some.injEq,Prod.mk.injEq] at H
    obtain ⟨rfl,rfl,rfl⟩:=H
    go_wp2
    go_ret3
    exact ⟨by first|rfl|(simp; done)|(simp [*]; done),by repeat (first|exact Drawn0.refl _|apply Drawn0.step)⟩
   ·replace c5:=Bool.eq_false_iff.mpr c5
    subst c5
    have H1:((B3.f a0).bind fun t190=>(if (wrap64 (Int.tdiv (wrap64 (t190*a1)) 24))=0 then (some (a1,Int.tmod (wrap64 (t190*a1)) 24,0)) else (some (wrap64 (Int.tdiv (wrap64 (t190*a1)) 24),Int.tmod (wrap64 (t190*a1)) 24,0))))=some (r1,r2,r3):=by rw [if_neg (show ¬(false=true) by decide)] at H; exact H
    clear H
    have H:=H1
    clear H1
    replace H:=Option.bind_eq_some_iff.mp H
    obtain ⟨t190,A60,H⟩:=H
    replace H:(if (wrap64 (Int.tdiv (wrap64 (t190*a1)) 24))=0 then (some (a1,Int.tmod (wrap64 (t190*a1)) 24,0)) else (some (wrap64 (Int.tdiv (wrap64 (t190*a1)) 24),Int.tmod (wrap64 (t190*a1)) 24,0)))=some (r1,r2,r3):=H
    have A6:=Aside0.mk A60
    clear A60
    by_cases c7:(wrap64 (Int.tdiv (wrap64 (t190*a1)) 24))=0
    ·rw [if_pos c7] at H
     have c7b0:((wrap64 (Int.tdiv (wrap64 (t190*a1)) 24))==0)=true:=beq_iff_eq.mpr c7
     have c7b1:((wrap64 (Int.tdiv (wrap64 (t190*a1)) 24)) !=0)=false:=bne_eq_false_iff_eq.mpr c7
     clear c7
     simp only [Option.some.injEq,Prod.mk.injEq] at H
     obtain ⟨rfl,rfl,rfl⟩:=H
     go_wp2_with (first|((with_reducible refine AQ (f:=36) rfl ?_); refine Ag (some 16) rfl rfl Tryd.func36 (by kernel_rfl) rfl #[.int .i64 a0] rfl (by (try simp only [List.map_toArray,List.map_cons,List.map_nil]); first|done|rfl|(simp only [List.length_drop,List.length_take]; rfl)) ?_; (with_reducible refine (B3.calls a0 t190 _ A6.out).mono ?_); rintro e w' ⟨rfl,⟨nd,rfl⟩⟩; refine ⟨_,rfl,?_⟩))
     go_ret3
     exact ⟨by first|rfl|(simp; done)|(simp [*]; done),by repeat (first|exact Drawn0.refl _|apply Drawn0.step)⟩
    ·rw [if_neg c7] at H
     have c7b0:((wrap64 (Int.tdiv (wrap64 (t190*a1)) 24))==0)=false:=beq_eq_false_iff_ne.mpr c7
     have c7b1:((wrap64 (Int.tdiv (wrap64 (t190*a1)) 24)) !=0)=true:=bne_iff_ne.mpr c7
     simp only [Option.some.injEq,Prod.mk.injEq] at H
     obtain ⟨rfl,rfl,rfl⟩:=H
     go_wp2_with (first|((with_reducible refine AQ (f:=36) rfl ?_); refine Ag (some 16) rfl rfl Tryd.func36 (by kernel_rfl) rfl #[.int .i64 a0] rfl (by (try simp only [List.map_toArray,List.map_cons,List.map_nil]); first|done|rfl|(simp only [List.length_drop,List.length_take]; rfl)) ?_; (with_reducible refine (B3.calls a0 t190 _ A6.out).mono ?_); rintro e w' ⟨rfl,⟨nd,rfl⟩⟩; refine ⟨_,rfl,?_⟩))
     go_ret3
     exact ⟨by first|rfl|(simp; done)|(simp [*]; done),by repeat (first|exact Drawn0.refl _|apply Drawn0.step)⟩
def B2.f (k:Nat) (AB:Int) (AA:Int) (AC:Int):Option (Int×Bool×Int):=(AY.f k AB AA AC).bind fun t192=>(if t192=true then (if AA=0 then (some (0,false,15)) else ((Af.f AA).bind fun t193=>(if t193=0 then (none) else ((Af.f AA).bind fun t194=>(if t194=0 then (none) else (some (wrap64 (Int.tdiv (wrap64 (1000*AB)) t193),((Int.tmod (wrap64 (1000*AB)) t194)==0),0))))))) else (some (0,false,1)))
set_option maxHeartbeats 8000000 in
theorem B2.calls (k:Nat) (AB:Int) (AA:Int) (AC:Int) (r1:Int) (r2:Bool) (r3:Int) (w:World) (h:B2.f k AB AA AC=some (r1,r2,r3)):
  Calls Tryd.prog 21 #[.agg #[.int .i64 AB,.int .i64 AA,.int .i64 AC]] w fun e w'=>e= .returned (.tuple #[.int .i64 r1,.bool r2,.int .i64 r3])∧Below w.heap.size w w':=by
 have hu33:=Tryd.underlying33
 have HB:=Aside0.mk (Below.refl w.heap.size w)
 have H:((AY.f k AB AA AC).bind fun t192=>(if t192=true then (if AA=0 then (some (0,false,15)) else ((Af.f AA).bind fun t193=>(if t193=0 then (none) else ((Af.f AA).bind fun t194=>(if t194=0 then (none) else (some (wrap64 (Int.tdiv (wrap64 (1000*AB)) t193),((Int.tmod (wrap64 (1000*AB)) t194)==0),0))))))) else (some (0,false,1))))=some (r1,r2,r3):=h
 clear h
 replace H:=Option.bind_eq_some_iff.mp H
 obtain ⟨t192,A20,H⟩:=H
 replace H:(if t192=true then (if AA=0 then (some (0,false,15)) else ((Af.f AA).bind fun t193=>(if t193=0 then (none) else ((Af.f AA).bind fun t194=>(if t194=0 then (none) else (some (wrap64 (Int.tdiv (wrap64 (1000*AB)) t193),((Int.tmod (wrap64 (1000*AB)) t194)==0),0))))))) else (some (0,false,1)))=some (r1,r2,r3):=H
 have A2:=Aside0.mk A20
 clear A20
 by_cases c3:t192=true
 ·subst c3
  have H1:(if AA=0 then (some (0,false,15)) else ((Af.f AA).bind fun t193=>(if t193=0 then (none) else ((Af.f AA).bind fun t194=>(if t194=0 then (none) else (some (wrap64 (Int.tdiv (wrap64 (1000*AB)) t193),((Int.tmod (wrap64 (1000*AB)) t194)==0),0)))))))=some (r1,r2,r3):=by rw [if_pos rfl] at H; exact H
  clear H
  have H:=H1
  clear H1
  by_cases c4:AA=0
  ·rw [if_pos c4] at H
   have c4b0:(AA==0)=true:=beq_iff_eq.mpr c4
   have c4b1:(AA !=0)=false:=bne_eq_false_iff_eq.mpr c4
   clear c4
   simp only [Option.some.injEq,Prod.mk.injEq] at H
   obtain ⟨rfl,rfl,rfl⟩:=H
   go_enter Tryd.func21,Tryd.ntmps21
   go_wp2_with (first|((with_reducible refine Ar (N:=1) rfl ?_); refine Am ?hg (N:=1) ?hd (cs:= #[.int .i64 AB,.int .i64 AA,.int .i64 AC]) (t:=33) ?hr ?_; (case hd=>rfl); (case hg=>rfl); (case hr=>first|(go_simp; done)|(go_simp; rfl)); intro gb191 hg w5 hbox hb; have n0_:=Aside0.mk (AP (by repeat (first|(with_reducible first|exact HB.out|apply AI|apply AG|apply AH)|exact HB.out)) hb); have n1_:=Aside0.mk (hbox); have n2_:=Aside0.mk ((by rw [hg]; exact (AT (by repeat (first|(with_reducible first|exact HB.out|apply AI|apply AG|apply AH)|exact HB.out))):w.heap.size≤gb191)); have n3_:=Aside0.mk ((by rw [hg]; exact (AT (by repeat (first|(with_reducible first|exact HB.out|apply AI|apply AG|apply AH)|exact HB.out))):w.heap.size≤gb191)); clear HB; have HB:=n0_; have BK191:=n1_; have GW191:=n2_; have GE191:=n3_; clear n0_ n1_ n2_ n3_; clear hb hbox hg; have hcz6_0:w5.cell? ⟨gb191,0,none⟩=some (.int .i64 AB):=(AJ BK191.out 0).trans rfl; have hcz6_1:w5.cell? ⟨gb191,1,none⟩=some (.int .i64 AA):=(AJ BK191.out 1).trans rfl; have hcz6_2:w5.cell? ⟨gb191,2,none⟩=some (.int .i64 AC):=(AJ BK191.out 2).trans rfl; have hfz6_0:=AN BK191.out 0; have hfz6_1:=AN BK191.out 1; have hfz6_2:=AN BK191.out 2)|(go_at_call 25; (with_reducible refine (AY.calls k AB AA AC true _ A2.out).mono ?_); rintro e w7 ⟨rfl,hb⟩; have n0_:=Aside0.mk (Ai (g:=gb191) (o:= .cells #[.int .i64 AB,.int .i64 AA,.int .i64 AC] 33 (0,0)) (by (with_reducible repeat (first|refine Ab ?_ _|refine AZ ?_|refine Ac ?_ _)); exact BK191.out) hb); have n1_:=Aside0.mk (AP (by repeat (first|(with_reducible first|exact HB.out|apply AI|apply AG|apply AH|refine AV ?_ GE191.out)|exact HB.out)) hb); clear BK191; clear HB; have BK191:=n0_; have HB:=n1_; clear n0_ n1_; (try clear hb); (try clear hb2); (try clear hk); (try clear hi); have hcz8_0:w7.cell? ⟨gb191,0,none⟩=some (.int .i64 AB):=(AJ BK191.out 0).trans rfl; have hcz8_1:w7.cell? ⟨gb191,1,none⟩=some (.int .i64 AA):=(AJ BK191.out 1).trans rfl; have hcz8_2:w7.cell? ⟨gb191,2,none⟩=some (.int .i64 AC):=(AJ BK191.out 2).trans rfl; have hfz8_0:=AN BK191.out 0; have hfz8_1:=AN BK191.out 1; have hfz8_2:=AN BK191.out 2))
   repeat (go_quiet (first|((with_reducible refine Ar (N:=1) rfl ?_); refine Am ?hg (N:=1) ?hd (cs:= #[.int .i64 AB,.int .i64 AA,.int .i64 AC]) (t:=33) ?hr ?_; (case hd=>rfl); (case hg=>rfl); (case hr=>first|(go_simp; done)|(go_simp; rfl)); intro gb191 hg w5 hbox hb; have n0_:=Aside0.mk (AP (by repeat (first|(with_reducible first|exact HB.out|apply AI|apply AG|apply AH)|exact HB.out)) hb); have n1_:=Aside0.mk (hbox); have n2_:=Aside0.mk ((by rw [hg]; exact (AT (by repeat (first|(with_reducible first|exact HB.out|apply AI|apply AG|apply AH)|exact HB.out))):w.heap.size≤gb191)); have n3_:=Aside0.mk ((by rw [hg]; exact (AT (by repeat (first|(with_reducible first|exact HB.out|apply AI|apply AG|apply AH)|exact HB.out))):w.heap.size≤gb191)); clear HB; have HB:=n0_; have BK191:=n1_; have GW191:=n2_; have GE191:=n3_; clear n0_ n1_ n2_ n3_; clear hb hbox hg; have hcz6_0:w5.cell? ⟨gb191,0,none⟩=some (.int .i64 AB):=(AJ BK191.out 0).trans rfl; have hcz6_1:w5.cell? ⟨gb191,1,none⟩=some (.int .i64 AA):=(AJ BK191.out 1).trans rfl; have hcz6_2:w5.cell? ⟨gb191,2,none⟩=some (.int .i64 AC):=(AJ BK191.out 2).trans rfl; have hfz6_0:=AN BK191.out 0; have hfz6_1:=AN BK191.out 1; have hfz6_2:=AN BK191.out 2)|(go_at_call 25; (with_reducible refine (AY.calls k AB AA AC true _ A2.out).mono ?_); rintro e w7 ⟨rfl,hb⟩; have n0_:=Aside0.mk (Ai (g:=gb191) (o:= .cells #[.int .i64 AB,.int .i64 AA,.int .i64 AC] 33 (0,0)) (by (with_reducible repeat (first|refine Ab ?_ _|refine AZ ?_|refine Ac ?_ _)); exact BK191.out) hb); have n1_:=Aside0.mk (AP (by repeat (first|(with_reducible first|exact HB.out|apply AI|apply AG|apply AH|refine AV ?_ GE191.out)|exact HB.out)) hb); clear BK191; clear HB; have BK191:=n0_; have HB:=n1_; clear n0_ n1_; (try clear hb); (try clear hb2); (try clear hk); (try clear hi); have hcz8_0:w7.cell? ⟨gb191,0,none⟩=some (.int .i64 AB):=(AJ BK191.out 0).trans rfl; have hcz8_1:w7.cell? ⟨gb191,1,none⟩=some (.int .i64 AA):=(AJ BK191.out 1).trans rfl; have hcz8_2:w7.cell? ⟨gb191,2,none⟩=some (.int .i64 AC):=(AJ BK191.out 2).trans rfl; have hfz8_0:=AN BK191.out 0; have hfz8_1:=AN BK191.out 1; have hfz8_2:=AN BK191.out 2; clear A2)); try go_wp2_with (first|((with_reducible refine Ar (N:=1) rfl ?_); refine Am ?hg (N:=1) ?hd (cs:= #[.int .i64 AB,.int .i64 AA,.int .i64 AC]) (t:=33) ?hr ?_; (case hd=>rfl); (case hg=>rfl); (case hr=>first|(go_simp; done)|(go_simp; rfl)); intro gb191 hg w5 hbox hb; have n0_:=Aside0.mk (AP (by repeat (first|(with_reducible first|exact HB.out|apply AI|apply AG|apply AH)|exact HB.out)) hb); have n1_:=Aside0.mk (hbox); have n2_:=Aside0.mk ((by rw [hg]; exact (AT (by repeat (first|(with_reducible first|exact HB.out|apply AI|apply AG|apply AH)|exact HB.out))):w.heap.size≤gb191)); have n3_:=Aside0.mk ((by rw [hg]; exact (AT (by repeat (first|(with_reducible first|exact HB.out|apply AI|apply AG|apply AH)|exact HB.out))):w.heap.size≤gb191)); clear HB; have HB:=n0_; have BK191:=n1_; have GW191:=n2_; have GE191:=n3_; clear n0_ n1_ n2_ n3_; clear hb hbox hg; have hcz6_0:w5.cell? ⟨gb191,0,none⟩=some (.int .i64 AB):=(AJ BK191.out 0).trans rfl; have hcz6_1:w5.cell? ⟨gb191,1,none⟩=some (.int .i64 AA):=(AJ BK191.out 1).trans rfl; have hcz6_2:w5.cell? ⟨gb191,2,none⟩=some (.int .i64 AC):=(AJ BK191.out 2).trans rfl; have hfz6_0:=AN BK191.out 0; have hfz6_1:=AN BK191.out 1; have hfz6_2:=AN BK191.out 2)|(go_at_call 25; (with_reducible refine (AY.calls k AB AA AC true _ A2.out).mono ?_); rintro e w7 ⟨rfl,hb⟩; have n0_:=Aside0.mk (Ai (g:=gb191) (o:= .cells #[.int .i64 AB,.int .i64 AA,.int .i64 AC] 33 (0,0)) (by (with_reducible repeat (first|refine Ab ?_ _|refine AZ ?_|refine Ac ?_ _)); exact BK191.out) hb); have n1_:=Aside0.mk (AP (by repeat (first|(with_reducible first|exact HB.out|apply AI|apply AG|apply AH|refine AV ?_ GE191.out)|exact HB.out)) hb); clear BK191; clear HB; have BK191:=n0_; have HB:=n1_; clear n0_ n1_; (try clear hb); (try clear hb2); (try clear hk); (try clear hi); have hcz8_0:w7.cell? ⟨gb191,0,none⟩=some (.int .i64 AB):=(AJ BK191.out 0).trans rfl; have hcz8_1:w7.cell? ⟨gb191,1,none⟩=some (.int .i64 AA):=(AJ BK191.out 1).trans rfl; have hcz8_2:w7.cell? ⟨gb191,2,none⟩=some (.int .i64 AC):=(AJ BK191.out 2).trans rfl; have hfz8_0:=AN BK191.out 0; have hfz8_1:=AN BK191.out 1; have hfz8_2:=AN BK191.out 2; clear A2)))
   go_ret3
   exact ⟨by first|rfl|(simp [AS,AR,AL]; done)|(simp [AS,AR]<;>rfl)|(simp [*,AS,AR]<;>rfl),by repeat (first|(with_reducible first|exact HB.out|apply AI|apply AG|apply AH|refine AV ?_ GE191.out)|exact HB.out)⟩
  ·rw [if_neg c4] at H
   have c4b0:(AA==0)=false:=beq_eq_false_iff_ne.mpr c4
   have c4b1:(AA !=0)=true:=bne_iff_ne.mpr c4
   replace H:=Option.bind_eq_some_iff.mp H
   obtain ⟨t193,A90,H⟩:=H
   replace H:(if t193=0 then (none) else ((Af.f AA).bind fun t194=>(if t194=0 then (none) else (some (wrap64 (Int.tdiv (wrap64 (1000*AB)) t193),((Int.tmod (wrap64 (1000*AB)) t194)==0),0)))))=some (r1,r2,r3):=H
   have A9:=Aside0.mk A90
   clear A90
   by_cases c10:t193=0
   ·rw [if_pos c10] at H
    exact absurd H (by simp)
   ·rw [if_neg c10] at H
    have c10b0:(t193==0)=false:=beq_eq_false_iff_ne.mpr c10
    have c10b1:(t193 !=0)=true:=bne_iff_ne.mpr c10
    replace H:=Option.bind_eq_some_iff.mp H
    obtain ⟨t194,A110,H⟩:=H
    replace H:(if t194=0 then (none) else (some (wrap64 (Int.tdiv (wrap64 (1000*AB)) t193),((Int.tmod (wrap64 (1000*AB)) t194)==0),0)))=some (r1,r2,r3):=H
    have A11:=Aside0.mk A110
    clear A110
    by_cases c12:t194=0
    ·rw [if_pos c12] at H
     exact absurd H (by simp)
    ·rw [if_neg c12] at H
     have c12b0:(t194==0)=false:=beq_eq_false_iff_ne.mpr c12
     have c12b1:(t194 !=0)=true:=bne_iff_ne.mpr c12
     simp only [Option.some.injEq,Prod.mk.injEq] at H
     obtain ⟨rfl,rfl,rfl⟩:=H
     go_enter Tryd.func21,Tryd.ntmps21
     go_wp2_with (first|((with_reducible refine Ar (N:=1) rfl ?_); refine Am ?hg (N:=1) ?hd (cs:= #[.int .i64 AB,.int .i64 AA,.int .i64 AC]) (t:=33) ?hr ?_; (case hd=>rfl); (case hg=>rfl); (case hr=>first|(go_simp; done)|(go_simp; rfl)); intro gb191 hg w13 hbox hb; have n0_:=Aside0.mk (AP (by repeat (first|(with_reducible first|exact HB.out|apply AI|apply AG|apply AH)|exact HB.out)) hb); have n1_:=Aside0.mk (hbox); have n2_:=Aside0.mk ((by rw [hg]; exact (AT (by repeat (first|(with_reducible first|exact HB.out|apply AI|apply AG|apply AH)|exact HB.out))):w.heap.size≤gb191)); have n3_:=Aside0.mk ((by rw [hg]; exact (AT (by repeat (first|(with_reducible first|exact HB.out|apply AI|apply AG|apply AH)|exact HB.out))):w.heap.size≤gb191)); clear HB; have HB:=n0_; have BK191:=n1_; have GW191:=n2_; have GE191:=n3_; clear n0_ n1_ n2_ n3_; clear hb hbox hg; have hcz14_0:w13.cell? ⟨gb191,0,none⟩=some (.int .i64 AB):=(AJ BK191.out 0).trans rfl; have hcz14_1:w13.cell? ⟨gb191,1,none⟩=some (.int .i64 AA):=(AJ BK191.out 1).trans rfl; have hcz14_2:w13.cell? ⟨gb191,2,none⟩=some (.int .i64 AC):=(AJ BK191.out 2).trans rfl; have hfz14_0:=AN BK191.out 0; have hfz14_1:=AN BK191.out 1; have hfz14_2:=AN BK191.out 2)|(go_at_call 25; (with_reducible refine (AY.calls k AB AA AC true _ A2.out).mono ?_); rintro e w15 ⟨rfl,hb⟩; have n0_:=Aside0.mk (Ai (g:=gb191) (o:= .cells #[.int .i64 AB,.int .i64 AA,.int .i64 AC] 33 (0,0)) (by (with_reducible repeat (first|refine Ab ?_ _|refine AZ ?_|refine Ac ?_ _)); exact BK191.out) hb); have n1_:=Aside0.mk (AP (by repeat (first|(with_reducible first|exact HB.out|apply AI|apply AG|apply AH|refine AV ?_ GE191.out)|exact HB.out)) hb); clear BK191; clear HB; have BK191:=n0_; have HB:=n1_; clear n0_ n1_; (try clear hb); (try clear hb2); (try clear hk); (try clear hi); have hcz16_0:w15.cell? ⟨gb191,0,none⟩=some (.int .i64 AB):=(AJ BK191.out 0).trans rfl; have hcz16_1:w15.cell? ⟨gb191,1,none⟩=some (.int .i64 AA):=(AJ BK191.out 1).trans rfl; have hcz16_2:w15.cell? ⟨gb191,2,none⟩=some (.int .i64 AC):=(AJ BK191.out 2).trans rfl; have hfz16_0:=AN BK191.out 0; have hfz16_1:=AN BK191.out 1; have hfz16_2:=AN BK191.out 2)|(go_at_call 41; (with_reducible refine (Af.calls AA t193 _ A9.out).mono ?_); rintro e w' ⟨rfl,⟨nd,rfl⟩⟩; (try first|exact ⟨rfl,_,World.drewN_drewN _ _ _⟩|exact ⟨rfl,_,Eq.trans (World.drewN_drewN _ _ _) (congrArg (World.drewN _) (Nat.add_assoc _ _ _))⟩); clear A9)|(go_at_call 41; (with_reducible refine (Af.calls AA t194 _ A11.out).mono ?_); rintro e w' ⟨rfl,⟨nd,rfl⟩⟩; (try first|exact ⟨rfl,_,World.drewN_drewN _ _ _⟩|exact ⟨rfl,_,Eq.trans (World.drewN_drewN _ _ _) (congrArg (World.drewN _) (Nat.add_assoc _ _ _))⟩); clear A11))
     repeat (go_quiet (first|((with_reducible refine Ar (N:=1) rfl ?_); refine Am ?hg (N:=1) ?hd (cs:= #[.int .i64 AB,.int .i64 AA,.int .i64 AC]) (t:=33) ?hr ?_; (case hd=>rfl); (case hg=>rfl); (case hr=>first|(go_simp; done)|(go_simp; rfl)); intro gb191 hg w13 hbox hb; have n0_:=Aside0.mk (AP (by repeat (first|(with_reducible first|exact HB.out|apply AI|apply AG|apply AH)|exact HB.out)) hb); have n1_:=Aside0.mk (hbox); have n2_:=Aside0.mk ((by rw [hg]; exact (AT (by repeat (first|(with_reducible first|exact HB.out|apply AI|apply AG|apply AH)|exact HB.out))):w.heap.size≤gb191)); have n3_:=Aside0.mk ((by rw [hg]; exact (AT (by repeat (first|(with_reducible first|exact HB.out|apply AI|apply AG|apply AH)|exact HB.out))):w.heap.size≤gb191)); clear HB; have HB:=n0_; have BK191:=n1_; have GW191:=n2_; have GE191:=n3_; clear n0_ n1_ n2_ n3_; clear hb hbox hg; have hcz14_0:w13.cell? ⟨gb191,0,none⟩=some (.int .i64 AB):=(AJ BK191.out 0).trans rfl; have hcz14_1:w13.cell? ⟨gb191,1,none⟩=some (.int .i64 AA):=(AJ BK191.out 1).trans rfl; have hcz14_2:w13.cell? ⟨gb191,2,none⟩=some (.int .i64 AC):=(AJ BK191.out 2).trans rfl; have hfz14_0:=AN BK191.out 0; have hfz14_1:=AN BK191.out 1; have hfz14_2:=AN BK191.out 2)|(go_at_call 25; (with_reducible refine (AY.calls k AB AA AC true _ A2.out).mono ?_); rintro e w15 ⟨rfl,hb⟩; have n0_:=Aside0.mk (Ai (g:=gb191) (o:= .cells #[.int .i64 AB,.int .i64 AA,.int .i64 AC] 33 (0,0)) (by (with_reducible repeat (first|refine Ab ?_ _|refine AZ ?_|refine Ac ?_ _)); exact BK191.out) hb); have n1_:=Aside0.mk (AP (by repeat (first|(with_reducible first|exact HB.out|apply AI|apply AG|apply AH|refine AV ?_ GE191.out)|exact HB.out)) hb); clear BK191; clear HB; have BK191:=n0_; have HB:=n1_; clear n0_ n1_; (try clear hb); (try clear hb2); (try clear hk); (try clear hi); have hcz16_0:w15.cell? ⟨gb191,0,none⟩=some (.int .i64 AB):=(AJ BK191.out 0).trans rfl; have hcz16_1:w15.cell? ⟨gb191,1,none⟩=some (.int .i64 AA):=(AJ BK191.out 1).trans rfl; have hcz16_2:w15.cell? ⟨gb191,2,none⟩=some (.int .i64 AC):=(AJ BK191.out 2).trans rfl; have hfz16_0:=AN BK191.out 0; have hfz16_1:=AN BK191.out 1; have hfz16_2:=AN BK191.out 2; clear A2)|(go_at_call 41; (with_reducible refine (Af.calls AA t193 _ A9.out).mono ?_); rintro e w' ⟨rfl,⟨nd,rfl⟩⟩; (try first|exact ⟨rfl,_,World.drewN_drewN _ _ _⟩|exact ⟨rfl,_,Eq.trans (World.drewN_drewN _ _ _) (congrArg (World.drewN _) (Nat.add_assoc _ _ _))⟩); clear A9)|(go_at_call 41; (with_reducible refine (Af.calls AA t194 _ A11.out).mono ?_); rintro e w' ⟨rfl,⟨nd,rfl⟩⟩; (try first|exact ⟨rfl,_,World.drewN_drewN _ _ _⟩|exact ⟨rfl,_,Eq.trans (World.drewN_drewN _ _ _) (congrArg (World.drewN _) (Nat.add_assoc _ _ _))⟩); clear A11)); try go_wp2_with (first|((with_reducible refine Ar (N:=1) rfl ?_); refine Am ?hg (N:=1) ?hd (cs:= #[.int .i64 AB,.int .i64 AA,.int .i64 AC]) (t:=33) ?hr ?_; (case hd=>rfl); (case hg=>rfl); (case hr=>first|(go_simp; done)|(go_simp; rfl)); intro gb191 hg w13 hbox hb; have n0_:=Aside0.mk (AP (by repeat (first|(with_reducible first|exact HB.out|apply AI|apply AG|apply AH)|exact HB.out)) hb); have n1_:=Aside0.mk (hbox); have n2_:=Aside0.mk ((by rw [hg]; exact (AT (by repeat (first|(with_reducible first|exact HB.out|apply AI|apply AG|apply AH)|exact HB.out))):w.heap.size≤gb191)); have n3_:=Aside0.mk ((by rw [hg]; exact (AT (by repeat (first|(with_reducible first|exact HB.out|apply AI|apply AG|apply AH)|exact HB.out))):w.heap.size≤gb191)); clear HB; have HB:=n0_; have BK191:=n1_; have GW191:=n2_; have GE191:=n3_; clear n0_ n1_ n2_ n3_; clear hb hbox hg; have hcz14_0:w13.cell? ⟨gb191,0,none⟩=some (.int .i64 AB):=(AJ BK191.out 0).trans rfl; have hcz14_1:w13.cell? ⟨gb191,1,none⟩=some (.int .i64 AA):=(AJ BK191.out 1).trans rfl; have hcz14_2:w13.cell? ⟨gb191,2,none⟩=some (.int .i64 AC):=(AJ BK191.out 2).trans rfl; have hfz14_0:=AN BK191.out 0; have hfz14_1:=AN BK191.out 1; have hfz14_2:=AN BK191.out 2)|(go_at_call 25; (with_reducible refine (AY.calls k AB AA AC true _ A2.out).mono ?_); rintro e w15 ⟨rfl,hb⟩; have n0_:=Aside0.mk (Ai (g:=gb191) (o:= .cells #[.int .i64 AB,.int .i64 AA,.int .i64 AC] 33 (0,0)) (by (with_reducible repeat (first|refine Ab ?_ _|refine AZ ?_|refine Ac ?_ _)); exact BK191.out) hb); have n1_:=Aside0.mk (AP (by repeat (first|(with_reducible first|exact HB.out|apply AI|apply AG|apply AH|refine AV ?_ GE191.out)|exact HB.out)) hb); clear BK191; clear HB; have BK191:=n0_; have HB:=n1_; clear n0_ n1_; (try clear hb); (try clear hb2); (try clear hk); (try clear hi); have hcz16_0:w15.cell? ⟨gb191,0,none⟩=some (.int .i64 AB):=(AJ BK191.out 0).trans rfl; have hcz16_1:w15.cell? ⟨gb191,1,none⟩=some (.int .i64 AA):=(AJ BK191.out 1).trans rfl; have hcz16_2:w15.cell? ⟨gb191,2,none⟩=some (.int .i64 AC):=(AJ BK191.out 2).trans rfl; have hfz16_0:=AN BK191.out 0; have hfz16_1:=AN BK191.out 1; have hfz16_2:=AN BK191.out 2; clear A2)|(go_at_call 41; (with_reducible refine (Af.calls AA t193 _ A9.out).mono ?_); rintro e w' ⟨rfl,⟨nd,rfl⟩⟩; (try first|exact ⟨rfl,_,World.drewN_drewN _ _ _⟩|exact ⟨rfl,_,Eq.trans (World.drewN_drewN _ _ _) (congrArg (World.drewN _) (Nat.add_assoc _ _ _))⟩); clear A9)|(go_at_call 41; (with_reducible refine (Af.calls AA t194 _ A11.out).mono ?_); rintro e w' ⟨rfl,⟨nd,rfl⟩⟩; (try first|exact ⟨rfl,_,World.drewN_drewN _ _ _⟩|exact ⟨rfl,_,Eq.trans (World.drewN_drewN _ _ _) (congrArg (World.drewN _) (Nat.add_assoc _ _ _))⟩); clear A11)))
     go_ret3
     exact ⟨by first|rfl|(simp [AS,AR,AL]; done)|(simp [AS,AR]<;>rfl)|(simp [*,AS,AR]<;>rfl),by repeat (first|(with_reducible first|exact HB.out|apply AI|apply AG|apply AH|refine AV ?_ GE191.out)|exact HB.out)⟩
 ·replace c3:=Bool.eq_false_iff.mpr c3
  subst c3
  have H1:(some (0,false,1))=some (r1,r2,r3):=by rw [if_neg (show ¬(false=true) by decide)] at H; exact H
  clear H
  have H:=H1
  clear H1
  simp only [Option.some.injEq,Prod.mk.injEq] at H
  obtain ⟨rfl,rfl,rfl⟩:=H
  go_enter Tryd.func21,Tryd.ntmps21
  go_wp2_with (first|((with_reducible refine Ar (N:=1) rfl ?_); refine Am ?hg (N:=1) ?hd (cs:= #[.int .i64 AB,.int .i64 AA,.int .i64 AC]) (t:=33) ?hr ?_; (case hd=>rfl); (case hg=>rfl); (case hr=>first|(go_simp; done)|(go_simp; rfl)); intro gb191 hg w17 hbox hb; have n0_:=Aside0.mk (AP (by repeat (first|(with_reducible first|exact HB.out|apply AI|apply AG|apply AH)|exact HB.out)) hb); have n1_:=Aside0.mk (hbox); have n2_:=Aside0.mk ((by rw [hg]; exact (AT (by repeat (first|(with_reducible first|exact HB.out|apply AI|apply AG|apply AH)|exact HB.out))):w.heap.size≤gb191)); have n3_:=Aside0.mk ((by rw [hg]; exact (AT (by repeat (first|(with_reducible first|exact HB.out|apply AI|apply AG|apply AH)|exact HB.out))):w.heap.size≤gb191)); clear HB; have HB:=n0_; have BK191:=n1_; have GW191:=n2_; have GE191:=n3_; clear n0_ n1_ n2_ n3_; clear hb hbox hg; have hcz18_0:w17.cell? ⟨gb191,0,none⟩=some (.int .i64 AB):=(AJ BK191.out 0).trans rfl; have hcz18_1:w17.cell? ⟨gb191,1,none⟩=some (.int .i64 AA):=(AJ BK191.out 1).trans rfl; have hcz18_2:w17.cell? ⟨gb191,2,none⟩=some (.int .i64 AC):=(AJ BK191.out 2).trans rfl; have hfz18_0:=AN BK191.out 0; have hfz18_1:=AN BK191.out 1; have hfz18_2:=AN BK191.out 2)|(go_at_call 25; (with_reducible refine (AY.calls k AB AA AC false _ A2.out).mono ?_); rintro e w19 ⟨rfl,hb⟩; have n0_:=Aside0.mk (Ai (g:=gb191) (o:= .cells #[.int .i64 AB,.int .i64 AA,.int .i64 AC] 33 (0,0)) (by (with_reducible repeat (first|refine Ab ?_ _|refine AZ ?_|refine Ac ?_ _)); exact BK191.out) hb); have n1_:=Aside0.mk (AP (by repeat (first|(with_reducible first|exact HB.out|apply AI|apply AG|apply AH|refine AV ?_ GE191.out)|exact HB.out)) hb); clear BK191; clear HB; have BK191:=n0_; have HB:=n1_; clear n0_ n1_; (try clear hb); (try clear hb2); (try clear hk); (try clear hi)))
  repeat (go_quiet (first|((with_reducible refine Ar (N:=1) rfl ?_); refine Am ?hg (N:=1) ?hd (cs:= #[.int .i64 AB,.int .i64 AA,.int .i64 AC]) (t:=33) ?hr ?_; (case hd=>rfl); (case hg=>rfl); (case hr=>first|(go_simp; done)|(go_simp; rfl)); intro gb191 hg w17 hbox hb; have n0_:=Aside0.mk (AP (by repeat (first|(with_reducible first|exact HB.out|apply AI|apply AG|apply AH)|exact HB.out)) hb); have n1_:=Aside0.mk (hbox); have n2_:=Aside0.mk ((by rw [hg]; exact (AT (by repeat (first|(with_reducible first|exact HB.out|apply AI|apply AG|apply AH)|exact HB.out))):w.heap.size≤gb191)); have n3_:=Aside0.mk ((by rw [hg]; exact (AT (by repeat (first|(with_reducible first|exact HB.out|apply AI|apply AG|apply AH)|exact HB.out))):w.heap.size≤gb191)); clear HB; have HB:=n0_; have BK191:=n1_; have GW191:=n2_; have GE191:=n3_; clear n0_ n1_ n2_ n3_; clear hb hbox hg; have hcz18_0:w17.cell? ⟨gb191,0,none⟩=some (.int .i64 AB):=(AJ BK191.out 0).trans rfl; have hcz18_1:w17.cell? ⟨gb191,1,none⟩=some (.int .i64 AA):=(AJ BK191.out 1).trans rfl; have hcz18_2:w17.cell? ⟨gb191,2,none⟩=some (.int .i64 AC):=(AJ BK191.out 2).trans rfl; have hfz18_0:=AN BK191.out 0; have hfz18_1:=AN BK191.out 1; have hfz18_2:=AN BK191.out 2)|(go_at_call 25; (with_reducible refine (AY.calls k AB AA AC false _ A2.out).mono ?_); rintro e w19 ⟨rfl,hb⟩; have n0_:=Aside0.mk (Ai (g:=gb191) (o:= .cells #[.int .i64 AB,.int .i64 AA,.int .i64 AC] 33 (0,0)) (by (with_reducible repeat (first|refine Ab ?_ _|refine AZ ?_|refine Ac ?_ _)); exact BK191.out) hb); have n1_:=Aside0.mk (AP (by repeat (first|(with_reducible first|exact HB.out|apply AI|apply AG|apply AH|refine AV ?_ GE191.out)|exact HB.out)) hb); clear BK191; clear HB; have BK191:=n0_; have HB:=n1_; clear n0_ n1_; (try clear hb); (try clear hb2); (try clear hk); (try clear hi); clear A2)); try go_wp2_with (first|((with_reducible refine Ar (N:=1) rfl ?_); refine Am ?hg (N:=1) ?hd (cs:= #[.int .i64 AB,.int .i64 AA,.int .i64 AC]) (t:=33) ?hr ?_; (case hd=>rfl); (case hg=>rfl); (case hr=>first|(go_simp; done)|(go_simp; rfl)); intro gb191 hg w17 hbox hb; have n0_:=Aside0.mk (AP (by repeat (first|(with_reducible first|exact HB.out|apply AI|apply AG|apply AH)|exact HB.out)) hb); have n1_:=Aside0.mk (hbox); have n2_:=Aside0.mk ((by rw [hg]; exact (AT (by repeat (first|(with_reducible first|exact HB.out|apply AI|apply AG|apply AH)|exact HB.out))):w.heap.size≤gb191)); have n3_:=Aside0.mk ((by rw [hg]; exact (AT (by repeat (first|(with_reducible first|exact HB.out|apply AI|apply AG|apply AH)|exact HB.out))):w.heap.size≤gb191)); clear HB; have HB:=n0_; have BK191:=n1_; have GW191:=n2_; have GE191:=n3_; clear n0_ n1_ n2_ n3_; clear hb hbox hg; have hcz18_0:w17.cell? ⟨gb191,0,none⟩=some (.int .i64 AB):=(AJ BK191.out 0).trans rfl; have hcz18_1:w17.cell? ⟨gb191,1,none⟩=some (.int .i64 AA):=(AJ BK191.out 1).trans rfl; have hcz18_2:w17.cell? ⟨gb191,2,none⟩=some (.int .i64 AC):=(AJ BK191.out 2).trans rfl; have hfz18_0:=AN BK191.out 0; have hfz18_1:=AN BK191.out 1; have hfz18_2:=AN BK191.out 2)|(go_at_call 25; (with_reducible refine (AY.calls k AB AA AC false _ A2.out).mono ?_); rintro e w19 ⟨rfl,hb⟩; have n0_:=Aside0.mk (Ai (g:=gb191) (o:= .cells #[.int .i64 AB,.int .i64 AA,.int .i64 AC] 33 (0,0)) (by (with_reducible repeat (first|refine Ab ?_ _|refine AZ ?_|refine Ac ?_ _)); exact BK191.out) hb); have n1_:=Aside0.mk (AP (by repeat (first|(with_reducible first|exact HB.out|apply AI|apply AG|apply AH|refine AV ?_ GE191.out)|exact HB.out)) hb); clear BK191; clear HB; have BK191:=n0_; have HB:=n1_; clear n0_ n1_; (try clear hb); (try clear hb2); (try clear hk); (try clear hi); clear A2)))
  go_ret3
  exact ⟨by first|rfl|(simp [AS,AR,AL]; done)|(simp [AS,AR]<;>rfl)|(simp [*,AS,AR]<;>rfl),by repeat (first|(with_reducible first|exact HB.out|apply AI|apply AG|apply AH|refine AV ?_ GE191.out)|exact HB.out)⟩
end Go.Proofs.YtgfjidlckocflaaDoor.PAll
end
section
namespace Go.Proofs.YtgfjidlckocflaaDoor.PAll
set_option maxRecDepth 100000
open Go.RowKit Go.Proofs.YtgfjidlckocflaaDoorW.PrintWords Go.Proofs.YtgfjidlckocflaaDoorW.PrintLast Go.Proofs.YtgfjidlckocflaaDoorW.PrintMore
attribute [local go_sem] BM BK BV BU BD BC BL BJ
mutual
def Ae.l0:Nat→Int→ByteArray→Option (ByteArray)
 |0,_,_=>none
 |k+1,x0,x3=>if x0>0 then ((some (([(wrap64 (48+(Int.tmod x0 10)))%256]:List Int):List Int)).bind fun y201=>(if (strOfNums y201).size+x3.size≤9223372036854775807 then (Ae.l0 k (wrap64 (Int.tdiv x0 10)) ((strOfNums y201)++x3)) else (none))) else (some x3)
def Ae.f:Nat→Int→Option (ByteArray)
 |0,_=>none
 |k+1,a0=>if a0<0 then (if a0<(-9) then ((Ae.f k (wrap64 (Int.tdiv a0 10))).bind fun t195=>((Ae.f k (wrap64 (-(Int.tmod a0 10)))).bind fun t196=>(if t195.size+t196.size≤9223372036854775807 then (some (t195++t196)) else (none)))) else ((Ae.f k (wrap64 (-a0))).bind fun t197=>(if 1+t197.size≤9223372036854775807 then (some ((⟨#[45]⟩:ByteArray)++t197)) else (none)))) else (Ae.l0 k (wrap64 (Int.tdiv a0 10)) (strOfNums (([(wrap64 (48+(Int.tmod a0 10)))%256]:List Int))))
end
set_option maxHeartbeats 8000000 in
theorem Ae.calls (k:Nat):∀(a0:Int) (r:ByteArray) (w:World) (h:Ae.f k a0=some r),
  Calls Tryd.prog 47 #[.int .i64 a0] w fun e w'=>e= .returned (.string r)∧Below w.heap.size w w':=by
 induction k using Nat.strongRecOn with
 |_ k ih=>
 intro a0 r w h
 cases k with
 |zero=>exact absurd h (by simp [Ae.f])
 |succ k=>
 simp only [Ae.f] at h
 have HB:=Aside0.mk (Below.refl w.heap.size w)
 have H:(if a0<0 then (if a0<(-9) then ((Ae.f k (wrap64 (Int.tdiv a0 10))).bind fun t195=>((Ae.f k (wrap64 (-(Int.tmod a0 10)))).bind fun t196=>(if t195.size+t196.size≤9223372036854775807 then (some (t195++t196)) else (none)))) else ((Ae.f k (wrap64 (-a0))).bind fun t197=>(if 1+t197.size≤9223372036854775807 then (some ((⟨#[45]⟩:ByteArray)++t197)) else (none)))) else (Ae.l0 k (wrap64 (Int.tdiv a0 10)) (strOfNums (([(wrap64 (48+(Int.tmod a0 10)))%256]:List Int)))))=some r:=h
 clear h
 by_cases c2:a0<0
 ·rw [if_pos c2] at H
  have c2b0:decide (a0<0)=true:=decide_eq_true c2
  clear c2
  by_cases c3:a0<(-9)
  ·rw [if_pos c3] at H
   have c3b0:decide (a0<(-9))=true:=decide_eq_true c3
   clear c3
   replace H:=Option.bind_eq_some_iff.mp H
   obtain ⟨t195,A40,H⟩:=H
   replace H:((Ae.f k (wrap64 (-(Int.tmod a0 10)))).bind fun t196=>(if t195.size+t196.size≤9223372036854775807 then (some (t195++t196)) else (none)))=some r:=H
   have A4:=Aside0.mk A40
   clear A40
   replace H:=Option.bind_eq_some_iff.mp H
   obtain ⟨t196,A50,H⟩:=H
   replace H:(if t195.size+t196.size≤9223372036854775807 then (some (t195++t196)) else (none))=some r:=H
   have A5:=Aside0.mk A50
   clear A50
   by_cases c6:t195.size+t196.size≤9223372036854775807
   ·rw [if_pos c6] at H
    have c6b0:=eq_true c6
    have c6b1:decide (t195.size+t196.size≤9223372036854775807)=true:=decide_eq_true c6
    try have c6b2:(9223372036854775807<t195.size+t196.size)=False:=eq_false (Nat.not_lt.2 c6)
    obtain rfl:=Option.some.inj H
    go_enter Tryd.func47,Tryd.ntmps47
    go_wp2_with (first|((with_reducible refine AQ (f:=47) rfl ?_); refine Ag (some 10) rfl rfl Tryd.func47 (by kernel_rfl) rfl #[.int .i64 (wrap64 (Int.tdiv a0 10))] rfl (by (try simp only [List.map_toArray,List.map_cons,List.map_nil]); first|done|rfl|(simp only [List.length_drop,List.length_take]; rfl)) ?_; (with_reducible refine (ih k (by omega) (wrap64 (Int.tdiv a0 10)) t195 _ A4.out).mono ?_); rintro e w7 ⟨rfl,hb⟩; refine ⟨_,rfl,?_⟩; have n0_:=Aside0.mk (AP (by repeat (first|(with_reducible first|exact HB.out|apply AI|apply AG|apply AH)|exact HB.out)) hb); clear HB; have HB:=n0_; clear n0_; (try clear hb); (try clear hb2); (try clear hk); (try clear hi))|((with_reducible refine AQ (f:=47) rfl ?_); refine Ag (some 14) rfl rfl Tryd.func47 (by kernel_rfl) rfl #[.int .i64 (wrap64 (-(Int.tmod a0 10)))] rfl (by (try simp only [List.map_toArray,List.map_cons,List.map_nil]); first|done|rfl|(simp only [List.length_drop,List.length_take]; rfl)) ?_; (with_reducible refine (ih k (by omega) (wrap64 (-(Int.tmod a0 10))) t196 _ A5.out).mono ?_); rintro e w8 ⟨rfl,hb⟩; refine ⟨_,rfl,?_⟩; have n0_:=Aside0.mk (AP (by repeat (first|(with_reducible first|exact HB.out|apply AI|apply AG|apply AH)|exact HB.out)) hb); clear HB; have HB:=n0_; clear n0_; (try clear hb); (try clear hb2); (try clear hk); (try clear hi)))
    go_ret
    exact ⟨by first|rfl|(simp [AS,AR]<;>rfl)|(simp [*,AS,AR]<;>rfl),by repeat (first|(with_reducible first|exact HB.out|apply AI|apply AG|apply AH)|exact HB.out)⟩
   ·rw [if_neg c6] at H
    exact absurd H (by simp)
  ·rw [if_neg c3] at H
   have c3b0:decide (a0<(-9))=false:=decide_eq_false c3
   clear c3
   replace H:=Option.bind_eq_some_iff.mp H
   obtain ⟨t197,A90,H⟩:=H
   replace H:(if 1+t197.size≤9223372036854775807 then (some ((⟨#[45]⟩:ByteArray)++t197)) else (none))=some r:=H
   have A9:=Aside0.mk A90
   clear A90
   by_cases c10:1+t197.size≤9223372036854775807
   ·rw [if_pos c10] at H
    have c10b0:=eq_true c10
    have c10b1:decide (1+t197.size≤9223372036854775807)=true:=decide_eq_true c10
    try have c10b2:(9223372036854775807<1+t197.size)=False:=eq_false (Nat.not_lt.2 c10)
    obtain rfl:=Option.some.inj H
    go_enter Tryd.func47,Tryd.ntmps47
    go_wp2_with (first|((with_reducible refine AQ (f:=47) rfl ?_); refine Ag (some 18) rfl rfl Tryd.func47 (by kernel_rfl) rfl #[.int .i64 (wrap64 (-a0))] rfl (by (try simp only [List.map_toArray,List.map_cons,List.map_nil]); first|done|rfl|(simp only [List.length_drop,List.length_take]; rfl)) ?_; (with_reducible refine (ih k (by omega) (wrap64 (-a0)) t197 _ A9.out).mono ?_); rintro e w11 ⟨rfl,hb⟩; refine ⟨_,rfl,?_⟩; have n0_:=Aside0.mk (AP (by repeat (first|(with_reducible first|exact HB.out|apply AI|apply AG|apply AH)|exact HB.out)) hb); clear HB; have HB:=n0_; clear n0_; (try clear hb); (try clear hb2); (try clear hk); (try clear hi)))
    go_ret
    exact ⟨by first|rfl|(simp [AS,AR]<;>rfl)|(simp [*,AS,AR]<;>rfl),by repeat (first|(with_reducible first|exact HB.out|apply AI|apply AG|apply AH)|exact HB.out)⟩
   ·rw [if_neg c10] at H
    exact absurd H (by simp)
 ·rw [if_neg c2] at H
  have c2b0:decide (a0<0)=false:=decide_eq_false c2
  clear c2
  obtain ⟨y198,hy198⟩:∃y_:List Int,y_=(([(wrap64 (48+(Int.tmod a0 10)))%256]:List Int)):=⟨_,rfl⟩
  replace H:(Ae.l0 k (wrap64 (Int.tdiv a0 10)) (strOfNums y198))=some r:=by first|(rw [hy198]; with_reducible exact H)|(have H2_:=(Option.bind_some _ _).symm.trans H; rw [hy198]; with_reducible exact H2_)|(have H2_:=(Option.bind_some _ _).symm.trans H; with_reducible exact H2_)|with_reducible exact H|(rw [hy198]; exact H)|exact H
  have Ny198:=Aside0.mk hy198
  clear hy198
  have H':=Aside0.mk H
  clear H
  go_enter Tryd.func47,Tryd.ntmps47
  go_wp2_with (first|((with_reducible refine Ar (N:=24) rfl ?_); refine Kd.R_lit (Kd.int .u8) _ 5 ?hg (N:=24) ?hd (xs:=([(wrap64 (48+(Int.tmod a0 10)))%256]:List Int)) (inner:=[.int .u8 ((wrap64 (48+(Int.tmod a0 10)))%256)]) (ok:=fun _=>True) (okp:=fun _=>True) ?hr ?hp (fun _ hk=>hk) trivial (Below.refl _ _) (Nat.le_refl _) (by simp) ?_; (case hd=>rfl); (case hg=>rfl); (case hr=>first|(go_simp; done)|(go_simp; rfl)); (case hp=>exact (Reps.one (show Kd.M (Kd.int .u8) _ _ _ ((wrap64 (48+(Int.tmod a0 10)))%256) [.int .u8 ((wrap64 (48+(Int.tmod a0 10)))%256)] from rfl) (Reps.none _ _))); intro v199 w12 ho13 hb hg_ hnew_; clear hg_ hnew_; (first|rw [←Ny198.out] at ho13|(simp only [Int.reduceToNat] at ho13; rw [←Ny198.out] at ho13)); have n0_:=Aside0.mk (Kd.R_lower ho13 (AT (by repeat (first|(with_reducible first|exact HB.out|apply AI|apply AG|apply AH)|exact HB.out)))); have n1_:=Aside0.mk (AP (by repeat (first|(with_reducible first|exact HB.out|apply AI|apply AG|apply AH)|exact HB.out)) hb); clear HB; have HO200:=n0_; have HB:=n1_; clear n0_ n1_; clear hb ho13; have hcv14:=CQ (P:=Tryd.prog) Tryd.underlying63 Tryd.underlying5 Tryd.underlying9 (Kd.own_of_R HO200.out)))
  go_loopg [0,3] k (fun kq v0 v3 w'=>∃(x0_1:Int) (x3_1:ByteArray),v0= .int .i64 x0_1∧v3= .string x3_1∧Aside0 (Ae.l0 kq x0_1 x3_1=some r)∧Aside0 (kq≤k)∧Aside0 (Below w.heap.size w w'))
  case atStart=>exact ⟨(wrap64 (Int.tdiv a0 10)),(strOfNums y198),(by first|rfl|(simp; done)|(simp [*]; done)),(by first|rfl|(simp; done)|(simp [*]; done)),H',⟨Nat.le_refl _⟩,⟨by repeat (first|(with_reducible first|exact HB.out|apply AI|apply AG|apply AH)|exact HB.out)⟩⟩
  case round=>
   clear H'
   try clear c1
   try clear hcv1
   try clear c2
   try clear c2b0
   try clear p2
   try clear c3
   try clear c3b0
   try clear c4
   try clear c6
   try clear c6b0
   try clear c6b1
   try clear c6b2
   try clear p6
   try clear c10
   try clear c10b0
   try clear c10b1
   try clear c10b2
   try clear hcv14
   obtain ⟨x0_1,x3_1,rfl,rfl,HA,HK1,HB⟩:=hrel
   cases gk with
   |zero=>exact absurd HA.out (by simp [Ae.l0])
   | succ k1=>
    have H:=HA.out
    clear HA
    simp only [Ae.l0] at H
    by_cases c15:x0_1>0
    ·rw [if_pos c15] at H
     have c15b0:decide (0<x0_1)=true:=decide_eq_true c15
     clear c15
     obtain ⟨y201,hy201⟩:∃y_:List Int,y_=(([(wrap64 (48+(Int.tmod x0_1 10)))%256]:List Int)):=⟨_,rfl⟩
     replace H:(if (strOfNums y201).size+x3_1.size≤9223372036854775807 then (Ae.l0 k1 (wrap64 (Int.tdiv x0_1 10)) ((strOfNums y201)++x3_1)) else (none))=some r:=by first|(rw [hy201]; with_reducible exact H)|(have H2_:=(Option.bind_some _ _).symm.trans H; rw [hy201]; with_reducible exact H2_)|(have H2_:=(Option.bind_some _ _).symm.trans H; with_reducible exact H2_)|with_reducible exact H|(rw [hy201]; exact H)|exact H
     have Ny201:=Aside0.mk hy201
     clear hy201
     by_cases c16:(strOfNums y201).size+x3_1.size≤9223372036854775807
     ·rw [if_pos c16] at H
      have c16b0:=eq_true c16
      have c16b1:decide ((strOfNums y201).size+x3_1.size≤9223372036854775807)=true:=decide_eq_true c16
      try have c16b2:(9223372036854775807<(strOfNums y201).size+x3_1.size)=False:=eq_false (Nat.not_lt.2 c16)
      have H':=Aside0.mk H
      clear H
      go_wp2_with (first|((with_reducible refine Ar (N:=36) rfl ?_); refine Kd.R_lit (Kd.int .u8) _ 5 ?hg (N:=36) ?hd (xs:=([(wrap64 (48+(Int.tmod x0_1 10)))%256]:List Int)) (inner:=[.int .u8 ((wrap64 (48+(Int.tmod x0_1 10)))%256)]) (ok:=fun _=>True) (okp:=fun _=>True) ?hr ?hp (fun _ hk=>hk) trivial (Below.refl _ _) (Nat.le_refl _) (by simp) ?_; (case hd=>rfl); (case hg=>rfl); (case hr=>first|(go_simp; done)|(go_simp; rfl)); (case hp=>exact (Reps.one (show Kd.M (Kd.int .u8) _ _ _ ((wrap64 (48+(Int.tmod x0_1 10)))%256) [.int .u8 ((wrap64 (48+(Int.tmod x0_1 10)))%256)] from rfl) (Reps.none _ _))); intro v202 w17 ho18 hb hg_ hnew_; clear hg_ hnew_; (first|rw [←Ny201.out] at ho18|(simp only [Int.reduceToNat] at ho18; rw [←Ny201.out] at ho18)); have n0_:=Aside0.mk (Kd.R_lower ho18 (AT (by repeat (first|(with_reducible first|exact HB.out|apply AI|apply AG|apply AH)|exact HB.out)))); have n1_:=Aside0.mk (AP (by repeat (first|(with_reducible first|exact HB.out|apply AI|apply AG|apply AH)|exact HB.out)) hb); clear HB; have HO203:=n0_; have HB:=n1_; clear n0_ n1_; clear hb ho18; have hcv19:=CQ (P:=Tryd.prog) Tryd.underlying63 Tryd.underlying5 Tryd.underlying9 (Kd.own_of_R HO203.out)))
      go_roundg k1
      case measure=>have:=HK1.out; omega
      case rel=>exact ⟨(wrap64 (Int.tdiv x0_1 10)),((strOfNums y201)++x3_1),(by first|rfl|(simp; done)|(simp [*]; done)),(by first|rfl|(simp; done)|(simp [*]; done)),H',⟨by have:=HK1.out; omega⟩,⟨by repeat (first|(with_reducible first|exact HB.out|apply AI|apply AG|apply AH)|exact HB.out)⟩⟩
     ·rw [if_neg c16] at H
      exact absurd H (by simp)
    ·rw [if_neg c15] at H
     have c15b0:decide (0<x0_1)=false:=decide_eq_false c15
     clear c15
     obtain rfl:=Option.some.inj H
     go_wp2
     go_ret
     exact ⟨by first|rfl|(simp [AS,AR]<;>rfl)|(simp [*,AS,AR]<;>rfl),by repeat (first|(with_reducible first|exact HB.out|apply AI|apply AG|apply AH)|exact HB.out)⟩
def Ah.j0:Nat→ByteArray→Int→Int→Int→Option (ByteArray×Int)
 |0,_,_,_,_=>none
 |k+1,x9,x205000,x205001,x205002=>(B2.f k x205000 x205001 x205002).bind fun bt211=>(if bt211.2.2=0 then ((Ae.f k bt211.1).bind fun t214=>(if 1+t214.size≤9223372036854775807 then (if x9.size+((⟨#[32]⟩:ByteArray)++t214).size≤9223372036854775807 then (if x205001>0 then (if (x9++((⟨#[32]⟩:ByteArray)++t214)).size+3≤9223372036854775807 then (some ((x9++((⟨#[32]⟩:ByteArray)++t214))++(⟨#[32,117,112]⟩:ByteArray),0)) else (none)) else (if (x9++((⟨#[32]⟩:ByteArray)++t214)).size+5≤9223372036854775807 then (some ((x9++((⟨#[32]⟩:ByteArray)++t214))++(⟨#[32,100,111,119,110]⟩:ByteArray),0)) else (none))) else (none)) else (none))) else (if x9.size+7≤9223372036854775807 then (some (x9++(⟨#[32,103,105,114,100,108,101]⟩:ByteArray),0)) else (none)))
def Ah.f (k:Nat) (AB:Int) (AA:Int) (AC:Int) (a1:Int):Option (ByteArray×Int):=(AY.f k AB AA AC).bind fun t205=>(if t205=true then ((At.f k AC a1).bind fun bt206=>(if bt206.2.2=0 then ((Ae.f k bt206.1).bind fun t209=>(if bt206.2.1>0 then ((Ae.f k bt206.2.1).bind fun t210=>(if 1+t210.size≤9223372036854775807 then (if t209.size+((⟨#[43]⟩:ByteArray)++t210).size≤9223372036854775807 then (Ah.j0 k (t209++((⟨#[43]⟩:ByteArray)++t210)) AB AA AC) else (none)) else (none))) else (Ah.j0 k t209 AB AA AC))) else (some ((⟨#[]⟩:ByteArray),bt206.2.2)))) else (some ((⟨#[]⟩:ByteArray),1)))
set_option maxHeartbeats 8000000 in
theorem Ah.calls (k:Nat) (AB:Int) (AA:Int) (AC:Int) (a1:Int) (r1:ByteArray) (r2:Int) (w:World) (h:Ah.f k AB AA AC a1=some (r1,r2)):
  Calls Tryd.prog 33 #[.agg #[.int .i64 AB,.int .i64 AA,.int .i64 AC],.int .i64 a1] w fun e w'=>e= .returned (.tuple #[.string r1,.int .i64 r2])∧Below w.heap.size w w':=by
 have hu33:=Tryd.underlying33
 have HB:=Aside0.mk (Below.refl w.heap.size w)
 have H:((AY.f k AB AA AC).bind fun t205=>(if t205=true then ((At.f k AC a1).bind fun bt206=>(if bt206.2.2=0 then ((Ae.f k bt206.1).bind fun t209=>(if bt206.2.1>0 then ((Ae.f k bt206.2.1).bind fun t210=>(if 1+t210.size≤9223372036854775807 then (if t209.size+((⟨#[43]⟩:ByteArray)++t210).size≤9223372036854775807 then (Ah.j0 k (t209++((⟨#[43]⟩:ByteArray)++t210)) AB AA AC) else (none)) else (none))) else (Ah.j0 k t209 AB AA AC))) else (some ((⟨#[]⟩:ByteArray),bt206.2.2)))) else (some ((⟨#[]⟩:ByteArray),1))))=some (r1,r2):=h
 clear h
 replace H:=Option.bind_eq_some_iff.mp H
 obtain ⟨t205,A30,H⟩:=H
 replace H:(if t205=true then ((At.f k AC a1).bind fun bt206=>(if bt206.2.2=0 then ((Ae.f k bt206.1).bind fun t209=>(if bt206.2.1>0 then ((Ae.f k bt206.2.1).bind fun t210=>(if 1+t210.size≤9223372036854775807 then (if t209.size+((⟨#[43]⟩:ByteArray)++t210).size≤9223372036854775807 then (Ah.j0 k (t209++((⟨#[43]⟩:ByteArray)++t210)) AB AA AC) else (none)) else (none))) else (Ah.j0 k t209 AB AA AC))) else (some ((⟨#[]⟩:ByteArray),bt206.2.2)))) else (some ((⟨#[]⟩:ByteArray),1)))=some (r1,r2):=H
 have A3:=Aside0.mk A30
 clear A30
 by_cases c4:t205=true
 ·subst c4
  have H1:((At.f k AC a1).bind fun bt206=>(if bt206.2.2=0 then ((Ae.f k bt206.1).bind fun t209=>(if bt206.2.1>0 then ((Ae.f k bt206.2.1).bind fun t210=>(if 1+t210.size≤9223372036854775807 then (if t209.size+((⟨#[43]⟩:ByteArray)++t210).size≤9223372036854775807 then (Ah.j0 k (t209++((⟨#[43]⟩:ByteArray)++t210)) AB AA AC) else (none)) else (none))) else (Ah.j0 k t209 AB AA AC))) else (some ((⟨#[]⟩:ByteArray),bt206.2.2))))=some (r1,r2):=by rw [if_pos rfl] at H; exact H
  clear H
  have H:=H1
  clear H1
  replace H:=Option.bind_eq_some_iff.mp H
  obtain ⟨⟨t206,t207,t208⟩,A50,H⟩:=H
  replace H:(if t208=0 then ((Ae.f k t206).bind fun t209=>(if t207>0 then ((Ae.f k t207).bind fun t210=>(if 1+t210.size≤9223372036854775807 then (if t209.size+((⟨#[43]⟩:ByteArray)++t210).size≤9223372036854775807 then (Ah.j0 k (t209++((⟨#[43]⟩:ByteArray)++t210)) AB AA AC) else (none)) else (none))) else (Ah.j0 k t209 AB AA AC))) else (some ((⟨#[]⟩:ByteArray),t208)))=some (r1,r2):=H
  have A5:=Aside0.mk A50
  clear A50
  by_cases c6:t208=0
  ·rw [if_pos c6] at H
   have c6b0:(t208==0)=true:=beq_iff_eq.mpr c6
   have c6b1:(t208 !=0)=false:=bne_eq_false_iff_eq.mpr c6
   clear c6
   replace H:=Option.bind_eq_some_iff.mp H
   obtain ⟨t209,A70,H⟩:=H
   replace H:(if t207>0 then ((Ae.f k t207).bind fun t210=>(if 1+t210.size≤9223372036854775807 then (if t209.size+((⟨#[43]⟩:ByteArray)++t210).size≤9223372036854775807 then (Ah.j0 k (t209++((⟨#[43]⟩:ByteArray)++t210)) AB AA AC) else (none)) else (none))) else (Ah.j0 k t209 AB AA AC))=some (r1,r2):=H
   have A7:=Aside0.mk A70
   clear A70
   have HC8:=Aside0.mk H
   clear H
   go_enter Tryd.func33,Tryd.ntmps33
   go_upto_if 29 with (first|((with_reducible refine Ar (N:=2) rfl ?_); refine Am ?hg (N:=2) ?hd (cs:= #[.int .i64 AB,.int .i64 AA,.int .i64 AC]) (t:=33) ?hr ?_; (case hd=>rfl); (case hg=>rfl); (case hr=>first|(go_simp; done)|(go_simp; rfl)); intro gb204 hg w9 hbox hb; have n0_:=Aside0.mk (AP (by repeat (first|(with_reducible first|exact HB.out|apply AI|apply AG|apply AH)|exact HB.out)) hb); have n1_:=Aside0.mk (hbox); have n2_:=Aside0.mk ((by rw [hg]; exact (AT (by repeat (first|(with_reducible first|exact HB.out|apply AI|apply AG|apply AH)|exact HB.out))):w.heap.size≤gb204)); have n3_:=Aside0.mk ((by rw [hg]; exact (AT (by repeat (first|(with_reducible first|exact HB.out|apply AI|apply AG|apply AH)|exact HB.out))):w.heap.size≤gb204)); clear HB; have HB:=n0_; have BK204:=n1_; have GW204:=n2_; have GE204:=n3_; clear n0_ n1_ n2_ n3_; clear hb hbox hg; have hcz10_0:w9.cell? ⟨gb204,0,none⟩=some (.int .i64 AB):=(AJ BK204.out 0).trans rfl; have hcz10_1:w9.cell? ⟨gb204,1,none⟩=some (.int .i64 AA):=(AJ BK204.out 1).trans rfl; have hcz10_2:w9.cell? ⟨gb204,2,none⟩=some (.int .i64 AC):=(AJ BK204.out 2).trans rfl; have hfz10_0:=AN BK204.out 0; have hfz10_1:=AN BK204.out 1; have hfz10_2:=AN BK204.out 2)|((with_reducible refine AQ (f:=25) rfl ?_); refine Ag (some 13) rfl rfl Tryd.func25 (by kernel_rfl) rfl #[.agg #[.int .i64 AB,.int .i64 AA,.int .i64 AC]] rfl (by (try simp only [List.map_toArray,List.map_cons,List.map_nil]); first|done|rfl|(simp only [List.length_drop,List.length_take]; rfl)) ?_; (with_reducible refine (AY.calls k AB AA AC true _ A3.out).mono ?_); rintro e w11 ⟨rfl,hb⟩; refine ⟨_,rfl,?_⟩; have n0_:=Aside0.mk (Ai (g:=gb204) (o:= .cells #[.int .i64 AB,.int .i64 AA,.int .i64 AC] 33 (0,0)) (by (with_reducible repeat (first|refine Ab ?_ _|refine AZ ?_|refine Ac ?_ _)); exact BK204.out) hb); have n1_:=Aside0.mk (AP (by repeat (first|(with_reducible first|exact HB.out|apply AI|apply AG|apply AH|refine AV ?_ GE204.out)|exact HB.out)) hb); clear BK204; clear HB; have BK204:=n0_; have HB:=n1_; clear n0_ n1_; (try clear hb); (try clear hb2); (try clear hk); (try clear hi); have hcz12_0:w11.cell? ⟨gb204,0,none⟩=some (.int .i64 AB):=(AJ BK204.out 0).trans rfl; have hcz12_1:w11.cell? ⟨gb204,1,none⟩=some (.int .i64 AA):=(AJ BK204.out 1).trans rfl; have hcz12_2:w11.cell? ⟨gb204,2,none⟩=some (.int .i64 AC):=(AJ BK204.out 2).trans rfl; have hfz12_0:=AN BK204.out 0; have hfz12_1:=AN BK204.out 1; have hfz12_2:=AN BK204.out 2)|((with_reducible refine AQ (f:=12) rfl ?_); refine Ag (some 19) rfl rfl Tryd.func12 (by kernel_rfl) rfl #[.int .i64 AC,.int .i64 a1] rfl (by (try simp only [List.map_toArray,List.map_cons,List.map_nil]); first|done|rfl|(simp only [List.length_drop,List.length_take]; rfl)) ?_; (with_reducible refine (At.calls k AC a1 t206 t207 t208 _ A5.out).mono ?_); rintro e w' ⟨rfl,⟨nd,rfl⟩⟩; refine ⟨_,rfl,?_⟩)|((with_reducible refine AQ (f:=47) rfl ?_); refine Ag (some 27) rfl rfl Tryd.func47 (by kernel_rfl) rfl #[.int .i64 t206] rfl (by (try simp only [List.map_toArray,List.map_cons,List.map_nil]); first|done|rfl|(simp only [List.length_drop,List.length_take]; rfl)) ?_; (with_reducible refine (Ae.calls k t206 t209 _ A7.out).mono ?_); rintro e w13 ⟨rfl,hb⟩; refine ⟨_,rfl,?_⟩; have n0_:=Aside0.mk (Ai (g:=gb204) (o:= .cells #[.int .i64 AB,.int .i64 AA,.int .i64 AC] 33 (0,0)) (by (with_reducible repeat (first|refine Ab ?_ _|refine AZ ?_|refine Ac ?_ _)); exact BK204.out) hb); have n1_:=Aside0.mk (AP (by repeat (first|(with_reducible first|exact HB.out|apply AI|apply AG|apply AH|refine AV ?_ GE204.out)|exact HB.out)) hb); clear BK204; clear HB; have BK204:=n0_; have HB:=n1_; clear n0_ n1_; (try clear hb); (try clear hb2); (try clear hk); (try clear hi)))
   (try simp only [Act.put,List.setIfInBounds_toArray,List.set_cons_zero,List.set_cons_succ])
   go_cut [9] (fun v9 wc=>∃(kq:Nat) (x9_7:ByteArray),v9= .string x9_7∧Aside0 (Ah.j0 kq x9_7 AB AA AC=some (r1,r2))∧Aside0 (kq≤k)∧Aside0 (wc.heap[gb204]? =some (.cells #[.int .i64 AB,.int .i64 AA,.int .i64 AC] 33 (0,0)))∧Aside0 (Below w.heap.size w wc))
   case first=>
    have H:=HC8.out
    clear HC8
    by_cases c14:t207>0
    ·rw [if_pos c14] at H
     have c14b0:decide (0<t207)=true:=decide_eq_true c14
     clear c14
     (first|rw [c14b0]|(simp only [AL,AM]; rw [c14b0])|skip)
     replace H:=Option.bind_eq_some_iff.mp H
     obtain ⟨t210,A150,H⟩:=H
     replace H:(if 1+t210.size≤9223372036854775807 then (if t209.size+((⟨#[43]⟩:ByteArray)++t210).size≤9223372036854775807 then (Ah.j0 k (t209++((⟨#[43]⟩:ByteArray)++t210)) AB AA AC) else (none)) else (none))=some (r1,r2):=H
     have A15:=Aside0.mk A150
     clear A150
     by_cases c16:1+t210.size≤9223372036854775807
     ·rw [if_pos c16] at H
      have c16b0:=eq_true c16
      have c16b1:decide (1+t210.size≤9223372036854775807)=true:=decide_eq_true c16
      try have c16b2:(9223372036854775807<1+t210.size)=False:=eq_false (Nat.not_lt.2 c16)
      by_cases c17:t209.size+((⟨#[43]⟩:ByteArray)++t210).size≤9223372036854775807
      ·rw [if_pos c17] at H
       have c17b0:=eq_true c17
       have c17b1:decide (t209.size+((⟨#[43]⟩:ByteArray)++t210).size≤9223372036854775807)=true:=decide_eq_true c17
       try have c17b2:(9223372036854775807<t209.size+((⟨#[43]⟩:ByteArray)++t210).size)=False:=eq_false (Nat.not_lt.2 c17)
       (try have c17b3:=c17b2)
       (try simp only [ByteArray.size_append,C2,Bc] at c17b3)
       have H':=Aside0.mk H
       clear H
       go_wp2_with (first|((with_reducible refine AQ (f:=47) rfl ?_); refine Ag (some 32) rfl rfl Tryd.func47 (by kernel_rfl) rfl #[.int .i64 t207] rfl (by (try simp only [List.map_toArray,List.map_cons,List.map_nil]); first|done|rfl|(simp only [List.length_drop,List.length_take]; rfl)) ?_; (with_reducible refine (Ae.calls k t207 t210 _ A15.out).mono ?_); rintro e w18 ⟨rfl,hb⟩; refine ⟨_,rfl,?_⟩; have n0_:=Aside0.mk (Ai (g:=gb204) (o:= .cells #[.int .i64 AB,.int .i64 AA,.int .i64 AC] 33 (0,0)) (by (with_reducible repeat (first|refine Ab ?_ _|refine AZ ?_|refine Ac ?_ _)); exact BK204.out) hb); have n1_:=Aside0.mk (AP (by repeat (first|(with_reducible first|exact HB.out|apply AI|apply AG|apply AH|refine AV ?_ GE204.out)|exact HB.out)) hb); clear BK204; clear HB; have BK204:=n0_; have HB:=n1_; clear n0_ n1_; (try clear hb); (try clear hb2); (try clear hk); (try clear hi)))
       go_meet
       case rel=>exact ⟨_,(t209++((⟨#[43]⟩:ByteArray)++t210)),(by first|rfl|(simp; done)|(simp [*]; done)),H',⟨by first|omega|exact Nat.le_refl _⟩,⟨by (with_reducible repeat (first|refine Ab ?_ _|refine AZ ?_|refine Ac ?_ _)); exact BK204.out⟩,⟨by repeat (first|(with_reducible first|exact HB.out|apply AI|apply AG|apply AH|refine AV ?_ GE204.out)|exact HB.out)⟩⟩
      ·rw [if_neg c17] at H
       exact absurd H (by simp)
     ·rw [if_neg c16] at H
      exact absurd H (by simp)
    ·rw [if_neg c14] at H
     have c14b0:decide (0<t207)=false:=decide_eq_false c14
     clear c14
     (first|rw [c14b0]|(simp only [AL,AM]; rw [c14b0])|skip)
     have H':=Aside0.mk H
     clear H
     go_wp2
     go_meet
     case rel=>exact ⟨_,(t209),(by first|rfl|(simp; done)|(simp [*]; done)),H',⟨by first|omega|exact Nat.le_refl _⟩,⟨by (with_reducible repeat (first|refine Ab ?_ _|refine AZ ?_|refine Ac ?_ _)); exact BK204.out⟩,⟨by repeat (first|(with_reducible first|exact HB.out|apply AI|apply AG|apply AH|refine AV ?_ GE204.out)|exact HB.out)⟩⟩
   case rest =>
    clear HC8
    try clear c1
    try clear c2
    try clear p2
    try clear c3
    try clear c4
    try clear c6
    try clear c6b0
    try clear c6b1
    try clear c12
    try clear c14
    try clear c14b0
    try clear c16
    try clear c16b0
    try clear c16b1
    try clear c16b2
    try clear c17
    try clear c17b0
    try clear c17b1
    try clear c17b2
    try clear hcz10_0
    try clear hcz10_1
    try clear hcz10_2
    try clear hcz12_0
    try clear hcz12_1
    try clear hcz12_2
    try clear hfz10_0
    try clear hfz10_1
    try clear hfz10_2
    try clear hfz12_0
    try clear hfz12_1
    try clear hfz12_2
    obtain ⟨kq,x9_7,rfl,HA,HJ7,BK204,HB⟩:=hcut
    cases kq with
    |zero=>exact absurd HA.out (by simp [Ah.j0])
    | succ kj7=>
     have H:=HA.out
     clear HA
     simp only [Ah.j0] at H
     replace H:=Option.bind_eq_some_iff.mp H
     obtain ⟨⟨t211,t212,t213⟩,A190,H⟩:=H
     replace H:(if t213=0 then ((Ae.f kj7 t211).bind fun t214=>(if 1+t214.size≤9223372036854775807 then (if x9_7.size+((⟨#[32]⟩:ByteArray)++t214).size≤9223372036854775807 then (if AA>0 then (if (x9_7++((⟨#[32]⟩:ByteArray)++t214)).size+3≤9223372036854775807 then (some ((x9_7++((⟨#[32]⟩:ByteArray)++t214))++(⟨#[32,117,112]⟩:ByteArray),0)) else (none)) else (if (x9_7++((⟨#[32]⟩:ByteArray)++t214)).size+5≤9223372036854775807 then (some ((x9_7++((⟨#[32]⟩:ByteArray)++t214))++(⟨#[32,100,111,119,110]⟩:ByteArray),0)) else (none))) else (none)) else (none))) else (if x9_7.size+7≤9223372036854775807 then (some (x9_7++(⟨#[32,103,105,114,100,108,101]⟩:ByteArray),0)) else (none)))=some (r1,r2):=H
     have A19:=Aside0.mk A190
     clear A190
     by_cases c20:t213=0
     ·rw [if_pos c20] at H
      have c20b0:(t213==0)=true:=beq_iff_eq.mpr c20
      have c20b1:(t213 !=0)=false:=bne_eq_false_iff_eq.mpr c20
      clear c20
      replace H:=Option.bind_eq_some_iff.mp H
      obtain ⟨t214,A210,H⟩:=H
      replace H:(if 1+t214.size≤9223372036854775807 then (if x9_7.size+((⟨#[32]⟩:ByteArray)++t214).size≤9223372036854775807 then (if AA>0 then (if (x9_7++((⟨#[32]⟩:ByteArray)++t214)).size+3≤9223372036854775807 then (some ((x9_7++((⟨#[32]⟩:ByteArray)++t214))++(⟨#[32,117,112]⟩:ByteArray),0)) else (none)) else (if (x9_7++((⟨#[32]⟩:ByteArray)++t214)).size+5≤9223372036854775807 then (some ((x9_7++((⟨#[32]⟩:ByteArray)++t214))++(⟨#[32,100,111,119,110]⟩:ByteArray),0)) else (none))) else (none)) else (none))=some (r1,r2):=H
      have A21:=Aside0.mk A210
      clear A210
      by_cases c22:1+t214.size≤9223372036854775807
      ·rw [if_pos c22] at H
       have c22b0:=eq_true c22
       have c22b1:decide (1+t214.size≤9223372036854775807)=true:=decide_eq_true c22
       try have c22b2:(9223372036854775807<1+t214.size)=False:=eq_false (Nat.not_lt.2 c22)
       by_cases c23:x9_7.size+((⟨#[32]⟩:ByteArray)++t214).size≤9223372036854775807
       ·rw [if_pos c23] at H
        have c23b0:=eq_true c23
        have c23b1:decide (x9_7.size+((⟨#[32]⟩:ByteArray)++t214).size≤9223372036854775807)=true:=decide_eq_true c23
        try have c23b2:(9223372036854775807<x9_7.size+((⟨#[32]⟩:ByteArray)++t214).size)=False:=eq_false (Nat.not_lt.2 c23)
        (try have c23b3:=c23b2)
        (try simp only [ByteArray.size_append,C2,Bc] at c23b3)
        by_cases c24:AA>0
        ·rw [if_pos c24] at H
         have c24b0:decide (0<AA)=true:=decide_eq_true c24
         clear c24
         by_cases c25:(x9_7++((⟨#[32]⟩:ByteArray)++t214)).size+3≤9223372036854775807
         ·rw [if_pos c25] at H
          have c25b0:=eq_true c25
          have c25b1:decide ((x9_7++((⟨#[32]⟩:ByteArray)++t214)).size+3≤9223372036854775807)=true:=decide_eq_true c25
          try have c25b2:(9223372036854775807<(x9_7++((⟨#[32]⟩:ByteArray)++t214)).size+3)=False:=eq_false (Nat.not_lt.2 c25)
          (try have c25b3:=c25b2)
          (try simp only [ByteArray.size_append,C2,Bc] at c25b3)
          simp only [Option.some.injEq,Prod.mk.injEq] at H
          obtain ⟨rfl,rfl⟩:=H
          have hcz26_0:wc.cell? ⟨gb204,0,none⟩=some (.int .i64 AB):=(AJ BK204.out 0).trans rfl
          have hcz26_1:wc.cell? ⟨gb204,1,none⟩=some (.int .i64 AA):=(AJ BK204.out 1).trans rfl
          have hcz26_2:wc.cell? ⟨gb204,2,none⟩=some (.int .i64 AC):=(AJ BK204.out 2).trans rfl
          have hfz26_0:=AN BK204.out 0
          have hfz26_1:=AN BK204.out 1
          have hfz26_2:=AN BK204.out 2
          go_wp2_with (first|((with_reducible refine AQ (f:=21) rfl ?_); refine Ag (some 37) rfl rfl Tryd.func21 (by kernel_rfl) rfl #[.agg #[.int .i64 AB,.int .i64 AA,.int .i64 AC]] rfl (by (try simp only [List.map_toArray,List.map_cons,List.map_nil]); first|done|rfl|(simp only [List.length_drop,List.length_take]; rfl)) ?_; (with_reducible refine (B2.calls kj7 AB AA AC t211 t212 t213 _ A19.out).mono ?_); rintro e w27 ⟨rfl,hb⟩; refine ⟨_,rfl,?_⟩; have n0_:=Aside0.mk (Ai (g:=gb204) (o:= .cells #[.int .i64 AB,.int .i64 AA,.int .i64 AC] 33 (0,0)) (by (with_reducible repeat (first|refine Ab ?_ _|refine AZ ?_|refine Ac ?_ _)); exact BK204.out) hb); have n1_:=Aside0.mk (AP (by repeat (first|(with_reducible first|exact HB.out|apply AI|apply AG|apply AH|refine AV ?_ GE204.out)|exact HB.out)) hb); clear BK204; clear HB; have BK204:=n0_; have HB:=n1_; clear n0_ n1_; (try clear hb); (try clear hb2); (try clear hk); (try clear hi))|((with_reducible refine AQ (f:=47) rfl ?_); refine Ag (some 47) rfl rfl Tryd.func47 (by kernel_rfl) rfl #[.int .i64 t211] rfl (by (try simp only [List.map_toArray,List.map_cons,List.map_nil]); first|done|rfl|(simp only [List.length_drop,List.length_take]; rfl)) ?_; (with_reducible refine (Ae.calls kj7 t211 t214 _ A21.out).mono ?_); rintro e w28 ⟨rfl,hb⟩; refine ⟨_,rfl,?_⟩; have n0_:=Aside0.mk (Ai (g:=gb204) (o:= .cells #[.int .i64 AB,.int .i64 AA,.int .i64 AC] 33 (0,0)) (by (with_reducible repeat (first|refine Ab ?_ _|refine AZ ?_|refine Ac ?_ _)); exact BK204.out) hb); have n1_:=Aside0.mk (AP (by repeat (first|(with_reducible first|exact HB.out|apply AI|apply AG|apply AH|refine AV ?_ GE204.out)|exact HB.out)) hb); clear BK204; clear HB; have BK204:=n0_; have HB:=n1_; clear n0_ n1_; (try clear hb); (try clear hb2); (try clear hk); (try clear hi); have hcz29_0:w28.cell? ⟨gb204,0,none⟩=some (.int .i64 AB):=(AJ BK204.out 0).trans rfl; have hcz29_1:w28.cell? ⟨gb204,1,none⟩=some (.int .i64 AA):=(AJ BK204.out 1).trans rfl; have hcz29_2:w28.cell? ⟨gb204,2,none⟩=some (.int .i64 AC):=(AJ BK204.out 2).trans rfl; have hfz29_0:=AN BK204.out 0; have hfz29_1:=AN BK204.out 1; have hfz29_2:=AN BK204.out 2))
          go_ret2
          exact ⟨by first|rfl|(simp [AS,AR]<;>rfl)|(simp [*,AS,AR]<;>rfl),by repeat (first|(with_reducible first|exact HB.out|apply AI|apply AG|apply AH|refine AV ?_ GE204.out)|exact HB.out)⟩
         ·rw [if_neg c25] at H
          exact absurd H (by simp)
        ·rw [if_neg c24] at H
         have c24b0:decide (0<AA)=false:=decide_eq_false c24
         clear c24
         by_cases c30:(x9_7++((⟨#[32]⟩:ByteArray)++t214)).size+5≤9223372036854775807
         ·rw [if_pos c30] at H
          have c30b0:=eq_true c30
          have c30b1:decide ((x9_7++((⟨#[32]⟩:ByteArray)++t214)).size+5≤9223372036854775807)=true:=decide_eq_true c30
          try have c30b2:(9223372036854775807<(x9_7++((⟨#[32]⟩:ByteArray)++t214)).size+5)=False:=eq_false (Nat.not_lt.2 c30)
          (try have c30b3:=c30b2)
          (try simp only [ByteArray.size_append,C2,Bc] at c30b3)
          simp only [Option.some.injEq,Prod.mk.injEq] at H
          obtain ⟨rfl,rfl⟩:=H
          have hcz31_0:wc.cell? ⟨gb204,0,none⟩=some (.int .i64 AB):=(AJ BK204.out 0).trans rfl
          have hcz31_1:wc.cell? ⟨gb204,1,none⟩=some (.int .i64 AA):=(AJ BK204.out 1).trans rfl
          have hcz31_2:wc.cell? ⟨gb204,2,none⟩=some (.int .i64 AC):=(AJ BK204.out 2).trans rfl
          have hfz31_0:=AN BK204.out 0
          have hfz31_1:=AN BK204.out 1
          have hfz31_2:=AN BK204.out 2
          go_wp2_with (first|((with_reducible refine AQ (f:=21) rfl ?_); refine Ag (some 37) rfl rfl Tryd.func21 (by kernel_rfl) rfl #[.agg #[.int .i64 AB,.int .i64 AA,.int .i64 AC]] rfl (by (try simp only [List.map_toArray,List.map_cons,List.map_nil]); first|done|rfl|(simp only [List.length_drop,List.length_take]; rfl)) ?_; (with_reducible refine (B2.calls kj7 AB AA AC t211 t212 t213 _ A19.out).mono ?_); rintro e w32 ⟨rfl,hb⟩; refine ⟨_,rfl,?_⟩; have n0_:=Aside0.mk (Ai (g:=gb204) (o:= .cells #[.int .i64 AB,.int .i64 AA,.int .i64 AC] 33 (0,0)) (by (with_reducible repeat (first|refine Ab ?_ _|refine AZ ?_|refine Ac ?_ _)); exact BK204.out) hb); have n1_:=Aside0.mk (AP (by repeat (first|(with_reducible first|exact HB.out|apply AI|apply AG|apply AH|refine AV ?_ GE204.out)|exact HB.out)) hb); clear BK204; clear HB; have BK204:=n0_; have HB:=n1_; clear n0_ n1_; (try clear hb); (try clear hb2); (try clear hk); (try clear hi))|((with_reducible refine AQ (f:=47) rfl ?_); refine Ag (some 47) rfl rfl Tryd.func47 (by kernel_rfl) rfl #[.int .i64 t211] rfl (by (try simp only [List.map_toArray,List.map_cons,List.map_nil]); first|done|rfl|(simp only [List.length_drop,List.length_take]; rfl)) ?_; (with_reducible refine (Ae.calls kj7 t211 t214 _ A21.out).mono ?_); rintro e w33 ⟨rfl,hb⟩; refine ⟨_,rfl,?_⟩; have n0_:=Aside0.mk (Ai (g:=gb204) (o:= .cells #[.int .i64 AB,.int .i64 AA,.int .i64 AC] 33 (0,0)) (by (with_reducible repeat (first|refine Ab ?_ _|refine AZ ?_|refine Ac ?_ _)); exact BK204.out) hb); have n1_:=Aside0.mk (AP (by repeat (first|(with_reducible first|exact HB.out|apply AI|apply AG|apply AH|refine AV ?_ GE204.out)|exact HB.out)) hb); clear BK204; clear HB; have BK204:=n0_; have HB:=n1_; clear n0_ n1_; (try clear hb); (try clear hb2); (try clear hk); (try clear hi); have hcz34_0:w33.cell? ⟨gb204,0,none⟩=some (.int .i64 AB):=(AJ BK204.out 0).trans rfl; have hcz34_1:w33.cell? ⟨gb204,1,none⟩=some (.int .i64 AA):=(AJ BK204.out 1).trans rfl; have hcz34_2:w33.cell? ⟨gb204,2,none⟩=some (.int .i64 AC):=(AJ BK204.out 2).trans rfl; have hfz34_0:=AN BK204.out 0; have hfz34_1:=AN BK204.out 1; have hfz34_2:=AN BK204.out 2))
          go_ret2
          exact ⟨by first|rfl|(simp [AS,AR]<;>rfl)|(simp [*,AS,AR]<;>rfl),by repeat (first|(with_reducible first|exact HB.out|apply AI|apply AG|apply AH|refine AV ?_ GE204.out)|exact HB.out)⟩
         ·rw [if_neg c30] at H
          exact absurd H (by simp)
       ·rw [if_neg c23] at H
        exact absurd H (by simp)
      ·rw [if_neg c22] at H
       exact absurd H (by simp)
     ·rw [if_neg c20] at H
      have c20b0:(t213==0)=false:=beq_eq_false_iff_ne.mpr c20
      have c20b1:(t213 !=0)=true:=bne_iff_ne.mpr c20
      by_cases c35:x9_7.size+7≤9223372036854775807
      ·rw [if_pos c35] at H
       have c35b0:=eq_true c35
       have c35b1:decide (x9_7.size+7≤9223372036854775807)=true:=decide_eq_true c35
       try have c35b2:(9223372036854775807<x9_7.size+7)=False:=eq_false (Nat.not_lt.2 c35)
       simp only [Option.some.injEq,Prod.mk.injEq] at H
       obtain ⟨rfl,rfl⟩:=H
       have hcz36_0:wc.cell? ⟨gb204,0,none⟩=some (.int .i64 AB):=(AJ BK204.out 0).trans rfl
       have hcz36_1:wc.cell? ⟨gb204,1,none⟩=some (.int .i64 AA):=(AJ BK204.out 1).trans rfl
       have hcz36_2:wc.cell? ⟨gb204,2,none⟩=some (.int .i64 AC):=(AJ BK204.out 2).trans rfl
       have hfz36_0:=AN BK204.out 0
       have hfz36_1:=AN BK204.out 1
       have hfz36_2:=AN BK204.out 2
       go_wp2_with (first|((with_reducible refine AQ (f:=21) rfl ?_); refine Ag (some 37) rfl rfl Tryd.func21 (by kernel_rfl) rfl #[.agg #[.int .i64 AB,.int .i64 AA,.int .i64 AC]] rfl (by (try simp only [List.map_toArray,List.map_cons,List.map_nil]); first|done|rfl|(simp only [List.length_drop,List.length_take]; rfl)) ?_; (with_reducible refine (B2.calls kj7 AB AA AC t211 t212 t213 _ A19.out).mono ?_); rintro e w37 ⟨rfl,hb⟩; refine ⟨_,rfl,?_⟩; have n0_:=Aside0.mk (Ai (g:=gb204) (o:= .cells #[.int .i64 AB,.int .i64 AA,.int .i64 AC] 33 (0,0)) (by (with_reducible repeat (first|refine Ab ?_ _|refine AZ ?_|refine Ac ?_ _)); exact BK204.out) hb); have n1_:=Aside0.mk (AP (by repeat (first|(with_reducible first|exact HB.out|apply AI|apply AG|apply AH|refine AV ?_ GE204.out)|exact HB.out)) hb); clear BK204; clear HB; have BK204:=n0_; have HB:=n1_; clear n0_ n1_; (try clear hb); (try clear hb2); (try clear hk); (try clear hi)))
       go_ret2
       exact ⟨by first|rfl|(simp [AS,AR]<;>rfl)|(simp [*,AS,AR]<;>rfl),by repeat (first|(with_reducible first|exact HB.out|apply AI|apply AG|apply AH|refine AV ?_ GE204.out)|exact HB.out)⟩
      ·rw [if_neg c35] at H
       exact absurd H (by simp)
  ·rw [if_neg c6] at H
   have c6b0:(t208==0)=false:=beq_eq_false_iff_ne.mpr c6
   have c6b1:(t208 !=0)=true:=bne_iff_ne.mpr c6
   simp only [Option.some.injEq,Prod.mk.injEq] at H
   obtain ⟨rfl,rfl⟩:=H
   go_enter Tryd.func33,Tryd.ntmps33
   go_wp2_with (first|((with_reducible refine Ar (N:=2) rfl ?_); refine Am ?hg (N:=2) ?hd (cs:= #[.int .i64 AB,.int .i64 AA,.int .i64 AC]) (t:=33) ?hr ?_; (case hd=>rfl); (case hg=>rfl); (case hr=>first|(go_simp; done)|(go_simp; rfl)); intro gb204 hg w38 hbox hb; have n0_:=Aside0.mk (AP (by repeat (first|(with_reducible first|exact HB.out|apply AI|apply AG|apply AH)|exact HB.out)) hb); have n1_:=Aside0.mk (hbox); have n2_:=Aside0.mk ((by rw [hg]; exact (AT (by repeat (first|(with_reducible first|exact HB.out|apply AI|apply AG|apply AH)|exact HB.out))):w.heap.size≤gb204)); have n3_:=Aside0.mk ((by rw [hg]; exact (AT (by repeat (first|(with_reducible first|exact HB.out|apply AI|apply AG|apply AH)|exact HB.out))):w.heap.size≤gb204)); clear HB; have HB:=n0_; have BK204:=n1_; have GW204:=n2_; have GE204:=n3_; clear n0_ n1_ n2_ n3_; clear hb hbox hg; have hcz39_0:w38.cell? ⟨gb204,0,none⟩=some (.int .i64 AB):=(AJ BK204.out 0).trans rfl; have hcz39_1:w38.cell? ⟨gb204,1,none⟩=some (.int .i64 AA):=(AJ BK204.out 1).trans rfl; have hcz39_2:w38.cell? ⟨gb204,2,none⟩=some (.int .i64 AC):=(AJ BK204.out 2).trans rfl; have hfz39_0:=AN BK204.out 0; have hfz39_1:=AN BK204.out 1; have hfz39_2:=AN BK204.out 2)|((with_reducible refine AQ (f:=25) rfl ?_); refine Ag (some 13) rfl rfl Tryd.func25 (by kernel_rfl) rfl #[.agg #[.int .i64 AB,.int .i64 AA,.int .i64 AC]] rfl (by (try simp only [List.map_toArray,List.map_cons,List.map_nil]); first|done|rfl|(simp only [List.length_drop,List.length_take]; rfl)) ?_; (with_reducible refine (AY.calls k AB AA AC true _ A3.out).mono ?_); rintro e w40 ⟨rfl,hb⟩; refine ⟨_,rfl,?_⟩; have n0_:=Aside0.mk (Ai (g:=gb204) (o:= .cells #[.int .i64 AB,.int .i64 AA,.int .i64 AC] 33 (0,0)) (by (with_reducible repeat (first|refine Ab ?_ _|refine AZ ?_|refine Ac ?_ _)); exact BK204.out) hb); have n1_:=Aside0.mk (AP (by repeat (first|(with_reducible first|exact HB.out|apply AI|apply AG|apply AH|refine AV ?_ GE204.out)|exact HB.out)) hb); clear BK204; clear HB; have BK204:=n0_; have HB:=n1_; clear n0_ n1_; (try clear hb); (try clear hb2); (try clear hk); (try clear hi); have hcz41_0:w40.cell? ⟨gb204,0,none⟩=some (.int .i64 AB):=(AJ BK204.out 0).trans rfl; have hcz41_1:w40.cell? ⟨gb204,1,none⟩=some (.int .i64 AA):=(AJ BK204.out 1).trans rfl; have hcz41_2:w40.cell? ⟨gb204,2,none⟩=some (.int .i64 AC):=(AJ BK204.out 2).trans rfl; have hfz41_0:=AN BK204.out 0; have hfz41_1:=AN BK204.out 1; have hfz41_2:=AN BK204.out 2)|((with_reducible refine AQ (f:=12) rfl ?_); refine Ag (some 19) rfl rfl Tryd.func12 (by kernel_rfl) rfl #[.int .i64 AC,.int .i64 a1] rfl (by (try simp only [List.map_toArray,List.map_cons,List.map_nil]); first|done|rfl|(simp only [List.length_drop,List.length_take]; rfl)) ?_; (with_reducible refine (At.calls k AC a1 t206 t207 t208 _ A5.out).mono ?_); rintro e w' ⟨rfl,⟨nd,rfl⟩⟩; refine ⟨_,rfl,?_⟩))
   go_ret2
   exact ⟨by first|rfl|(simp [AS,AR]<;>rfl)|(simp [*,AS,AR]<;>rfl),by repeat (first|(with_reducible first|exact HB.out|apply AI|apply AG|apply AH|refine AV ?_ GE204.out)|exact HB.out)⟩
 ·replace c4:=Bool.eq_false_iff.mpr c4
  subst c4
  have H1:(some ((⟨#[]⟩:ByteArray),1))=some (r1,r2):=by rw [if_neg (show ¬(false=true) by decide)] at H; exact H
  clear H
  have H:=H1
  clear H1
  simp only [Option.some.injEq,Prod.mk.injEq] at H
  obtain ⟨rfl,rfl⟩:=H
  go_enter Tryd.func33,Tryd.ntmps33
  go_wp2_with (first|((with_reducible refine Ar (N:=2) rfl ?_); refine Am ?hg (N:=2) ?hd (cs:= #[.int .i64 AB,.int .i64 AA,.int .i64 AC]) (t:=33) ?hr ?_; (case hd=>rfl); (case hg=>rfl); (case hr=>first|(go_simp; done)|(go_simp; rfl)); intro gb204 hg w42 hbox hb; have n0_:=Aside0.mk (AP (by repeat (first|(with_reducible first|exact HB.out|apply AI|apply AG|apply AH)|exact HB.out)) hb); have n1_:=Aside0.mk (hbox); have n2_:=Aside0.mk ((by rw [hg]; exact (AT (by repeat (first|(with_reducible first|exact HB.out|apply AI|apply AG|apply AH)|exact HB.out))):w.heap.size≤gb204)); have n3_:=Aside0.mk ((by rw [hg]; exact (AT (by repeat (first|(with_reducible first|exact HB.out|apply AI|apply AG|apply AH)|exact HB.out))):w.heap.size≤gb204)); clear HB; have HB:=n0_; have BK204:=n1_; have GW204:=n2_; have GE204:=n3_; clear n0_ n1_ n2_ n3_; clear hb hbox hg; have hcz43_0:w42.cell? ⟨gb204,0,none⟩=some (.int .i64 AB):=(AJ BK204.out 0).trans rfl; have hcz43_1:w42.cell? ⟨gb204,1,none⟩=some (.int .i64 AA):=(AJ BK204.out 1).trans rfl; have hcz43_2:w42.cell? ⟨gb204,2,none⟩=some (.int .i64 AC):=(AJ BK204.out 2).trans rfl; have hfz43_0:=AN BK204.out 0; have hfz43_1:=AN BK204.out 1; have hfz43_2:=AN BK204.out 2)|((with_reducible refine AQ (f:=25) rfl ?_); refine Ag (some 13) rfl rfl Tryd.func25 (by kernel_rfl) rfl #[.agg #[.int .i64 AB,.int .i64 AA,.int .i64 AC]] rfl (by (try simp only [List.map_toArray,List.map_cons,List.map_nil]); first|done|rfl|(simp only [List.length_drop,List.length_take]; rfl)) ?_; (with_reducible refine (AY.calls k AB AA AC false _ A3.out).mono ?_); rintro e w44 ⟨rfl,hb⟩; refine ⟨_,rfl,?_⟩; have n0_:=Aside0.mk (Ai (g:=gb204) (o:= .cells #[.int .i64 AB,.int .i64 AA,.int .i64 AC] 33 (0,0)) (by (with_reducible repeat (first|refine Ab ?_ _|refine AZ ?_|refine Ac ?_ _)); exact BK204.out) hb); have n1_:=Aside0.mk (AP (by repeat (first|(with_reducible first|exact HB.out|apply AI|apply AG|apply AH|refine AV ?_ GE204.out)|exact HB.out)) hb); clear BK204; clear HB; have BK204:=n0_; have HB:=n1_; clear n0_ n1_; (try clear hb); (try clear hb2); (try clear hk); (try clear hi)))
  go_ret2
  exact ⟨by first|rfl|(simp [AS,AR]<;>rfl)|(simp [*,AS,AR]<;>rfl),by repeat (first|(with_reducible first|exact HB.out|apply AI|apply AG|apply AH|refine AV ?_ GE204.out)|exact HB.out)⟩
def BQ.f (l0:List S33) (a1:Int) (b0 b1 b2:Int):Option (List S33):=if l0.length≤100000 then (if 0≤a1 then (if a1≤(l0.length:Int) then some (l0.take a1.toNat++(⟨b0,b1,b2⟩:S33)::l0.drop a1.toNat) else none) else none) else none
theorem Dz {W:World} {g:Nat} {x:S33} (h:W.heap[g]? =some (.cells #[.int .i64 x.f0,.int .i64 x.f1,.int .i64 x.f2] 33 (0,0))):ReadsRow (k33.K W) 3 W (some ⟨g,0,none⟩) 1 [x]:=by
 refine ⟨rfl,by omega,fun _=>⟨⟨g,0,none⟩,rfl,fun j p hj=> ?_⟩⟩
 have hj0:j=0:=by
  have:=(List.getElem?_eq_some_iff.1 hj).1
  simp at this; omega
 subst hj0
 have hp:x=p:=by simpa using hj
 subst hp
 refine ⟨_,rfl,E7 W x,fun q u hq=> ?_⟩
 match q,hq with
 |0,hq=>injection hq with hq; subst hq; exact (AJ h 0).trans rfl
 |1,hq=>injection hq with hq; subst hq; exact (AJ h 1).trans rfl
 |2,hq=>injection hq with hq; subst hq; exact (AJ h 2).trans rfl
 |q+3,hq=>simp at hq
theorem CS (w:World) (o:Obj):(w.alloc o).heap[w.heap.size]? =some o:=by
 show (w.heap.push o)[w.heap.size]? =some o
 simp
def put_T:Bool×List (List Nat×List Nat):=(true,[([],[]),([],[]),([],[]),([1,2],[1,2]),([0,3],[0,3]),([],[]),([],[]),([5,6],[5,6]),([7],[7]),([8],[8]),([4,9,4],[4,9]),([],[]),([],[]),([11,12],[11,12]),([10,13,10],[10,13]),([14,14,0,1,2,3,4,5,6,7,8,9,10,11,12,13,14],[1,11,14])])
def put_B:List Nat:=[0,0,0,6,15,0,0,96,224,480,1023,0,0,6144,16383,32767]
theorem put_tab:rtab .any (Ck Tryd.f30 13)=put_T:=by kernel_rfl
theorem Dv:Be put_T.2 put_B=true:=by kernel_rfl
set_option maxHeartbeats 16000000 in
theorem CO {Q:Exit→Act→World→Prop} (k q:Int) (x4 r l0:List S33) (A0:Option Addr) (c0:Nat) (Ao:Option Addr) (co base:Nat) (ok:Nat→Prop) (u1 u2 u3 u4 u5 u8 u9 u11 u12 u13 u14 u15 u16 u17 u18 u19 u20 u21 u22 u23 u24 u25 u26 u27 u28 u29 u30 u31 u32 u33 u34 u35 u36 u37 u38 u39 u40 u41 u42 u43 u44 u45 u46 u47 u48 u49 u50 u51 u52 u53 u54 u55 u56 u57 u58 u59 u60 u61 u62 u63 u64 u65 u66 u67 u68 u69 u70 u71 u72 u73 u74 u75 u76 u77 u78 u79 u80 u81 u82 u83 u84 u85 u86 u87 u88:Value) (W:World) (hR:k33.R 33 W base ok (.slice Ao x4.length co) x4) (hL:Kd.C k33 W A0 l0.length l0) (hq0:0≤q) (hq1:q<(l0.length:Int)) (h:BQ.f x4 k (AW l0 q).f0 (AW l0 q).f1 (AW l0 q).f2=some r) (hP:∀(c:List Go.PanicEntry) (n:Tmp) (v:Value) (a:Act) (w:World),Q (.panic c) (a.put (some n) v) w→Q (.panic c) a w)
  (hQ:∀(v:Value) (W':World) (y54 y55 y56 y57 y58 y59 y60 y61 y62 y63 y64 y65 y66 y67 y68:Value),k33.R 33 W' W.drew.heap.size (fun k_=>W.drew.heap.size≤k_) v r→Below W.drew.heap.size W.drew W'→Q .normal {tmps:=((.slice A0 l0.length c0)::u1::u2::u3::u4::u5::v::(.int .i64 q)::u8::u9::(.int .i64 k)::u11::u12::u13::u14::u15::u16::u17::u18::u19::u20::u21::u22::u23::u24::u25::u26::u27::u28::u29::u30::u31::u32::u33::u34::u35::u36::u37::u38::u39::u40::u41::u42::u43::u44::u45::u46::u47::u48::u49::u50::u51::u52::u53::y54::y55::y56::y57::y58::y59::y60::y61::y62::y63::y64::y65::y66::y67::y68::u69::u70::u71::u72::u73::u74::u75::u76::u77::u78::u79::u80::u81::u82::u83::u84::u85::u86::u87::u88::[]).toArray,defers:=[]} W'):
  Code.wp Tryd.prog (Code.region 13 (Ck Tryd.f30 13) true) Q {tmps:=((.slice A0 l0.length c0)::u1::u2::u3::u4::u5::(.slice Ao x4.length co)::(.int .i64 q)::u8::u9::(.int .i64 k)::u11::u12::u13::u14::u15::u16::u17::u18::u19::u20::u21::u22::u23::u24::u25::u26::u27::u28::u29::u30::u31::u32::u33::u34::u35::u36::u37::u38::u39::u40::u41::u42::u43::u44::u45::u46::u47::u48::u49::u50::u51::u52::u53::u54::u55::u56::u57::u58::u59::u60::u61::u62::u63::u64::u65::u66::u67::u68::u69::u70::u71::u72::u73::u74::u75::u76::u77::u78::u79::u80::u81::u82::u83::u84::u85::u86::u87::u88::[]).toArray,defers:=[]} W:=by
 unfold BQ.f at h
 by_cases hsz:x4.length≤100000
 rotate_left
 ·rw [if_neg hsz] at h; cases h
 rw [if_pos hsz] at h
 by_cases h0:0≤k
 ·rw [if_pos h0] at h
  by_cases h1:k≤(x4.length:Int)
  ·rw [if_pos h1] at h
   cases h
   have HR:=Aside0.mk hR
   have HSZ:=Aside0.mk hsz
   have HQ:=Aside0.mk hQ
   have HPc:=Aside0.mk hP
   clear hP
   have hk1:k.toNat≤x4.length:=by omega
   have ek:(k.toNat:Int)=k:=by omega
   clear hR hsz hQ
   simp only [Ck,Tryd.f30,Bo,Option.bind,Option.getD,Nat.reduceBEq,Bool.false_eq_true,if_false,if_true,reduceIte]
   obtain ⟨ad,eA,hx0,hx1,hx2⟩:=BG (Kd.C_drew hL) q hq0 hq1
   subst eA
   generalize AW l0 q=x at hx0 hx1 hx2 HQ ⊢
   refine BR (n:=16) (S:=fun w'=>w'.cell? (ad.add (q.toNat*3))=some (.int .i64 x.f0)∧w'.cell? ⟨(ad.add (q.toNat*3)).block,(ad.add (q.toNat*3)).off+1,none⟩=some (.int .i64 x.f1)∧w'.cell? ⟨(ad.add (q.toNat*3)).block,(ad.add (q.toNat*3)).off+2,none⟩=some (.int .i64 x.f2)) (ds:=[]) #[false,false,false,false,false,false,false,false,false,false,false,false,false,false,false,false] (by kernel_rfl) rfl rfl ⟨hx0,hx1,hx2⟩ (fun hHeld=> ?_); refine B4 put_tab Dv (fun HT_ HW_=> ?_)
   have HC0:=Aside0.mk (Kd.R_reads' (Kd.R_drew HR.out)).2.2
   have HLc:=Aside0.mk (Kd.R_reads' HR.out).2.1
   clear HR hL
   have HSB:=Aside0.mk (show ∀w',Below W.drew.heap.size W.drew w'→(w'.cell? (ad.add (q.toNat*3))=some (.int .i64 x.f0)∧w'.cell? ⟨(ad.add (q.toNat*3)).block,(ad.add (q.toNat*3)).off+1,none⟩=some (.int .i64 x.f1)∧w'.cell? ⟨(ad.add (q.toNat*3)).block,(ad.add (q.toNat*3)).off+2,none⟩=some (.int .i64 x.f2)) from fun w' hb=>⟨(hb.cell (World.block_lt_of_cell? _ _ hx0)).trans hx0,(hb.cell (World.block_lt_of_cell? _ _ hx1)).trans hx1,(hb.cell (World.block_lt_of_cell? _ _ hx2)).trans hx2⟩)
   clear hx0 hx1 hx2
   generalize W.drew=W0 at HC0 HQ HSB hHeld ⊢
   have hqn:=eq_true hq0
   have hqm:=eq_true hq1
   refine AO (i:=1) (N:=some 55) (v:= ?_) (a':= ?_) #[false,true,false,false,false,false,false,false,false,false,false,false,false,false,false,false] rfl rfl (AK HT_.out (by kernel_rfl)) (fun _ _ _ h=>HPc.out _ _ _ _ _ h) (Or.inl ⟨by rfl,?_⟩) ?_ ?_
   rotate_left
   ·intro w'
    go_simp
    with_reducible rfl
   rotate_left
   ·simp only [Act.put,List.setIfInBounds_toArray,List.set_cons_zero,List.set_cons_succ,AL,AM]
    rfl
   refine AO (i:=2) (N:=some 56) (v:= ?_) (a':= ?_) #[false,true,true,false,false,false,false,false,false,false,false,false,false,false,false,false] rfl rfl (AK HT_.out (by kernel_rfl)) (fun _ _ _ h=>HPc.out _ _ _ _ _ h) (Or.inl ⟨by rfl,?_⟩) ?_ ?_
   rotate_left
   ·intro w'
    go_simp
    with_reducible rfl
   rotate_left
   ·simp only [Act.put,List.setIfInBounds_toArray,List.set_cons_zero,List.set_cons_succ,AL,AM]
    rfl
   refine AO (i:=5) (N:=some 59) (v:= ?_) (a':= ?_) #[false,true,true,false,false,true,false,false,false,false,false,false,false,false,false,false] rfl rfl (AK HT_.out (by kernel_rfl)) (fun _ _ _ h=>HPc.out _ _ _ _ _ h) (Or.inl ⟨by rfl,?_⟩) ?_ ?_
   rotate_left
   ·intro w'
    go_simp
    with_reducible rfl
   rotate_left
   ·simp only [Act.put,List.setIfInBounds_toArray,List.set_cons_zero,List.set_cons_succ,AL,AM]
    rfl
   refine AO (i:=6) (N:=some 60) (v:= ?_) (a':= ?_) #[false,true,true,false,false,true,true,false,false,false,false,false,false,false,false,false] rfl rfl (AK HT_.out (by kernel_rfl)) (fun _ _ _ h=>HPc.out _ _ _ _ _ h) (Or.inl ⟨by rfl,?_⟩) ?_ ?_
   rotate_left
   ·intro w'
    go_simp
    with_reducible rfl
   rotate_left
   ·simp only [Act.put,List.setIfInBounds_toArray,List.set_cons_zero,List.set_cons_succ,AL,AM]
    rfl
   refine AO (i:=7) (N:=some 61) (v:= ?_) (a':= ?_) #[false,true,true,false,false,true,true,true,false,false,false,false,false,false,false,false] rfl rfl (AK HT_.out (by kernel_rfl)) (fun _ _ _ h=>HPc.out _ _ _ _ _ h) (Or.inl ⟨by rfl,?_⟩) ?_ ?_
   rotate_left
   ·intro w'
    go_simp
    with_reducible rfl
   rotate_left
   ·simp only [Act.put,List.setIfInBounds_toArray,List.set_cons_zero,List.set_cons_succ,AL,AM]
    rfl
   refine Aw (i:=8) (N:=some 62) (v:= ?_) (a':= ?_) #[false,true,true,false,false,true,true,true,true,false,false,false,false,false,false,false] rfl rfl (Ak HT_.out HW_.out (by kernel_rfl)) (fun _ _ _ h=>HPc.out _ _ _ _ _ h) (Or.inl ⟨by rfl,?_⟩) hHeld ?_ ?_
   rotate_left
   ·rintro w' ⟨s0,s1,s2⟩
    go_simp
    with_reducible rfl
   rotate_left
   ·simp only [Act.put,List.setIfInBounds_toArray,List.set_cons_zero,List.set_cons_succ,AL,AM]
    rfl
   refine AO (i:=11) (N:=some 65) (v:= ?_) (a':= ?_) #[false,true,true,false,false,true,true,true,true,false,false,true,false,false,false,false] rfl rfl (AK HT_.out (by kernel_rfl)) (fun _ _ _ h=>HPc.out _ _ _ _ _ h) (Or.inl ⟨by rfl,?_⟩) ?_ ?_
   rotate_left
   ·intro w'
    go_simp
    with_reducible rfl
   rotate_left
   ·simp only [Act.put,List.setIfInBounds_toArray,List.set_cons_zero,List.set_cons_succ,AL,AM]
    rfl
   refine AO (i:=12) (N:=some 66) (v:= ?_) (a':= ?_) #[false,true,true,false,false,true,true,true,true,false,false,true,true,false,false,false] rfl rfl (AK HT_.out (by kernel_rfl)) (fun _ _ _ h=>HPc.out _ _ _ _ _ h) (Or.inl ⟨by rfl,?_⟩) ?_ ?_
   rotate_left
   ·intro w'
    go_simp
    with_reducible rfl
   rotate_left
   ·simp only [Act.put,List.setIfInBounds_toArray,List.set_cons_zero,List.set_cons_succ,AL,AM]
    rfl
   have hkc:¬((co:Int)<k):=by have:=HLc.out; omega
   have hkn:¬((x4.length:Int)<k):=by omega
   have hcc:=eq_true HLc.out
   have hA:Option.map (fun x:Addr=>x.add 0) Ao=Ao:=by cases Ao<;>simp [Addr.add]
   refine AO (i:=3) (N:=some 57) (v:= .slice Ao k.toNat co) (a':= ?_) #[false,true,true,true,false,true,true,true,true,false,false,true,true,false,false,false] rfl rfl (AK HT_.out (by kernel_rfl)) (fun _ _ _ h=>HPc.out _ _ _ _ _ h) (Or.inl ⟨by rfl,?_⟩) ?_ ?_
   ·intro w'
    go_simp
   rotate_left
   ·simp only [Act.put,List.setIfInBounds_toArray,List.set_cons_zero,List.set_cons_succ,AL,AM]
    rfl
   refine AO (i:=13) (N:=some 67) (v:= .slice (if co=k.toNat then Ao else Ao.map (·.add (k.toNat*3))) (x4.length-k.toNat) (co-k.toNat)) (a':= ?_) #[false,true,true,true,false,true,true,true,true,false,false,true,true,true,false,false] rfl rfl (AK HT_.out (by kernel_rfl)) (fun _ _ _ h=>HPc.out _ _ _ _ _ h) (Or.inl ⟨by rfl,?_⟩) ?_ ?_
   ·intro w'
    go_simp
   rotate_left
   ·simp only [Act.put,List.setIfInBounds_toArray,List.set_cons_zero,List.set_cons_succ,AL,AM]
    rfl
   refine join_ (σ:=Value×Value×Nat) 3 #[true,true,true,true,true,true,true,true,true,true,false,true,true,true,false,false] (fun s=>[(54,s.1),(58,s.2.1),(63,.slice (some ⟨s.2.2,0,none⟩) 1 1)]) (fun s w'=>k33.R 33 w' W0.heap.size (fun k_=>W0.heap.size≤k_) s.2.1 (x4.take k.toNat)∧s.2.1.ownBlock≠some s.2.2∧w'.heap[s.2.2]? =some (.cells #[.int .i64 x.f0,.int .i64 x.f1,.int .i64 x.f2] 33 (0,0))∧Below W0.heap.size W0 w') ?_ (fun hcont=> ?_)
   ·rintro ⟨v54,v58,g⟩ w1 ⟨HR,HN,HG,HB⟩
    have HR:=Aside0.mk HR
    have HN:=Aside0.mk HN
    have HG:=Aside0.mk HG
    have HB:=Aside0.mk HB
    refine B8 (a':= ?_) ?_ ?_
    rotate_left
    ·show CP _ [(54,_),(58,_),(63,_)]=_
     simp only [CP,Act.put,List.setIfInBounds_toArray,List.set_cons_zero,List.set_cons_succ,AL,AM]
     rfl
    refine one_ (i:=10) (N:=some 64) #[true,true,true,true,true,true,true,true,true,true,true,true,true,true,false,false] rfl rfl (B7 HT_.out (by kernel_rfl)) (by decide) (fun K hK=> ?_)
    refine Kd.R_append_rows_step k33 (w0:=W0) W0.heap.size (by rfl) (.tmp 58) (.tmp 63) 46 33 (.agg #[(.int .i64 0),(.int .i64 0),(.int .i64 0)]) 24 rfl Tryd.underlying46 info33 rfl (by decide) (by omega) v58 (x4.take k.toNat) [x] (some ⟨g,0,none⟩) 1 1 (fun k_=>W0.heap.size≤k_) (fun _=>False) rfl rfl HR.out (Dz HG.out) (fun _ _ h=>h) (fun _ h=>h.elim) (fun k_ hk=>Nat.le_trans HB.out.size hk) HB.out HB.out.size (by have:=HSZ.out; simp only [List.length_take]; omega) ?_
    intro v64 w2 HR2 HB2 hg hat
    have HR2:=Aside0.mk HR2
    have HB2:=Aside0.mk HB2
    clear hg hat HR HN HG HB
    refine hK.out _ _ (HSB.out _ HB2.out) (fun hHeld=> ?_)
    clear hK K
    refine B8 (a':= ?_) ?_ ?_
    rotate_left
    ·show Act.put _ (some 64) _=_
     simp only [Act.put,List.setIfInBounds_toArray,List.set_cons_zero,List.set_cons_succ,AL,AM]
     rfl
    refine one_ (i:=14) (N:=some 68) #[true,true,true,true,true,true,true,true,true,true,true,true,true,true,true,false] rfl rfl (B7 HT_.out (by kernel_rfl)) (by decide) (fun K hK=> ?_)
    refine Kd.R_append_rows_step k33 (w0:=W0) W0.heap.size (by rfl) (.tmp 64) (.tmp 67) 46 33 (.agg #[(.int .i64 0),(.int .i64 0),(.int .i64 0)]) 24 rfl Tryd.underlying46 info33 rfl (by decide) (by omega) v64 (x4.take k.toNat++[x]) (x4.drop k.toNat) _ _ _ (fun k_=>W0.heap.size≤k_) (fun _=>False) rfl rfl HR2.out ?_ (fun _ _ h=>h) (fun _ h=>h.elim) (fun k_ hk=>Nat.le_trans HB2.out.size hk) HB2.out HB2.out.size (by have:=HSZ.out; simp only [List.length_append,List.length_take,List.length_singleton]; omega) ?_
    ·have h1:=Kd.C_below (Kd.C_drop (m:=k.toNat) HC0.out (by omega) HLc.out) HB2.out
     rw [List.length_drop] at h1
     exact h1
    intro v68 w3 HR3 HB3 hg hat
    have HR3:=Aside0.mk HR3
    have HB3:=Aside0.mk HB3
    clear hg hat HR2 HB2
    refine hK.out _ _ (HSB.out _ HB3.out) (fun hHeld=> ?_)
    clear hK K
    refine B8 (a':= ?_) ?_ ?_
    rotate_left
    ·show Act.put _ (some 68) _=_
     simp only [Act.put,List.setIfInBounds_toArray,List.set_cons_zero,List.set_cons_succ,AL,AM]
     rfl
    refine AO (i:=15) (N:=some 6) (v:= ?_) (a':= ?_) #[true,true,true,true,true,true,true,true,true,true,true,true,true,true,true,true] rfl rfl (AK HT_.out (by kernel_rfl)) (fun _ _ _ h=>HPc.out _ _ _ _ _ h) (Or.inl ⟨by rfl,?_⟩) ?_ ?_
    rotate_left
    ·intro w'
     go_simp
     with_reducible rfl
    rotate_left
    ·simp only [Act.put,List.setIfInBounds_toArray,List.set_cons_zero,List.set_cons_succ,AL,AM]
     rfl
    refine Bb (BA HT_.out (by kernel_rfl)) ?_
    refine HQ.out _ _ _ _ _ _ _ _ _ _ _ _ _ _ _ _ _ ?_ HB3.out
    refine Kd.R_mono ?_ (fun _ hk=>hk)
    have e:(x4.take k.toNat++[x])++x4.drop k.toNat=x4.take k.toNat++x::x4.drop k.toNat:=by simp
    rw [←e]
    exact HR3.out
   have HB:=Aside0.mk (Below.refl W0.heap.size W0)
   refine two_ (i:=0) (j:=9) (Ni:=some 54) (Nj:=some 63) #[true,true,true,true,false,true,true,true,true,false,false,true,true,true,false,false] #[false,true,true,true,false,true,true,true,true,true,false,true,true,true,false,false] rfl rfl rfl rfl (Dm HT_.out (by kernel_rfl)) (by decide) (by decide) (fun K hK=> ?_) (fun K hK=> ?_)
   ·skip
    refine Kd.R_lit_step k33 (w0:=W0) W0.heap.size 33 (by rfl) (N:=54) rfl (xs:=([]:List S33)) (inner:=[]) (ok:=fun k_=>W0.heap.size≤k_) (okp:=fun _=>False) ?_ (Reps.none _ _) (fun _ hk=>hk.elim) HB.out.size HB.out HB.out.size (by simp) ?_
    ·first|(go_simp; done)|(go_simp; rfl)
    intro v54 w1 ho hb hg hat
    clear HB
    have HR:=Aside0.mk ho
    have HB:=Aside0.mk hb
    clear ho hb hg hat
    refine hK.out _ _ (HSB.out _ HB.out) (fun hHeld=> ?_)
    clear hK K
    refine B8 (a':= ?_) ?_ ?_
    rotate_left
    ·show Act.put _ (some 54) _=_
     simp only [Act.put,List.setIfInBounds_toArray,List.set_cons_zero,List.set_cons_succ,AL,AM]
     rfl
    refine two_ (i:=4) (j:=9) (Ni:=some 58) (Nj:=some 63) #[true,true,true,true,true,true,true,true,true,false,false,true,true,true,false,false] #[true,true,true,true,false,true,true,true,true,true,false,true,true,true,false,false] rfl rfl rfl rfl (Dm HT_.out (by kernel_rfl)) (by decide) (by decide) (fun K hK=> ?_) (fun K hK=> ?_)
    ·skip
     refine Kd.R_append_rows_step k33 (w0:=W0) W0.heap.size (by rfl) (.tmp 54) (.tmp 57) 46 33 (.agg #[(.int .i64 0),(.int .i64 0),(.int .i64 0)]) 24 rfl Tryd.underlying46 info33 rfl (by decide) (by omega) v54 [] (x4.take k.toNat) _ _ _ (fun k_=>W0.heap.size≤k_) (fun _=>False) rfl rfl HR.out ?_ (fun _ _ h=>h) (fun _ h=>h.elim) (fun k_ hk=>Nat.le_trans HB.out.size hk) HB.out HB.out.size (by have:=HSZ.out; simp only [List.length_nil]; omega) ?_
     ·have h1:=Kd.C_below (Kd.C_take (m:=k.toNat) HC0.out (by omega)) HB.out
      rw [List.length_take,Nat.min_eq_left (by omega)] at h1
      exact h1
     intro v58 w2 ho hb hg hat
     clear HB HR
     have HR:=Aside0.mk ho
     have HB:=Aside0.mk hb
     clear ho hb hg hat
     refine hK.out _ _ (HSB.out _ HB.out) (fun hHeld=> ?_)
     clear hK K
     refine B8 (a':= ?_) ?_ ?_
     rotate_left
     ·show Act.put _ (some 58) _=_
      simp only [Act.put,List.setIfInBounds_toArray,List.set_cons_zero,List.set_cons_succ,AL,AM]
      rfl
     refine one_ (i:=9) (N:=some 63) #[true,true,true,true,true,true,true,true,true,true,false,true,true,true,false,false] rfl rfl (B7 HT_.out (by kernel_rfl)) (by decide) (fun K hK=> ?_)
     refine D9 (v:= .slice (some ⟨w2.heap.size,0,none⟩) 1 1) (w1:=w2.alloc (.cells #[.int .i64 x.f0,.int .i64 x.f1,.int .i64 x.f2] 33)) (by rfl) rfl ?_ ?_
     ·first|(go_simp; done)|(go_simp; rfl)
     have HN:=Aside0.mk (show v58.ownBlock≠some w2.heap.size from fun h=>absurd (Kd.R_lt HR.out _ h) (by omega))
     have HG:=Aside0.mk (show (w2.alloc (.cells #[.int .i64 x.f0,.int .i64 x.f1,.int .i64 x.f2] 33)).heap[w2.heap.size]? =some (.cells #[.int .i64 x.f0,.int .i64 x.f1,.int .i64 x.f2] 33 (0,0)) from CS _ _)
     have HR':=Aside0.mk (Kd.R_alloc HR.out (.cells #[.int .i64 x.f0,.int .i64 x.f1,.int .i64 x.f2] 33))
     have HB':=Aside0.mk (HB.out.alloc HB.out.size (.cells #[.int .i64 x.f0,.int .i64 x.f1,.int .i64 x.f2] 33))
     clear HR HB
     have HR:=HR'
     have HB:=HB'
     refine hK.out _ _ (HSB.out _ HB.out) (fun hHeld=> ?_)
     clear hK K
     refine B8 (a':= ?_) ?_ ?_
     rotate_left
     ·show Act.put _ (some 63) _=_
      simp only [Act.put,List.setIfInBounds_toArray,List.set_cons_zero,List.set_cons_succ,AL,AM]
      rfl
     exact hcont ⟨v54,v58,w2.heap.size⟩ _ ⟨by simpa using HR.out,HN.out,HG.out,HB.out⟩
    ·skip
     refine D9 (v:= .slice (some ⟨w1.heap.size,0,none⟩) 1 1) (w1:=w1.alloc (.cells #[.int .i64 x.f0,.int .i64 x.f1,.int .i64 x.f2] 33)) (by rfl) rfl ?_ ?_
     ·first|(go_simp; done)|(go_simp; rfl)
     have HNv:=Aside0.mk (show v54.ownBlock≠some w1.heap.size from fun h=>absurd (Kd.R_lt HR.out _ h) (by omega))
     have HG:=Aside0.mk (show (w1.alloc (.cells #[.int .i64 x.f0,.int .i64 x.f1,.int .i64 x.f2] 33)).heap[w1.heap.size]? =some (.cells #[.int .i64 x.f0,.int .i64 x.f1,.int .i64 x.f2] 33 (0,0)) from CS _ _)
     have HR':=Aside0.mk (Kd.R_alloc HR.out (.cells #[.int .i64 x.f0,.int .i64 x.f1,.int .i64 x.f2] 33))
     have HB':=Aside0.mk (HB.out.alloc HB.out.size (.cells #[.int .i64 x.f0,.int .i64 x.f1,.int .i64 x.f2] 33))
     clear HR HB
     have HR:=HR'
     have HB:=HB'
     have HS:=Aside0.mk (show w1.heap.size<(w1.alloc (.cells #[.int .i64 x.f0,.int .i64 x.f1,.int .i64 x.f2] 33)).heap.size from by simp)
     refine hK.out _ _ (HSB.out _ HB.out) (fun hHeld=> ?_)
     clear hK K
     refine B8 (a':= ?_) ?_ ?_
     rotate_left
     ·show Act.put _ (some 63) _=_
      simp only [Act.put,List.setIfInBounds_toArray,List.set_cons_zero,List.set_cons_succ,AL,AM]
      rfl
     refine one_ (i:=4) (N:=some 58) #[true,true,true,true,true,true,true,true,true,true,false,true,true,true,false,false] rfl rfl (B7 HT_.out (by kernel_rfl)) (by decide) (fun K hK=> ?_)
     refine Kd.R_append_rows_step k33 (w0:=W0) W0.heap.size (by rfl) (.tmp 54) (.tmp 57) 46 33 (.agg #[(.int .i64 0),(.int .i64 0),(.int .i64 0)]) 24 rfl Tryd.underlying46 info33 rfl (by decide) (by omega) v54 [] (x4.take k.toNat) _ _ _ (fun k_=>W0.heap.size≤k_) (fun _=>False) rfl rfl HR.out ?_ (fun _ _ h=>h) (fun _ h=>h.elim) (fun k_ hk=>Nat.le_trans HB.out.size hk) HB.out HB.out.size (by have:=HSZ.out; simp only [List.length_nil]; omega) ?_
     ·have h1:=Kd.C_below (Kd.C_take (m:=k.toNat) HC0.out (by omega)) HB.out
      rw [List.length_take,Nat.min_eq_left (by omega)] at h1
      exact h1
     intro v58 w2 ho hb hg hat
     have HN:=Aside0.mk (show v58.ownBlock≠some w1.heap.size from fun h=>by rcases hat with e|⟨b,e,hb2⟩; exact HNv.out (e▸h); rw [e] at h; injection h with h; have:=HS.out; omega)
     have HG':=Aside0.mk ((hg.block _ HS.out (fun h=>HNv.out h.symm)).trans HG.out)
     clear HB HR HG
     have HR:=Aside0.mk ho
     have HB:=Aside0.mk hb
     have HG:=HG'
     clear ho hb hg hat
     refine hK.out _ _ (HSB.out _ HB.out) (fun hHeld=> ?_)
     clear hK K
     refine B8 (a':= ?_) ?_ ?_
     rotate_left
     ·show Act.put _ (some 58) _=_
      simp only [Act.put,List.setIfInBounds_toArray,List.set_cons_zero,List.set_cons_succ,AL,AM]
      rfl
     exact hcont ⟨v54,v58,w1.heap.size⟩ _ ⟨by simpa using HR.out,HN.out,HG.out,HB.out⟩
   ·skip
    refine D9 (v:= .slice (some ⟨W0.heap.size,0,none⟩) 1 1) (w1:=W0.alloc (.cells #[.int .i64 x.f0,.int .i64 x.f1,.int .i64 x.f2] 33)) (by rfl) rfl ?_ ?_
    ·first|(go_simp; done)|(go_simp; rfl)
    have HG:=Aside0.mk (show (W0.alloc (.cells #[.int .i64 x.f0,.int .i64 x.f1,.int .i64 x.f2] 33)).heap[W0.heap.size]? =some (.cells #[.int .i64 x.f0,.int .i64 x.f1,.int .i64 x.f2] 33 (0,0)) from CS _ _)
    have HB':=Aside0.mk (HB.out.alloc HB.out.size (.cells #[.int .i64 x.f0,.int .i64 x.f1,.int .i64 x.f2] 33))
    clear HB
    have HB:=HB'
    have HS0:=Aside0.mk (show W0.heap.size<(W0.alloc (.cells #[.int .i64 x.f0,.int .i64 x.f1,.int .i64 x.f2] 33)).heap.size from by simp)
    refine hK.out _ _ (HSB.out _ HB.out) (fun hHeld=> ?_)
    clear hK K
    refine B8 (a':= ?_) ?_ ?_
    rotate_left
    ·show Act.put _ (some 63) _=_
     simp only [Act.put,List.setIfInBounds_toArray,List.set_cons_zero,List.set_cons_succ,AL,AM]
     rfl
    refine one_ (i:=0) (N:=some 54) #[true,true,true,true,false,true,true,true,true,true,false,true,true,true,false,false] rfl rfl (B7 HT_.out (by kernel_rfl)) (by decide) (fun K hK=> ?_)
    refine Kd.R_lit_step k33 (w0:=W0) W0.heap.size 33 (by rfl) (N:=54) rfl (xs:=([]:List S33)) (inner:=[]) (ok:=fun k_=>W0.heap.size≤k_) (okp:=fun _=>False) ?_ (Reps.none _ _) (fun _ hk=>hk.elim) HB.out.size HB.out HB.out.size (by simp) ?_
    ·first|(go_simp; done)|(go_simp; rfl)
    intro v54 w1 ho hb hg hat
    have HNv:=Aside0.mk (show v54.ownBlock≠some W0.heap.size from fun h=>by obtain ⟨b,e,hb2⟩:=hat; rw [e] at h; injection h with h; have:=HS0.out; omega)
    have HG':=Aside0.mk ((hg.block _ HS0.out (by simp)).trans HG.out)
    have HS:=Aside0.mk (Nat.lt_of_lt_of_le HS0.out hg.size)
    clear HB HG
    have HR:=Aside0.mk ho
    have HB:=Aside0.mk hb
    have HG:=HG'
    clear ho hb hg hat
    refine hK.out _ _ (HSB.out _ HB.out) (fun hHeld=> ?_)
    clear hK K
    refine B8 (a':= ?_) ?_ ?_
    rotate_left
    ·show Act.put _ (some 54) _=_
     simp only [Act.put,List.setIfInBounds_toArray,List.set_cons_zero,List.set_cons_succ,AL,AM]
     rfl
    refine one_ (i:=4) (N:=some 58) #[true,true,true,true,true,true,true,true,true,true,false,true,true,true,false,false] rfl rfl (B7 HT_.out (by kernel_rfl)) (by decide) (fun K hK=> ?_)
    refine Kd.R_append_rows_step k33 (w0:=W0) W0.heap.size (by rfl) (.tmp 54) (.tmp 57) 46 33 (.agg #[(.int .i64 0),(.int .i64 0),(.int .i64 0)]) 24 rfl Tryd.underlying46 info33 rfl (by decide) (by omega) v54 [] (x4.take k.toNat) _ _ _ (fun k_=>W0.heap.size≤k_) (fun _=>False) rfl rfl HR.out ?_ (fun _ _ h=>h) (fun _ h=>h.elim) (fun k_ hk=>Nat.le_trans HB.out.size hk) HB.out HB.out.size (by have:=HSZ.out; simp only [List.length_nil]; omega) ?_
    ·have h1:=Kd.C_below (Kd.C_take (m:=k.toNat) HC0.out (by omega)) HB.out
     rw [List.length_take,Nat.min_eq_left (by omega)] at h1
     exact h1
    intro v58 w2 ho hb hg hat
    have HN:=Aside0.mk (show v58.ownBlock≠some W0.heap.size from fun h=>by rcases hat with e|⟨b,e,hb2⟩; exact HNv.out (e▸h); rw [e] at h; injection h with h; have:=HS.out; omega)
    have HG':=Aside0.mk ((hg.block _ HS.out (fun h=>HNv.out h.symm)).trans HG.out)
    clear HB HR HG
    have HR:=Aside0.mk ho
    have HB:=Aside0.mk hb
    have HG:=HG'
    clear ho hb hg hat
    refine hK.out _ _ (HSB.out _ HB.out) (fun hHeld=> ?_)
    clear hK K
    refine B8 (a':= ?_) ?_ ?_
    rotate_left
    ·show Act.put _ (some 58) _=_
     simp only [Act.put,List.setIfInBounds_toArray,List.set_cons_zero,List.set_cons_succ,AL,AM]
     rfl
    exact hcont ⟨v54,v58,W0.heap.size⟩ _ ⟨by simpa using HR.out,HN.out,HG.out,HB.out⟩
  ·rw [if_neg h1] at h; cases h
 ·rw [if_neg h0] at h; cases h
end Go.Proofs.YtgfjidlckocflaaDoor.PAll
end
section
namespace Go.Proofs.YtgfjidlckocflaaDoor.PAll
set_option maxRecDepth 100000
open Go.RowKit Go.Proofs.YtgfjidlckocflaaDoorW.PrintWords Go.Proofs.YtgfjidlckocflaaDoorW.PrintLast Go.Proofs.YtgfjidlckocflaaDoorW.PrintMore
attribute [local go_sem] BM BK BV BU BD BC BL BJ
mutual
def AX.l0:Nat→List (S33)→Int→List (S33)→Int→Option (List ByteArray×Int)
 |0,_,_,_,_=>none
 |k+1,x0,x1,x6,x7=>if x7<(x0.length:Int) then (if 0≤x7 then ((Ah.f k ((AW x0 x7).f0) ((AW x0 x7).f1) ((AW x0 x7).f2) x1).bind fun bt216=>(if bt216.2=0 then (AX.l1 k x0 x1 x6 x7 (x6.length:Int)) else (some (([]:List ByteArray),bt216.2)))) else (none)) else (AX.l2 k x1 x6 ([]:List ByteArray) 0)
def AX.l1:Nat→List (S33)→Int→List (S33)→Int→Int→Option (List ByteArray×Int)
 |0,_,_,_,_,_=>none
 |k+1,x0,x1,x6,x7,x10=>if x10>0 then (if 0≤x7 then (if x7<(x0.length:Int) then (if 0≤(wrap64 (x10-1)) then (if (wrap64 (x10-1))<(x6.length:Int) then ((An.f k ((AW x0 x7).f0) ((AW x0 x7).f1) ((AW x0 x7).f2) ((AW x6 (wrap64 (x10-1))).f0) ((AW x6 (wrap64 (x10-1))).f1) ((AW x6 (wrap64 (x10-1))).f2)).bind fun t220=>(if t220=true then (AX.l1 k x0 x1 x6 x7 (wrap64 (x10-1))) else ((BQ.f x6 x10 ((AW x0 x7).f0) ((AW x0 x7).f1) ((AW x0 x7).f2)).bind fun t222=>(AX.l0 k x0 x1 t222 (wrap64 (x7+1)))))) else (none)) else (none)) else (none)) else (none)) else (if 0≤x7 then (if x7<(x0.length:Int) then ((BQ.f x6 x10 ((AW x0 x7).f0) ((AW x0 x7).f1) ((AW x0 x7).f2)).bind fun t226=>(AX.l0 k x0 x1 t226 (wrap64 (x7+1)))) else (none)) else (none))
def AX.l2:Nat→Int→List (S33)→List ByteArray→Int→Option (List ByteArray×Int)
 |0,_,_,_,_=>none
 |k+1,x1,x6,x11,x12=>if x12<(x6.length:Int) then (if 0≤x12 then ((Ah.f k ((AW x6 x12).f0) ((AW x6 x12).f1) ((AW x6 x12).f2) x1).bind fun bt230=>(if x11.length<8796093022208 then (AX.l2 k x1 x6 (x11++[bt230.1]) (wrap64 (x12+1))) else (none))) else (none)) else (some (x11,0))
end
def AX.f (k:Nat) (l0:List (S33)) (a1:Int):Option (List ByteArray×Int):=if (l0.length:Int)>100 then (some (([]:List ByteArray),3)) else (AX.l0 k l0 a1 ([]:List (S33)) 0)
def AX.T11:Bool×List (List Nat×List Nat):=(true,[([],[]),([0],[0]),([1],[1]),([2],[2]),([2],[2]),([3,4,2],[2,3,4]),([5,2],[2,5]),([2],[2]),([2],[2]),([8,2],[2,8]),([7,9,2],[2,7,9]),([10,2],[2,10]),([6,11,2,2],[2,6,11]),([2,12],[2,12])])
def AX.B11:List Nat:=[0,1,3,7,7,31,63,7,7,263,903,1927,4095,8191]
theorem AX.tab11:rtab .any (Ck Tryd.f30 11)=AX.T11:=by kernel_rfl
theorem AX.bits11:Be AX.T11.2 AX.B11=true:=by kernel_rfl
set_option maxHeartbeats 8000000 in
theorem AX.calls (k:Nat) (A0:Option Addr) (c0:Nat) (l0:List (S33)) (a1:Int) (r1:List ByteArray) (r2:Int) (w:World) (hr0:Kd.C k33 w A0 l0.length l0) (hc0:l0.length≤c0) (h:AX.f k l0 a1=some (r1,r2)):
  Calls Tryd.prog 30 #[.slice A0 l0.length c0,.int .i64 a1] w fun e w'=>∃v0_:Value,e= .returned (.tuple #[v0_,.int .i64 r2])∧Kd.R Kd.string 9 w' w.heap.size (fun _=>True) v0_ r1∧Below w.heap.size w w':=by
 have hu33:=Tryd.underlying33
 have HR0:=Aside0.mk hr0
 have HC0:=Aside0.mk hc0
 clear hr0 hc0
 have HB:=Aside0.mk (Below.refl w.heap.size w)
 have H:(if (l0.length:Int)>100 then (some (([]:List ByteArray),3)) else (AX.l0 k l0 a1 ([]:List (S33)) 0))=some (r1,r2):=h
 clear h
 by_cases c3:(l0.length:Int)>100
 ·rw [if_pos c3] at H
  have c3b0:decide (100<(l0.length:Int))=true:=decide_eq_true c3
  have c3b1:decide (100<l0.length)=true:=decide_eq_true (by omega)
  clear c3
  simp only [Option.some.injEq,Prod.mk.injEq] at H
  obtain ⟨rfl,rfl⟩:=H
  go_enter Tryd.func30,Tryd.ntmps30
  go_wp2
  go_ret2
  exact ⟨_,by first|rfl|(simp [AS,AR]<;>rfl)|(simp [*,AS,AR]<;>rfl),by first|exact Kd.R_nil _ _ _ _ _|exact Kd.N_nil _ _ _ _ _|exact Kd.V_nil _ _ _ _ _|exact Kd.Q_nil _ _ _ _ _|exact Kd.S_nil _ _ _ _ _,by repeat (first|(with_reducible first|exact HB.out|apply AI|apply AG|apply AH)|exact HB.out)⟩
 ·rw [if_neg c3] at H
  have c3b0:decide (100<(l0.length:Int))=false:=decide_eq_false c3
  have c3b1:decide (100<l0.length)=false:=decide_eq_false (by omega)
  clear c3
  have H':=Aside0.mk H
  clear H
  go_enter Tryd.func30,Tryd.ntmps30
  go_wp2
  go_loopg [6,7] k (fun kq v6 v7 w'=>∃(x6_1:List (S33)) (x7_1:Int),v7= .int .i64 x7_1∧Aside0 (AX.l0 kq l0 a1 x6_1 x7_1=some (r1,r2))∧Aside0 (kq≤k)∧Aside0 (Kd.R k33 33 w' w.heap.size (fun _=>True) v6 x6_1)∧Aside0 (Below w.heap.size w w'))
  case atStart=>exact ⟨(([]:List (S33))),(0),(by first|rfl|(simp; done)|(simp [*]; done)),H',⟨Nat.le_refl _⟩,⟨by first|exact Kd.R_nil _ _ _ _ _|exact Kd.N_nil _ _ _ _ _|exact Kd.V_nil _ _ _ _ _|exact Kd.Q_nil _ _ _ _ _|exact Kd.S_nil _ _ _ _ _⟩,⟨by repeat (first|(with_reducible first|exact HB.out|apply AI|apply AG|apply AH)|exact HB.out)⟩⟩
  case round=>
   clear H'
   try clear p2
   try clear c3
   try clear c3b0
   try clear c3b1
   obtain ⟨x6_1,x7_1,rfl,HA,HK1,HO_6,HB⟩:=hrel
   cases gk with
   |zero=>exact absurd HA.out (by simp [AX.l0])
   | succ k1 =>
    have H:=HA.out
    clear HA
    simp only [AX.l0] at H
    by_cases c4:x7_1<(l0.length:Int)
    ·rw [if_pos c4] at H
     have c4b0:decide (x7_1<(l0.length:Int))=true:=decide_eq_true c4
     clear c4
     by_cases c5:0≤x7_1
     ·rw [if_pos c5] at H
      have c5b0:decide (0≤x7_1)=true:=decide_eq_true c5
      clear c5
      replace H:=Option.bind_eq_some_iff.mp H
      obtain ⟨⟨t216,t217⟩,A60,H⟩:=H
      replace H:(if t217=0 then (AX.l1 k1 l0 a1 x6_1 x7_1 (x6_1.length:Int)) else (some (([]:List ByteArray),t217)))=some (r1,r2):=H
      have A6:=Aside0.mk A60
      clear A60
      by_cases c7:t217=0
      ·rw [if_pos c7] at H
       have c7b0:(t217==0)=true:=beq_iff_eq.mpr c7
       have c7b1:(t217 !=0)=false:=bne_eq_false_iff_eq.mpr c7
       clear c7
       have H':=Aside0.mk H
       clear H
       have p215:0≤(x7_1:Int):=of_decide_eq_true (by first|(with_reducible assumption)|assumption)
       have q215:x7_1<(l0.length:Int):=of_decide_eq_true (by first|(with_reducible assumption)|assumption)
       obtain ⟨ad215,e215,hx215_0,hx215_1,hx215_2⟩:=BG HR0.out x7_1 p215 q215
       cases e215
       replace hx215_0:=(HB.out.cell (World.block_lt_of_cell? w _ hx215_0)).trans hx215_0
       replace hx215_1:=(HB.out.cell (World.block_lt_of_cell? w _ hx215_1)).trans hx215_1
       replace hx215_2:=(HB.out.cell (World.block_lt_of_cell? w _ hx215_2)).trans hx215_2
       replace p215:=eq_true p215
       replace q215:=eq_true q215
       go_wp2_with (first|((with_reducible refine AQ (f:=33) rfl ?_); refine Ag (some 30) rfl rfl Tryd.func33 (by kernel_rfl) rfl #[.agg #[.int .i64 ((AW l0 x7_1).f0),.int .i64 ((AW l0 x7_1).f1),.int .i64 ((AW l0 x7_1).f2)],.int .i64 a1] rfl (by (try simp only [List.map_toArray,List.map_cons,List.map_nil]); first|done|rfl|(simp only [List.length_drop,List.length_take]; rfl)) ?_; (with_reducible refine (Ah.calls k1 ((AW l0 x7_1).f0) ((AW l0 x7_1).f1) ((AW l0 x7_1).f2) a1 t216 t217 _ A6.out).mono ?_); rintro e w8 ⟨rfl,hb⟩; refine ⟨_,rfl,?_⟩; have n0_:=Aside0.mk (Kd.R_below (by (with_reducible repeat (first|apply Kd.R_alloc|apply Kd.R_drewN|apply Kd.R_drew)); exact HO_6.out) hb); have n1_:=Aside0.mk (AP (by repeat (first|(with_reducible first|exact HB.out|apply AI|apply AG|apply AH)|exact HB.out)) hb); clear HO_6; clear HB; have HO_6:=n0_; have HB:=n1_; clear n0_ n1_; (try clear hb); (try clear hb2); (try clear hk); (try clear hi); obtain ⟨Ao9,co9,eo9⟩:=Kd.R_slice HO_6.out; subst eo9))
       go_loopg [10] k1 (fun kq v10 w'=>∃(x10_2:Int),v10= .int .i64 x10_2∧Aside0 (AX.l1 kq l0 a1 x6_1 x7_1 x10_2=some (r1,r2))∧Aside0 (kq≤k1)∧Aside0 (Kd.R k33 33 w' w.heap.size (fun _=>True) (.slice Ao9 x6_1.length co9) x6_1)∧Aside0 (Below w.heap.size w w'))
       case atStart=>exact ⟨((x6_1.length:Int)),(by first|rfl|(simp; done)|(simp [*]; done)),H',⟨Nat.le_refl _⟩,⟨by (with_reducible repeat (first|apply Kd.R_alloc|apply Kd.R_drewN|apply Kd.R_drew)); exact HO_6.out⟩,⟨by repeat (first|(with_reducible first|exact HB.out|apply AI|apply AG|apply AH)|exact HB.out)⟩⟩
       case round=>
        clear H'
        try clear p2
        try clear q2
        try clear hx2
        try clear c3
        try clear c3b0
        try clear c3b1
        try clear c4
        try clear c4b0
        try clear c5
        try clear c5b0
        try clear c7
        try clear c7b0
        try clear c7b1
        try clear hx215_0
        try clear hx215_1
        try clear hx215_2
        try clear p2
        try clear p215
        try clear q215
        obtain ⟨x10_2,rfl,HA,HK2,HO_6,HB⟩:=hrel
        cases gk with
        |zero=>exact absurd HA.out (by simp [AX.l1])
        | succ k2 =>
         have H:=HA.out
         clear HA
         simp only [AX.l1] at H
         by_cases c10:x10_2>0
         ·rw [if_pos c10] at H
          have c10b0:decide (0<x10_2)=true:=decide_eq_true c10
          clear c10
          by_cases c11:0≤x7_1
          ·rw [if_pos c11] at H
           have c11b0:decide (0≤x7_1)=true:=decide_eq_true c11
           clear c11
           by_cases c12:x7_1<(l0.length:Int)
           ·rw [if_pos c12] at H
            have c12b0:decide (x7_1<(l0.length:Int))=true:=decide_eq_true c12
            clear c12
            obtain ⟨ji13,hji13⟩:∃j_:Int,(wrap64 (x10_2-1))=j_:=⟨_,rfl⟩
            replace H:(if 0≤(ji13) then (if (ji13)<(x6_1.length:Int) then ((An.f k2 ((AW l0 x7_1).f0) ((AW l0 x7_1).f1) ((AW l0 x7_1).f2) ((AW x6_1 (ji13)).f0) ((AW x6_1 (ji13)).f1) ((AW x6_1 (ji13)).f2)).bind fun t220=>(if t220=true then (AX.l1 k2 l0 a1 x6_1 x7_1 ji13) else ((BQ.f x6_1 x10_2 ((AW l0 x7_1).f0) ((AW l0 x7_1).f1) ((AW l0 x7_1).f2)).bind fun t222=>(AX.l0 k2 l0 a1 t222 (wrap64 (x7_1+1)))))) else (none)) else (none))=some (r1,r2):=by first|(rw [hji13] at H; exact H)|(simp only [hji13] at H ⊢; exact H)
            have hji13w:(IntKind.i64.wrap (x10_2-1))=ji13:=(AL _).trans hji13
            by_cases c14:0≤(ji13)
            ·rw [if_pos c14] at H
             have c14b0:decide (0≤(ji13))=true:=decide_eq_true c14
             clear c14
             by_cases c15:(ji13)<(x6_1.length:Int)
             ·rw [if_pos c15] at H
              have c15b0:decide ((ji13)<(x6_1.length:Int))=true:=decide_eq_true c15
              clear c15
              replace H:=Option.bind_eq_some_iff.mp H
              obtain ⟨t220,A160,H⟩:=H
              replace H:(if t220=true then (AX.l1 k2 l0 a1 x6_1 x7_1 ji13) else ((BQ.f x6_1 x10_2 ((AW l0 x7_1).f0) ((AW l0 x7_1).f1) ((AW l0 x7_1).f2)).bind fun t222=>(AX.l0 k2 l0 a1 t222 (wrap64 (x7_1+1)))))=some (r1,r2):=H
              have A16:=Aside0.mk A160
              clear A160
              by_cases c17:t220=true
              ·subst c17
               have H1:(AX.l1 k2 l0 a1 x6_1 x7_1 ji13)=some (r1,r2):=by rw [if_pos rfl] at H; exact H
               clear H
               have H:=H1
               clear H1
               have H':=Aside0.mk H
               clear H
               try go_wp2
               have n0_:=Aside0.mk (Kd.R_drew HO_6.out)
               have n1_:=Aside0.mk (AH HB.out)
               clear HO_6
               clear HB
               have HO_6:=n0_
               have HB:=n1_
               clear n0_ n1_
               have p218:0≤(x7_1:Int):=of_decide_eq_true (by first|(with_reducible assumption)|assumption)
               have q218:x7_1<(l0.length:Int):=of_decide_eq_true (by first|(with_reducible assumption)|assumption)
               obtain ⟨ad218,e218,hx218_0,hx218_1,hx218_2⟩:=BG HR0.out x7_1 p218 q218
               have hw218_2:=hx218_2
               have hw218_1:=hx218_1
               have hw218_0:=hx218_0
               obtain rfl:ad215=ad218:=(by injection e218)
               replace hx218_0:=(HB.out.cell (World.block_lt_of_cell? w _ hx218_0)).trans hx218_0
               replace hx218_1:=(HB.out.cell (World.block_lt_of_cell? w _ hx218_1)).trans hx218_1
               replace hx218_2:=(HB.out.cell (World.block_lt_of_cell? w _ hx218_2)).trans hx218_2
               replace p218:=eq_true p218
               replace q218:=eq_true q218
               have p219:0≤((ji13):Int):=of_decide_eq_true (by first|(with_reducible assumption)|assumption)
               have q219:(ji13)<(x6_1.length:Int):=of_decide_eq_true (by first|(with_reducible assumption)|assumption)
               obtain ⟨ad219,e219,hx219_0,hx219_1,hx219_2⟩:=BG (Kd.R_reads' HO_6.out).2.2 (ji13) p219 q219
               cases e219
               replace p219:=eq_true p219
               replace q219:=eq_true q219
               refine BR (n:=14) (S:=fun w'=>w'.cell? (ad215.add ((x7_1).toNat*3))=some (.int .i64 ((AW l0 x7_1).f0))∧w'.cell? ⟨(ad215.add ((x7_1).toNat*3)).block,(ad215.add ((x7_1).toNat*3)).off+1,none⟩=some (.int .i64 ((AW l0 x7_1).f1))∧w'.cell? ⟨(ad215.add ((x7_1).toNat*3)).block,(ad215.add ((x7_1).toNat*3)).off+2,none⟩=some (.int .i64 ((AW l0 x7_1).f2))∧w'.cell? (ad219.add (((ji13)).toNat*3))=some (.int .i64 ((AW x6_1 (ji13)).f0))∧w'.cell? ⟨(ad219.add (((ji13)).toNat*3)).block,(ad219.add (((ji13)).toNat*3)).off+1,none⟩=some (.int .i64 ((AW x6_1 (ji13)).f1))∧w'.cell? ⟨(ad219.add (((ji13)).toNat*3)).block,(ad219.add (((ji13)).toNat*3)).off+2,none⟩=some (.int .i64 ((AW x6_1 (ji13)).f2))) (ds:=[]) #[false,false,false,false,false,false,false,false,false,false,false,false,false,false] (by kernel_rfl) rfl rfl ⟨((HB.out.cell (World.block_lt_of_cell? w _ hw218_0)).trans hw218_0),((HB.out.cell (World.block_lt_of_cell? w _ hw218_1)).trans hw218_1),((HB.out.cell (World.block_lt_of_cell? w _ hw218_2)).trans hw218_2),hx219_0,hx219_1,hx219_2⟩ (fun hHeld=> ?_); refine B4 AX.tab11 AX.bits11 (fun HT_ HW_=> ?_)
               generalize wr.drew=w18 at HO_6 HB hx218_0 hx218_1 hx218_2 hx219_0 hx219_1 hx219_2 hHeld ⊢
               refine AO (i:=0) (N:=some 38) (v:= ?_) (a':= ?_) #[true,false,false,false,false,false,false,false,false,false,false,false,false,false] rfl rfl (AK HT_.out (by kernel_rfl)) (fun _ _ _ h=>h) (Or.inl ⟨by rfl,?_⟩) ?_ ?_
               rotate_left
               ·intro w'
                go_simp
                with_reducible rfl
               rotate_left
               ·simp only [Act.put,List.setIfInBounds_toArray,List.set_cons_zero,List.set_cons_succ,AL,AM]
                rfl
               refine AO (i:=1) (N:=some 39) (v:= ?_) (a':= ?_) #[true,true,false,false,false,false,false,false,false,false,false,false,false,false] rfl rfl (AK HT_.out (by kernel_rfl)) (fun _ _ _ h=>h) (Or.inl ⟨by rfl,?_⟩) ?_ ?_
               rotate_left
               ·intro w'
                go_simp
                with_reducible rfl
               rotate_left
               ·simp only [Act.put,List.setIfInBounds_toArray,List.set_cons_zero,List.set_cons_succ,AL,AM]
                rfl
               refine AO (i:=2) (N:=some 40) (v:= ?_) (a':= ?_) #[true,true,true,false,false,false,false,false,false,false,false,false,false,false] rfl rfl (AK HT_.out (by kernel_rfl)) (fun _ _ _ h=>h) (Or.inl ⟨by rfl,?_⟩) ?_ ?_
               rotate_left
               ·intro w'
                go_simp
                with_reducible rfl
               rotate_left
               ·simp only [Act.put,List.setIfInBounds_toArray,List.set_cons_zero,List.set_cons_succ,AL,AM]
                rfl
               refine AO (i:=3) (N:=some 41) (v:= ?_) (a':= ?_) #[true,true,true,true,false,false,false,false,false,false,false,false,false,false] rfl rfl (AK HT_.out (by kernel_rfl)) (fun _ _ _ h=>h) (Or.inl ⟨by rfl,?_⟩) ?_ ?_
               rotate_left
               ·intro w'
                go_simp
                with_reducible rfl
               rotate_left
               ·simp only [Act.put,List.setIfInBounds_toArray,List.set_cons_zero,List.set_cons_succ,AL,AM]
                rfl
               refine AO (i:=4) (N:=some 42) (v:= ?_) (a':= ?_) #[true,true,true,true,true,false,false,false,false,false,false,false,false,false] rfl rfl (AK HT_.out (by kernel_rfl)) (fun _ _ _ h=>h) (Or.inl ⟨by rfl,?_⟩) ?_ ?_
               rotate_left
               ·intro w'
                go_simp
                with_reducible rfl
               rotate_left
               ·simp only [Act.put,List.setIfInBounds_toArray,List.set_cons_zero,List.set_cons_succ,AL,AM]
                rfl
               refine AO (i:=5) (N:=some 43) (v:= ?_) (a':= ?_) #[true,true,true,true,true,true,false,false,false,false,false,false,false,false] rfl rfl (AK HT_.out (by kernel_rfl)) (fun _ _ _ h=>h) (Or.inl ⟨by rfl,?_⟩) ?_ ?_
               rotate_left
               ·intro w'
                go_simp
                with_reducible rfl
               rotate_left
               ·simp only [Act.put,List.setIfInBounds_toArray,List.set_cons_zero,List.set_cons_succ,AL,AM]
                rfl
               refine AO (i:=7) (N:=some 45) (v:= ?_) (a':= ?_) #[true,true,true,true,true,true,false,true,false,false,false,false,false,false] rfl rfl (AK HT_.out (by kernel_rfl)) (fun _ _ _ h=>h) (Or.inl ⟨by rfl,?_⟩) ?_ ?_
               rotate_left
               ·intro w'
                go_simp
                with_reducible rfl
               rotate_left
               ·simp only [Act.put,List.setIfInBounds_toArray,List.set_cons_zero,List.set_cons_succ,AL,AM]
                rfl
               refine AO (i:=8) (N:=some 46) (v:= ?_) (a':= ?_) #[true,true,true,true,true,true,false,true,true,false,false,false,false,false] rfl rfl (AK HT_.out (by kernel_rfl)) (fun _ _ _ h=>h) (Or.inl ⟨by rfl,?_⟩) ?_ ?_
               rotate_left
               ·intro w'
                go_simp
                with_reducible rfl
               rotate_left
               ·simp only [Act.put,List.setIfInBounds_toArray,List.set_cons_zero,List.set_cons_succ,AL,AM]
                rfl
               refine AO (i:=9) (N:=some 47) (v:= ?_) (a':= ?_) #[true,true,true,true,true,true,false,true,true,true,false,false,false,false] rfl rfl (AK HT_.out (by kernel_rfl)) (fun _ _ _ h=>h) (Or.inl ⟨by rfl,?_⟩) ?_ ?_
               rotate_left
               ·intro w'
                go_simp
                with_reducible rfl
               rotate_left
               ·simp only [Act.put,List.setIfInBounds_toArray,List.set_cons_zero,List.set_cons_succ,AL,AM]
                rfl
               refine AO (i:=10) (N:=some 48) (v:= ?_) (a':= ?_) #[true,true,true,true,true,true,false,true,true,true,true,false,false,false] rfl rfl (AK HT_.out (by kernel_rfl)) (fun _ _ _ h=>h) (Or.inl ⟨by rfl,?_⟩) ?_ ?_
               rotate_left
               ·intro w'
                go_simp
                with_reducible rfl
               rotate_left
               ·simp only [Act.put,List.setIfInBounds_toArray,List.set_cons_zero,List.set_cons_succ,AL,AM]
                rfl
               refine Aw (i:=6) (N:=some 44) (v:= ?_) (a':= ?_) #[true,true,true,true,true,true,true,true,true,true,true,false,false,false] rfl rfl (Ak HT_.out HW_.out (by kernel_rfl)) (fun _ _ _ h=>h) (Or.inl ⟨by rfl,?_⟩) hHeld ?_ ?_
               rotate_left
               ·rintro w' ⟨s0,s1,s2,s3,s4,s5⟩
                go_simp
                with_reducible rfl
               rotate_left
               ·simp only [Act.put,List.setIfInBounds_toArray,List.set_cons_zero,List.set_cons_succ,AL,AM]
                rfl
               refine Aw (i:=11) (N:=some 49) (v:= ?_) (a':= ?_) #[true,true,true,true,true,true,true,true,true,true,true,true,false,false] rfl rfl (Ak HT_.out HW_.out (by kernel_rfl)) (fun _ _ _ h=>h) (Or.inl ⟨by rfl,?_⟩) hHeld ?_ ?_
               rotate_left
               ·rintro w' ⟨s0,s1,s2,s3,s4,s5⟩
                go_simp
                with_reducible rfl
               rotate_left
               ·simp only [Act.put,List.setIfInBounds_toArray,List.set_cons_zero,List.set_cons_succ,AL,AM]
                rfl
               refine one_ (i:=12) (N:=some 50) #[true,true,true,true,true,true,true,true,true,true,true,true,true,false] rfl rfl (B7 HT_.out (by kernel_rfl)) (by decide) (fun K hK=> ?_)
               refine BW Tryd.func28 (by kernel_rfl) rfl #[.agg #[.int .i64 ((AW l0 x7_1).f0),.int .i64 ((AW l0 x7_1).f1),.int .i64 ((AW l0 x7_1).f2)],.agg #[.int .i64 ((AW x6_1 (ji13)).f0),.int .i64 ((AW x6_1 (ji13)).f1),.int .i64 ((AW x6_1 (ji13)).f2)]] (by rfl) rfl rfl (by (try simp only [List.map_toArray,List.map_cons,List.map_nil]); first|done|(simp only [hji13]; rfl)|rfl|(simp only [List.length_drop,List.length_take]; rfl)) ?_
               with_reducible refine (An.calls k2 ((AW l0 x7_1).f0) ((AW l0 x7_1).f1) ((AW l0 x7_1).f2) ((AW x6_1 (ji13)).f0) ((AW x6_1 (ji13)).f1) ((AW x6_1 (ji13)).f2) true _ A16.out).mono ?_
               rintro e w19 ⟨rfl,hb⟩
               have HS3_:=(hb.cell (World.block_lt_of_cell? _ _ (hHeld.2.2.2.1))).trans (hHeld.2.2.2.1)
               have HS4_:=(hb.cell (World.block_lt_of_cell? _ _ (hHeld.2.2.2.2.1))).trans (hHeld.2.2.2.2.1)
               have HS5_:=(hb.cell (World.block_lt_of_cell? _ _ (hHeld.2.2.2.2.2))).trans (hHeld.2.2.2.2.2)
               refine ⟨_,rfl,?_⟩
               have n0_:=Aside0.mk (Kd.R_below (by (with_reducible repeat (first|apply Kd.R_alloc|apply Kd.R_drewN|apply Kd.R_drew)); exact HO_6.out) hb)
               have n1_:=Aside0.mk (AP (by repeat (first|(with_reducible first|exact HB.out|apply AI|apply AG|apply AH)|exact HB.out)) hb)
               clear HO_6
               clear HB
               have HO_6:=n0_
               have HB:=n1_
               clear n0_ n1_
               (try clear hb)
               (try clear hb2)
               (try clear hk)
               (try clear hi)
               refine hK.out _ _ ⟨((HB.out.cell (World.block_lt_of_cell? w _ hw218_0)).trans hw218_0),((HB.out.cell (World.block_lt_of_cell? w _ hw218_1)).trans hw218_1),((HB.out.cell (World.block_lt_of_cell? w _ hw218_2)).trans hw218_2),HS3_,HS4_,HS5_⟩ (fun hHeld=> ?_)
               clear hK K
               refine B8 (a':= ?_) ?_ ?_
               rotate_left
               ·show Act.put _ (some 50) _=_
                simp only [Act.put,List.setIfInBounds_toArray,List.set_cons_zero,List.set_cons_succ,AL,AM]
                rfl
               refine AO (i:=13) (N:=some 51) (v:= ?_) (a':= ?_) #[true,true,true,true,true,true,true,true,true,true,true,true,true,true] rfl rfl (AK HT_.out (by kernel_rfl)) (fun _ _ _ h=>h) (Or.inl ⟨by rfl,?_⟩) ?_ ?_
               rotate_left
               ·intro w'
                go_simp
                with_reducible rfl
               rotate_left
               ·simp only [Act.put,List.setIfInBounds_toArray,List.set_cons_zero,List.set_cons_succ,AL,AM]
                rfl
               refine Bb (BA HT_.out (by kernel_rfl)) ?_
               try go_wp2
               go_roundg k2
               case measure=>have:=HK1.out; have:=HK2.out; omega
               case rel=>exact ⟨(ji13),(by first|rfl|(simp; done)|(simp only [←hji13]<;>(first|rfl|simp))|(simp [*]; done)),H',⟨by have:=HK1.out; have:=HK2.out; omega⟩,⟨by (with_reducible repeat (first|apply Kd.R_alloc|apply Kd.R_drewN|apply Kd.R_drew)); exact HO_6.out⟩,⟨by repeat (first|(with_reducible first|exact HB.out|apply AI|apply AG|apply AH)|exact HB.out)⟩⟩
              ·replace c17:=Bool.eq_false_iff.mpr c17
               subst c17
               have H1:((BQ.f x6_1 x10_2 ((AW l0 x7_1).f0) ((AW l0 x7_1).f1) ((AW l0 x7_1).f2)).bind fun t222=>(AX.l0 k2 l0 a1 t222 (wrap64 (x7_1+1))))=some (r1,r2):=by rw [if_neg (show ¬(false=true) by decide)] at H; exact H
               clear H
               have H:=H1
               clear H1
               replace H:=Option.bind_eq_some_iff.mp H
               obtain ⟨t222,A200,H⟩:=H
               replace H:(AX.l0 k2 l0 a1 t222 (wrap64 (x7_1+1)))=some (r1,r2):=H
               have A20:=Aside0.mk A200
               clear A200
               have H':=Aside0.mk H
               clear H
               try go_wp2
               have n0_:=Aside0.mk (Kd.R_drew HO_6.out)
               have n1_:=Aside0.mk (AH HB.out)
               clear HO_6
               clear HB
               have HO_6:=n0_
               have HB:=n1_
               clear n0_ n1_
               have p218:0≤(x7_1:Int):=of_decide_eq_true (by first|(with_reducible assumption)|assumption)
               have q218:x7_1<(l0.length:Int):=of_decide_eq_true (by first|(with_reducible assumption)|assumption)
               obtain ⟨ad218,e218,hx218_0,hx218_1,hx218_2⟩:=BG HR0.out x7_1 p218 q218
               have hw218_2:=hx218_2
               have hw218_1:=hx218_1
               have hw218_0:=hx218_0
               obtain rfl:ad215=ad218:=(by injection e218)
               replace hx218_0:=(HB.out.cell (World.block_lt_of_cell? w _ hx218_0)).trans hx218_0
               replace hx218_1:=(HB.out.cell (World.block_lt_of_cell? w _ hx218_1)).trans hx218_1
               replace hx218_2:=(HB.out.cell (World.block_lt_of_cell? w _ hx218_2)).trans hx218_2
               replace p218:=eq_true p218
               replace q218:=eq_true q218
               have p219:0≤((ji13):Int):=of_decide_eq_true (by first|(with_reducible assumption)|assumption)
               have q219:(ji13)<(x6_1.length:Int):=of_decide_eq_true (by first|(with_reducible assumption)|assumption)
               obtain ⟨ad219,e219,hx219_0,hx219_1,hx219_2⟩:=BG (Kd.R_reads' HO_6.out).2.2 (ji13) p219 q219
               cases e219
               replace p219:=eq_true p219
               replace q219:=eq_true q219
               refine BR (n:=14) (S:=fun w'=>w'.cell? (ad215.add ((x7_1).toNat*3))=some (.int .i64 ((AW l0 x7_1).f0))∧w'.cell? ⟨(ad215.add ((x7_1).toNat*3)).block,(ad215.add ((x7_1).toNat*3)).off+1,none⟩=some (.int .i64 ((AW l0 x7_1).f1))∧w'.cell? ⟨(ad215.add ((x7_1).toNat*3)).block,(ad215.add ((x7_1).toNat*3)).off+2,none⟩=some (.int .i64 ((AW l0 x7_1).f2))∧w'.cell? (ad219.add (((ji13)).toNat*3))=some (.int .i64 ((AW x6_1 (ji13)).f0))∧w'.cell? ⟨(ad219.add (((ji13)).toNat*3)).block,(ad219.add (((ji13)).toNat*3)).off+1,none⟩=some (.int .i64 ((AW x6_1 (ji13)).f1))∧w'.cell? ⟨(ad219.add (((ji13)).toNat*3)).block,(ad219.add (((ji13)).toNat*3)).off+2,none⟩=some (.int .i64 ((AW x6_1 (ji13)).f2))) (ds:=[]) #[false,false,false,false,false,false,false,false,false,false,false,false,false,false] (by kernel_rfl) rfl rfl ⟨((HB.out.cell (World.block_lt_of_cell? w _ hw218_0)).trans hw218_0),((HB.out.cell (World.block_lt_of_cell? w _ hw218_1)).trans hw218_1),((HB.out.cell (World.block_lt_of_cell? w _ hw218_2)).trans hw218_2),hx219_0,hx219_1,hx219_2⟩ (fun hHeld=> ?_); refine B4 AX.tab11 AX.bits11 (fun HT_ HW_=> ?_)
               generalize wr.drew=w21 at HO_6 HB hx218_0 hx218_1 hx218_2 hx219_0 hx219_1 hx219_2 hHeld ⊢
               refine AO (i:=0) (N:=some 38) (v:= ?_) (a':= ?_) #[true,false,false,false,false,false,false,false,false,false,false,false,false,false] rfl rfl (AK HT_.out (by kernel_rfl)) (fun _ _ _ h=>h) (Or.inl ⟨by rfl,?_⟩) ?_ ?_
               rotate_left
               ·intro w'
                go_simp
                with_reducible rfl
               rotate_left
               ·simp only [Act.put,List.setIfInBounds_toArray,List.set_cons_zero,List.set_cons_succ,AL,AM]
                rfl
               refine AO (i:=1) (N:=some 39) (v:= ?_) (a':= ?_) #[true,true,false,false,false,false,false,false,false,false,false,false,false,false] rfl rfl (AK HT_.out (by kernel_rfl)) (fun _ _ _ h=>h) (Or.inl ⟨by rfl,?_⟩) ?_ ?_
               rotate_left
               ·intro w'
                go_simp
                with_reducible rfl
               rotate_left
               ·simp only [Act.put,List.setIfInBounds_toArray,List.set_cons_zero,List.set_cons_succ,AL,AM]
                rfl
               refine AO (i:=2) (N:=some 40) (v:= ?_) (a':= ?_) #[true,true,true,false,false,false,false,false,false,false,false,false,false,false] rfl rfl (AK HT_.out (by kernel_rfl)) (fun _ _ _ h=>h) (Or.inl ⟨by rfl,?_⟩) ?_ ?_
               rotate_left
               ·intro w'
                go_simp
                with_reducible rfl
               rotate_left
               ·simp only [Act.put,List.setIfInBounds_toArray,List.set_cons_zero,List.set_cons_succ,AL,AM]
                rfl
               refine AO (i:=3) (N:=some 41) (v:= ?_) (a':= ?_) #[true,true,true,true,false,false,false,false,false,false,false,false,false,false] rfl rfl (AK HT_.out (by kernel_rfl)) (fun _ _ _ h=>h) (Or.inl ⟨by rfl,?_⟩) ?_ ?_
               rotate_left
               ·intro w'
                go_simp
                with_reducible rfl
               rotate_left
               ·simp only [Act.put,List.setIfInBounds_toArray,List.set_cons_zero,List.set_cons_succ,AL,AM]
                rfl
               refine AO (i:=4) (N:=some 42) (v:= ?_) (a':= ?_) #[true,true,true,true,true,false,false,false,false,false,false,false,false,false] rfl rfl (AK HT_.out (by kernel_rfl)) (fun _ _ _ h=>h) (Or.inl ⟨by rfl,?_⟩) ?_ ?_
               rotate_left
               ·intro w'
                go_simp
                with_reducible rfl
               rotate_left
               ·simp only [Act.put,List.setIfInBounds_toArray,List.set_cons_zero,List.set_cons_succ,AL,AM]
                rfl
               refine AO (i:=5) (N:=some 43) (v:= ?_) (a':= ?_) #[true,true,true,true,true,true,false,false,false,false,false,false,false,false] rfl rfl (AK HT_.out (by kernel_rfl)) (fun _ _ _ h=>h) (Or.inl ⟨by rfl,?_⟩) ?_ ?_
               rotate_left
               ·intro w'
                go_simp
                with_reducible rfl
               rotate_left
               ·simp only [Act.put,List.setIfInBounds_toArray,List.set_cons_zero,List.set_cons_succ,AL,AM]
                rfl
               refine AO (i:=7) (N:=some 45) (v:= ?_) (a':= ?_) #[true,true,true,true,true,true,false,true,false,false,false,false,false,false] rfl rfl (AK HT_.out (by kernel_rfl)) (fun _ _ _ h=>h) (Or.inl ⟨by rfl,?_⟩) ?_ ?_
               rotate_left
               ·intro w'
                go_simp
                with_reducible rfl
               rotate_left
               ·simp only [Act.put,List.setIfInBounds_toArray,List.set_cons_zero,List.set_cons_succ,AL,AM]
                rfl
               refine AO (i:=8) (N:=some 46) (v:= ?_) (a':= ?_) #[true,true,true,true,true,true,false,true,true,false,false,false,false,false] rfl rfl (AK HT_.out (by kernel_rfl)) (fun _ _ _ h=>h) (Or.inl ⟨by rfl,?_⟩) ?_ ?_
               rotate_left
               ·intro w'
                go_simp
                with_reducible rfl
               rotate_left
               ·simp only [Act.put,List.setIfInBounds_toArray,List.set_cons_zero,List.set_cons_succ,AL,AM]
                rfl
               refine AO (i:=9) (N:=some 47) (v:= ?_) (a':= ?_) #[true,true,true,true,true,true,false,true,true,true,false,false,false,false] rfl rfl (AK HT_.out (by kernel_rfl)) (fun _ _ _ h=>h) (Or.inl ⟨by rfl,?_⟩) ?_ ?_
               rotate_left
               ·intro w'
                go_simp
                with_reducible rfl
               rotate_left
               ·simp only [Act.put,List.setIfInBounds_toArray,List.set_cons_zero,List.set_cons_succ,AL,AM]
                rfl
               refine AO (i:=10) (N:=some 48) (v:= ?_) (a':= ?_) #[true,true,true,true,true,true,false,true,true,true,true,false,false,false] rfl rfl (AK HT_.out (by kernel_rfl)) (fun _ _ _ h=>h) (Or.inl ⟨by rfl,?_⟩) ?_ ?_
               rotate_left
               ·intro w'
                go_simp
                with_reducible rfl
               rotate_left
               ·simp only [Act.put,List.setIfInBounds_toArray,List.set_cons_zero,List.set_cons_succ,AL,AM]
                rfl
               refine Aw (i:=6) (N:=some 44) (v:= ?_) (a':= ?_) #[true,true,true,true,true,true,true,true,true,true,true,false,false,false] rfl rfl (Ak HT_.out HW_.out (by kernel_rfl)) (fun _ _ _ h=>h) (Or.inl ⟨by rfl,?_⟩) hHeld ?_ ?_
               rotate_left
               ·rintro w' ⟨s0,s1,s2,s3,s4,s5⟩
                go_simp
                with_reducible rfl
               rotate_left
               ·simp only [Act.put,List.setIfInBounds_toArray,List.set_cons_zero,List.set_cons_succ,AL,AM]
                rfl
               refine Aw (i:=11) (N:=some 49) (v:= ?_) (a':= ?_) #[true,true,true,true,true,true,true,true,true,true,true,true,false,false] rfl rfl (Ak HT_.out HW_.out (by kernel_rfl)) (fun _ _ _ h=>h) (Or.inl ⟨by rfl,?_⟩) hHeld ?_ ?_
               rotate_left
               ·rintro w' ⟨s0,s1,s2,s3,s4,s5⟩
                go_simp
                with_reducible rfl
               rotate_left
               ·simp only [Act.put,List.setIfInBounds_toArray,List.set_cons_zero,List.set_cons_succ,AL,AM]
                rfl
               refine one_ (i:=12) (N:=some 50) #[true,true,true,true,true,true,true,true,true,true,true,true,true,false] rfl rfl (B7 HT_.out (by kernel_rfl)) (by decide) (fun K hK=> ?_)
               refine BW Tryd.func28 (by kernel_rfl) rfl #[.agg #[.int .i64 ((AW l0 x7_1).f0),.int .i64 ((AW l0 x7_1).f1),.int .i64 ((AW l0 x7_1).f2)],.agg #[.int .i64 ((AW x6_1 (ji13)).f0),.int .i64 ((AW x6_1 (ji13)).f1),.int .i64 ((AW x6_1 (ji13)).f2)]] (by rfl) rfl rfl (by (try simp only [List.map_toArray,List.map_cons,List.map_nil]); first|done|(simp only [hji13]; rfl)|rfl|(simp only [List.length_drop,List.length_take]; rfl)) ?_
               with_reducible refine (An.calls k2 ((AW l0 x7_1).f0) ((AW l0 x7_1).f1) ((AW l0 x7_1).f2) ((AW x6_1 (ji13)).f0) ((AW x6_1 (ji13)).f1) ((AW x6_1 (ji13)).f2) false _ A16.out).mono ?_
               rintro e w22 ⟨rfl,hb⟩
               have HS3_:=(hb.cell (World.block_lt_of_cell? _ _ (hHeld.2.2.2.1))).trans (hHeld.2.2.2.1)
               have HS4_:=(hb.cell (World.block_lt_of_cell? _ _ (hHeld.2.2.2.2.1))).trans (hHeld.2.2.2.2.1)
               have HS5_:=(hb.cell (World.block_lt_of_cell? _ _ (hHeld.2.2.2.2.2))).trans (hHeld.2.2.2.2.2)
               refine ⟨_,rfl,?_⟩
               have n0_:=Aside0.mk (Kd.R_below (by (with_reducible repeat (first|apply Kd.R_alloc|apply Kd.R_drewN|apply Kd.R_drew)); exact HO_6.out) hb)
               have n1_:=Aside0.mk (AP (by repeat (first|(with_reducible first|exact HB.out|apply AI|apply AG|apply AH)|exact HB.out)) hb)
               clear HO_6
               clear HB
               have HO_6:=n0_
               have HB:=n1_
               clear n0_ n1_
               (try clear hb)
               (try clear hb2)
               (try clear hk)
               (try clear hi)
               refine hK.out _ _ ⟨((HB.out.cell (World.block_lt_of_cell? w _ hw218_0)).trans hw218_0),((HB.out.cell (World.block_lt_of_cell? w _ hw218_1)).trans hw218_1),((HB.out.cell (World.block_lt_of_cell? w _ hw218_2)).trans hw218_2),HS3_,HS4_,HS5_⟩ (fun hHeld=> ?_)
               clear hK K
               refine B8 (a':= ?_) ?_ ?_
               rotate_left
               ·show Act.put _ (some 50) _=_
                simp only [Act.put,List.setIfInBounds_toArray,List.set_cons_zero,List.set_cons_succ,AL,AM]
                rfl
               refine AO (i:=13) (N:=some 51) (v:= ?_) (a':= ?_) #[true,true,true,true,true,true,true,true,true,true,true,true,true,true] rfl rfl (AK HT_.out (by kernel_rfl)) (fun _ _ _ h=>h) (Or.inl ⟨by rfl,?_⟩) ?_ ?_
               rotate_left
               ·intro w'
                go_simp
                with_reducible rfl
               rotate_left
               ·simp only [Act.put,List.setIfInBounds_toArray,List.set_cons_zero,List.set_cons_succ,AL,AM]
                rfl
               refine Bb (BA HT_.out (by kernel_rfl)) ?_
               have p221:0≤(x7_1:Int):=of_decide_eq_true (by first|(with_reducible assumption)|assumption)
               have q221:x7_1<(l0.length:Int):=of_decide_eq_true (by first|(with_reducible assumption)|assumption)
               obtain ⟨ad221,e221,hx221_0,hx221_1,hx221_2⟩:=BG HR0.out x7_1 p221 q221
               obtain rfl:ad215=ad221:=(by injection e221)
               replace hx221_0:=(HB.out.cell (World.block_lt_of_cell? w _ hx221_0)).trans hx221_0
               replace hx221_1:=(HB.out.cell (World.block_lt_of_cell? w _ hx221_1)).trans hx221_1
               replace hx221_2:=(HB.out.cell (World.block_lt_of_cell? w _ hx221_2)).trans hx221_2
               replace p221:=eq_true p221
               replace q221:=eq_true q221
               try go_wp2_with fail
               have pq_:0≤(x7_1:Int):=of_decide_eq_true (by first|(with_reducible assumption)|assumption|(rw [decide_eq_true_eq]; assumption)|simp [*])
               have qq_:x7_1<(l0.length:Int):=of_decide_eq_true (by first|(with_reducible assumption)|assumption|simp [*])
               (try (obtain ⟨Ap_,cp_,ep_⟩:=Kd.R_slice HO_6.out; (first|subst ep_|(injection ep_ with f1_ f2_ f3_; have f4_:=f1_.symm; have f5_:=f3_.symm; clear f1_ f2_ f3_; subst f4_; subst f5_))))
               refine CO x10_2 x7_1 x6_1 t222 l0 _ _ _ _ _ _ _ _ _ _ _ _ _ _ _ _ _ _ _ _ _ _ _ _ _ _ _ _ _ _ _ _ _ _ _ _ _ _ _ _ _ _ _ _ _ _ _ _ _ _ _ _ _ _ _ _ _ _ _ _ _ _ _ _ _ _ _ _ _ _ _ _ _ _ _ _ _ _ _ _ _ _ _ _ _ _ _ _ _ _ _ _ (by (with_reducible repeat (first|apply Kd.R_alloc|apply Kd.R_drewN|apply Kd.R_drew)); exact HO_6.out) (by repeat (first|exact (Kd.C_below HR0.out HB.out)|(with_reducible refine Kd.C_alloc ?_ _)|(with_reducible refine Kd.C_drewN ?_ _)|(with_reducible refine Kd.C_drew ?_))) pq_ qq_ A20.out (fun _ _ _ _ _ h=>h) (fun v223 w23 _ _ _ _ _ _ _ _ _ _ _ _ _ _ _ ho hb=> ?_)
               clear pq_ qq_
               have n1_:=Aside0.mk (Kd.R_lower (base':=w.heap.size) ho (AT (AH (by repeat (first|(with_reducible first|exact HB.out|apply AI|apply AG|apply AH)|exact HB.out)))))
               have n3_:=Aside0.mk (AP (AH (by repeat (first|(with_reducible first|exact HB.out|apply AI|apply AG|apply AH)|exact HB.out))) hb)
               have n0_:=Aside0.mk (Kd.R_elder' (by (with_reducible repeat (first|apply Kd.R_alloc|apply Kd.R_drewN|apply Kd.R_drew)); exact HO_6.out) (Kd.R_base ho) hb)
               clear HO_6; clear HB; have HO_6:=n0_; have HO224:=n1_; have HB:=n3_; clear n0_ n1_ n3_; clear ho hb
               go_wp2
               go_roundg k2
               case measure=>have:=HK1.out; have:=HK2.out; omega
               case rel=>exact ⟨(t222),(wrap64 (x7_1+1)),(by first|rfl|(simp; done)|(simp [*]; done)),H',⟨by have:=HK1.out; have:=HK2.out; omega⟩,⟨by (with_reducible repeat (first|apply Kd.R_alloc|apply Kd.R_drewN|apply Kd.R_drew)); exact Kd.R_mono HO224.out (fun _ hk=>trivial)⟩,⟨by repeat (first|(with_reducible first|exact HB.out|apply AI|apply AG|apply AH)|exact HB.out)⟩⟩
             ·rw [if_neg c15] at H
              exact absurd H (by simp)
            ·rw [if_neg c14] at H
             exact absurd H (by simp)
           ·rw [if_neg c12] at H
            exact absurd H (by simp)
          ·rw [if_neg c11] at H
           exact absurd H (by simp)
         ·rw [if_neg c10] at H
          have c10b0:decide (0<x10_2)=false:=decide_eq_false c10
          clear c10
          by_cases c24:0≤x7_1
          ·rw [if_pos c24] at H
           have c24b0:decide (0≤x7_1)=true:=decide_eq_true c24
           clear c24
           by_cases c25:x7_1<(l0.length:Int)
           ·rw [if_pos c25] at H
            have c25b0:decide (x7_1<(l0.length:Int))=true:=decide_eq_true c25
            clear c25
            replace H:=Option.bind_eq_some_iff.mp H
            obtain ⟨t226,A260,H⟩:=H
            replace H:(AX.l0 k2 l0 a1 t226 (wrap64 (x7_1+1)))=some (r1,r2):=H
            have A26:=Aside0.mk A260
            clear A260
            have H':=Aside0.mk H
            clear H
            try go_wp2
            have n0_:=Aside0.mk (Kd.R_drew HO_6.out)
            have n1_:=Aside0.mk (AH HB.out)
            clear HO_6
            clear HB
            have HO_6:=n0_
            have HB:=n1_
            clear n0_ n1_
            refine BR (n:=14) (S:=fun w'=>True) (ds:=[]) #[false,false,false,false,false,false,false,false,false,false,false,false,false,false] (by kernel_rfl) rfl rfl trivial (fun hHeld=> ?_); refine B4 AX.tab11 AX.bits11 (fun HT_ HW_=> ?_)
            generalize wr.drew=w27 at HO_6 HB hHeld ⊢
            refine AO (i:=0) (N:=some 38) (v:= ?_) (a':= ?_) #[true,false,false,false,false,false,false,false,false,false,false,false,false,false] rfl rfl (AK HT_.out (by kernel_rfl)) (fun _ _ _ h=>h) (Or.inl ⟨by rfl,?_⟩) ?_ ?_
            rotate_left
            ·intro w'
             go_simp
             with_reducible rfl
            rotate_left
            ·simp only [Act.put,List.setIfInBounds_toArray,List.set_cons_zero,List.set_cons_succ,AL,AM]
             rfl
            refine AO (i:=1) (N:=some 39) (v:= ?_) (a':= ?_) #[true,true,false,false,false,false,false,false,false,false,false,false,false,false] rfl rfl (AK HT_.out (by kernel_rfl)) (fun _ _ _ h=>h) (Or.inl ⟨by rfl,?_⟩) ?_ ?_
            rotate_left
            ·intro w'
             go_simp
             with_reducible rfl
            rotate_left
            ·simp only [Act.put,List.setIfInBounds_toArray,List.set_cons_zero,List.set_cons_succ,AL,AM]
             rfl
            refine AO (i:=2) (N:=some 40) (v:= ?_) (a':= ?_) #[true,true,true,false,false,false,false,false,false,false,false,false,false,false] rfl rfl (AK HT_.out (by kernel_rfl)) (fun _ _ _ h=>h) (Or.inl ⟨by rfl,?_⟩) ?_ ?_
            rotate_left
            ·intro w'
             go_simp
             with_reducible rfl
            rotate_left
            ·simp only [Act.put,List.setIfInBounds_toArray,List.set_cons_zero,List.set_cons_succ,AL,AM]
             rfl
            refine AO (i:=3) (N:=some 41) (v:=undef) (a':= ?_) #[true,true,true,true,false,false,false,false,false,false,false,false,false,false] rfl rfl (AK HT_.out (by kernel_rfl)) (fun _ _ _ h=>h) (Or.inr ⟨by rfl,rfl⟩) ?_ ?_
            rotate_left
            ·simp only [Act.put,List.setIfInBounds_toArray,List.set_cons_zero,List.set_cons_succ,AL,AM]
             rfl
            refine AO (i:=4) (N:=some 42) (v:=undef) (a':= ?_) #[true,true,true,true,true,false,false,false,false,false,false,false,false,false] rfl rfl (AK HT_.out (by kernel_rfl)) (fun _ _ _ h=>h) (Or.inr ⟨by rfl,rfl⟩) ?_ ?_
            rotate_left
            ·simp only [Act.put,List.setIfInBounds_toArray,List.set_cons_zero,List.set_cons_succ,AL,AM]
             rfl
            refine AO (i:=5) (N:=some 43) (v:=undef) (a':= ?_) #[true,true,true,true,true,true,false,false,false,false,false,false,false,false] rfl rfl (AK HT_.out (by kernel_rfl)) (fun _ _ _ h=>h) (Or.inr ⟨by rfl,rfl⟩) ?_ ?_
            rotate_left
            ·simp only [Act.put,List.setIfInBounds_toArray,List.set_cons_zero,List.set_cons_succ,AL,AM]
             rfl
            refine AO (i:=6) (N:=some 44) (v:=undef) (a':= ?_) #[true,true,true,true,true,true,true,false,false,false,false,false,false,false] rfl rfl (AK HT_.out (by kernel_rfl)) (fun _ _ _ h=>h) (Or.inr ⟨by rfl,rfl⟩) ?_ ?_
            rotate_left
            ·simp only [Act.put,List.setIfInBounds_toArray,List.set_cons_zero,List.set_cons_succ,AL,AM]
             rfl
            refine AO (i:=7) (N:=some 45) (v:=undef) (a':= ?_) #[true,true,true,true,true,true,true,true,false,false,false,false,false,false] rfl rfl (AK HT_.out (by kernel_rfl)) (fun _ _ _ h=>h) (Or.inr ⟨by rfl,rfl⟩) ?_ ?_
            rotate_left
            ·simp only [Act.put,List.setIfInBounds_toArray,List.set_cons_zero,List.set_cons_succ,AL,AM]
             rfl
            refine AO (i:=8) (N:=some 46) (v:=undef) (a':= ?_) #[true,true,true,true,true,true,true,true,true,false,false,false,false,false] rfl rfl (AK HT_.out (by kernel_rfl)) (fun _ _ _ h=>h) (Or.inr ⟨by rfl,rfl⟩) ?_ ?_
            rotate_left
            ·simp only [Act.put,List.setIfInBounds_toArray,List.set_cons_zero,List.set_cons_succ,AL,AM]
             rfl
            refine AO (i:=9) (N:=some 47) (v:=undef) (a':= ?_) #[true,true,true,true,true,true,true,true,true,true,false,false,false,false] rfl rfl (AK HT_.out (by kernel_rfl)) (fun _ _ _ h=>h) (Or.inr ⟨by rfl,rfl⟩) ?_ ?_
            rotate_left
            ·simp only [Act.put,List.setIfInBounds_toArray,List.set_cons_zero,List.set_cons_succ,AL,AM]
             rfl
            refine AO (i:=10) (N:=some 48) (v:=undef) (a':= ?_) #[true,true,true,true,true,true,true,true,true,true,true,false,false,false] rfl rfl (AK HT_.out (by kernel_rfl)) (fun _ _ _ h=>h) (Or.inr ⟨by rfl,rfl⟩) ?_ ?_
            rotate_left
            ·simp only [Act.put,List.setIfInBounds_toArray,List.set_cons_zero,List.set_cons_succ,AL,AM]
             rfl
            refine AO (i:=11) (N:=some 49) (v:=undef) (a':= ?_) #[true,true,true,true,true,true,true,true,true,true,true,true,false,false] rfl rfl (AK HT_.out (by kernel_rfl)) (fun _ _ _ h=>h) (Or.inr ⟨by rfl,rfl⟩) ?_ ?_
            rotate_left
            ·simp only [Act.put,List.setIfInBounds_toArray,List.set_cons_zero,List.set_cons_succ,AL,AM]
             rfl
            refine AO (i:=12) (N:=some 50) (v:=undef) (a':= ?_) #[true,true,true,true,true,true,true,true,true,true,true,true,true,false] rfl rfl (AK HT_.out (by kernel_rfl)) (fun _ _ _ h=>h) (Or.inr ⟨by rfl,rfl⟩) ?_ ?_
            rotate_left
            ·simp only [Act.put,List.setIfInBounds_toArray,List.set_cons_zero,List.set_cons_succ,AL,AM]
             rfl
            refine AO (i:=13) (N:=some 51) (v:= ?_) (a':= ?_) #[true,true,true,true,true,true,true,true,true,true,true,true,true,true] rfl rfl (AK HT_.out (by kernel_rfl)) (fun _ _ _ h=>h) (Or.inl ⟨by rfl,?_⟩) ?_ ?_
            rotate_left
            ·intro w'
             go_simp
             with_reducible rfl
            rotate_left
            ·simp only [Act.put,List.setIfInBounds_toArray,List.set_cons_zero,List.set_cons_succ,AL,AM]
             rfl
            refine Bb (BA HT_.out (by kernel_rfl)) ?_
            have p225:0≤(x7_1:Int):=of_decide_eq_true (by first|(with_reducible assumption)|assumption)
            have q225:x7_1<(l0.length:Int):=of_decide_eq_true (by first|(with_reducible assumption)|assumption)
            obtain ⟨ad225,e225,hx225_0,hx225_1,hx225_2⟩:=BG HR0.out x7_1 p225 q225
            obtain rfl:ad215=ad225:=(by injection e225)
            replace hx225_0:=(HB.out.cell (World.block_lt_of_cell? w _ hx225_0)).trans hx225_0
            replace hx225_1:=(HB.out.cell (World.block_lt_of_cell? w _ hx225_1)).trans hx225_1
            replace hx225_2:=(HB.out.cell (World.block_lt_of_cell? w _ hx225_2)).trans hx225_2
            replace p225:=eq_true p225
            replace q225:=eq_true q225
            try go_wp2_with fail
            have pq_:0≤(x7_1:Int):=of_decide_eq_true (by first|(with_reducible assumption)|assumption|(rw [decide_eq_true_eq]; assumption)|simp [*])
            have qq_:x7_1<(l0.length:Int):=of_decide_eq_true (by first|(with_reducible assumption)|assumption|simp [*])
            (try (obtain ⟨Ap_,cp_,ep_⟩:=Kd.R_slice HO_6.out; (first|subst ep_|(injection ep_ with f1_ f2_ f3_; have f4_:=f1_.symm; have f5_:=f3_.symm; clear f1_ f2_ f3_; subst f4_; subst f5_))))
            refine CO x10_2 x7_1 x6_1 t226 l0 _ _ _ _ _ _ _ _ _ _ _ _ _ _ _ _ _ _ _ _ _ _ _ _ _ _ _ _ _ _ _ _ _ _ _ _ _ _ _ _ _ _ _ _ _ _ _ _ _ _ _ _ _ _ _ _ _ _ _ _ _ _ _ _ _ _ _ _ _ _ _ _ _ _ _ _ _ _ _ _ _ _ _ _ _ _ _ _ _ _ _ _ (by (with_reducible repeat (first|apply Kd.R_alloc|apply Kd.R_drewN|apply Kd.R_drew)); exact HO_6.out) (by repeat (first|exact (Kd.C_below HR0.out HB.out)|(with_reducible refine Kd.C_alloc ?_ _)|(with_reducible refine Kd.C_drewN ?_ _)|(with_reducible refine Kd.C_drew ?_))) pq_ qq_ A26.out (fun _ _ _ _ _ h=>h) (fun v227 w28 _ _ _ _ _ _ _ _ _ _ _ _ _ _ _ ho hb=> ?_)
            clear pq_ qq_
            have n1_:=Aside0.mk (Kd.R_lower (base':=w.heap.size) ho (AT (AH (by repeat (first|(with_reducible first|exact HB.out|apply AI|apply AG|apply AH)|exact HB.out)))))
            have n3_:=Aside0.mk (AP (AH (by repeat (first|(with_reducible first|exact HB.out|apply AI|apply AG|apply AH)|exact HB.out))) hb)
            have n0_:=Aside0.mk (Kd.R_elder' (by (with_reducible repeat (first|apply Kd.R_alloc|apply Kd.R_drewN|apply Kd.R_drew)); exact HO_6.out) (Kd.R_base ho) hb)
            clear HO_6; clear HB; have HO_6:=n0_; have HO228:=n1_; have HB:=n3_; clear n0_ n1_ n3_; clear ho hb
            go_wp2
            go_roundg k2
            case measure=>have:=HK1.out; have:=HK2.out; omega
            case rel=>exact ⟨(t226),(wrap64 (x7_1+1)),(by first|rfl|(simp; done)|(simp [*]; done)),H',⟨by have:=HK1.out; have:=HK2.out; omega⟩,⟨by (with_reducible repeat (first|apply Kd.R_alloc|apply Kd.R_drewN|apply Kd.R_drew)); exact Kd.R_mono HO228.out (fun _ hk=>trivial)⟩,⟨by repeat (first|(with_reducible first|exact HB.out|apply AI|apply AG|apply AH)|exact HB.out)⟩⟩
           ·rw [if_neg c25] at H
            exact absurd H (by simp)
          ·rw [if_neg c24] at H
           exact absurd H (by simp)
      ·rw [if_neg c7] at H
       have c7b0:(t217==0)=false:=beq_eq_false_iff_ne.mpr c7
       have c7b1:(t217 !=0)=true:=bne_iff_ne.mpr c7
       simp only [Option.some.injEq,Prod.mk.injEq] at H
       obtain ⟨rfl,rfl⟩:=H
       have p215:0≤(x7_1:Int):=of_decide_eq_true (by first|(with_reducible assumption)|assumption)
       have q215:x7_1<(l0.length:Int):=of_decide_eq_true (by first|(with_reducible assumption)|assumption)
       obtain ⟨ad215,e215,hx215_0,hx215_1,hx215_2⟩:=BG HR0.out x7_1 p215 q215
       cases e215
       replace hx215_0:=(HB.out.cell (World.block_lt_of_cell? w _ hx215_0)).trans hx215_0
       replace hx215_1:=(HB.out.cell (World.block_lt_of_cell? w _ hx215_1)).trans hx215_1
       replace hx215_2:=(HB.out.cell (World.block_lt_of_cell? w _ hx215_2)).trans hx215_2
       replace p215:=eq_true p215
       replace q215:=eq_true q215
       go_wp2_with (first|((with_reducible refine AQ (f:=33) rfl ?_); refine Ag (some 30) rfl rfl Tryd.func33 (by kernel_rfl) rfl #[.agg #[.int .i64 ((AW l0 x7_1).f0),.int .i64 ((AW l0 x7_1).f1),.int .i64 ((AW l0 x7_1).f2)],.int .i64 a1] rfl (by (try simp only [List.map_toArray,List.map_cons,List.map_nil]); first|done|rfl|(simp only [List.length_drop,List.length_take]; rfl)) ?_; (with_reducible refine (Ah.calls k1 ((AW l0 x7_1).f0) ((AW l0 x7_1).f1) ((AW l0 x7_1).f2) a1 t216 t217 _ A6.out).mono ?_); rintro e w29 ⟨rfl,hb⟩; refine ⟨_,rfl,?_⟩; have n0_:=Aside0.mk (Kd.R_below (by (with_reducible repeat (first|apply Kd.R_alloc|apply Kd.R_drewN|apply Kd.R_drew)); exact HO_6.out) hb); have n1_:=Aside0.mk (AP (by repeat (first|(with_reducible first|exact HB.out|apply AI|apply AG|apply AH)|exact HB.out)) hb); clear HO_6; clear HB; have HO_6:=n0_; have HB:=n1_; clear n0_ n1_; (try clear hb); (try clear hb2); (try clear hk); (try clear hi)))
       go_ret2
       exact ⟨_,by first|rfl|(simp [AS,AR]<;>rfl)|(simp [*,AS,AR]<;>rfl),by first|exact Kd.R_nil _ _ _ _ _|exact Kd.N_nil _ _ _ _ _|exact Kd.V_nil _ _ _ _ _|exact Kd.Q_nil _ _ _ _ _|exact Kd.S_nil _ _ _ _ _,by repeat (first|(with_reducible first|exact HB.out|apply AI|apply AG|apply AH)|exact HB.out)⟩
     ·rw [if_neg c5] at H
      exact absurd H (by simp)
    ·rw [if_neg c4] at H
     have c4b0:decide (x7_1<(l0.length:Int))=false:=decide_eq_false c4
     clear c4
     have H':=Aside0.mk H
     clear H
     go_wp2
     go_loopg [11,12] k1 (fun kq v11 v12 w'=>∃(x11_2:List ByteArray) (x12_2:Int),v12= .int .i64 x12_2∧Aside0 (AX.l2 kq a1 x6_1 x11_2 x12_2=some (r1,r2))∧Aside0 (kq≤k1)∧Aside0 (Kd.R k33 33 w' w.heap.size (fun _=>True) u6 x6_1)∧Aside0 (Kd.R Kd.string 9 w' w.heap.size (fun _=>True) v11 x11_2)∧Aside0 (Below w.heap.size w w'))
     case atStart=>exact ⟨(([]:List ByteArray)),(0),(by first|rfl|(simp; done)|(simp [*]; done)),H',⟨Nat.le_refl _⟩,⟨by (with_reducible repeat (first|apply Kd.R_alloc|apply Kd.R_drewN|apply Kd.R_drew)); exact HO_6.out⟩,⟨by first|exact Kd.R_nil _ _ _ _ _|exact Kd.N_nil _ _ _ _ _|exact Kd.V_nil _ _ _ _ _|exact Kd.Q_nil _ _ _ _ _|exact Kd.S_nil _ _ _ _ _⟩,⟨by repeat (first|(with_reducible first|exact HB.out|apply AI|apply AG|apply AH)|exact HB.out)⟩⟩
     case round=>
      clear H'
      try clear c1
      try clear c2
      try clear p2
      try clear q2
      try clear hx2
      try clear c3
      try clear c3b0
      try clear c3b1
      try clear c4
      try clear c4b0
      try clear c5
      try clear c5b0
      try clear p6
      try clear c7
      try clear c7b0
      try clear c7b1
      try clear c9
      try clear c10
      try clear c10b0
      try clear c11
      try clear c11b0
      try clear c12
      try clear c12b0
      try clear c14
      try clear c14b0
      try clear c15
      try clear c15b0
      try clear c17
      try clear p21
      try clear q21
      try clear hx21
      try clear p22
      try clear q22
      try clear hx22
      try clear c24
      try clear c24b0
      try clear c25
      try clear c25b0
      try clear c28
      try clear hx215_0
      try clear hx215_1
      try clear hx215_2
      try clear hx218_0
      try clear hx218_1
      try clear hx218_2
      try clear hx219_0
      try clear hx219_1
      try clear hx219_2
      try clear hx221_0
      try clear hx221_1
      try clear hx221_2
      try clear hx225_0
      try clear hx225_1
      try clear hx225_2
      try clear p2
      try clear p215
      try clear p218
      try clear p219
      try clear p221
      try clear p225
      try clear q2
      try clear q215
      try clear q218
      try clear q219
      try clear q221
      try clear q225
      obtain ⟨x11_2,x12_2,rfl,HA,HK2,HO_6,HO_11,HB⟩:=hrel
      cases gk with
      |zero=>exact absurd HA.out (by simp [AX.l2])
      | succ k2=>
       have H:=HA.out
       clear HA
       simp only [AX.l2] at H
       by_cases c30:x12_2<(x6_1.length:Int)
       ·rw [if_pos c30] at H
        have c30b0:decide (x12_2<(x6_1.length:Int))=true:=decide_eq_true c30
        clear c30
        by_cases c31:0≤x12_2
        ·rw [if_pos c31] at H
         have c31b0:decide (0≤x12_2)=true:=decide_eq_true c31
         clear c31
         replace H:=Option.bind_eq_some_iff.mp H
         obtain ⟨⟨t230,t231⟩,A320,H⟩:=H
         replace H:(if x11_2.length<8796093022208 then (AX.l2 k2 a1 x6_1 (x11_2++[t230]) (wrap64 (x12_2+1))) else (none))=some (r1,r2):=H
         have A32:=Aside0.mk A320
         clear A320
         by_cases c33:x11_2.length<8796093022208
         ·rw [if_pos c33] at H
          have LMc33:=Aside0.mk c33
          clear c33
          obtain ⟨y232,hy232⟩:∃y_:List ByteArray,y_=(x11_2++[t230]):=⟨_,rfl⟩
          replace H:(AX.l2 k2 a1 x6_1 y232 (wrap64 (x12_2+1)))=some (r1,r2):=by first|(rw [hy232]; with_reducible exact H)|(have H2_:=(Option.bind_some _ _).symm.trans H; rw [hy232]; with_reducible exact H2_)|(have H2_:=(Option.bind_some _ _).symm.trans H; with_reducible exact H2_)|with_reducible exact H|(rw [hy232]; exact H)|exact H
          have Ny232:=Aside0.mk hy232
          clear hy232
          have H':=Aside0.mk H
          clear H
          obtain ⟨Ao34,co34,eo34⟩:=Kd.R_slice HO_6.out
          subst eo34
          have p229:0≤(x12_2:Int):=of_decide_eq_true (by first|(with_reducible assumption)|assumption)
          have q229:x12_2<(x6_1.length:Int):=of_decide_eq_true (by first|(with_reducible assumption)|assumption)
          obtain ⟨ad229,e229,hx229_0,hx229_1,hx229_2⟩:=BG (Kd.R_reads' HO_6.out).2.2 x12_2 p229 q229
          cases e229
          replace p229:=eq_true p229
          replace q229:=eq_true q229
          go_wp2_with (first|((with_reducible refine AQ (f:=33) rfl ?_); refine Ag (some 81) rfl rfl Tryd.func33 (by kernel_rfl) rfl #[.agg #[.int .i64 ((AW x6_1 x12_2).f0),.int .i64 ((AW x6_1 x12_2).f1),.int .i64 ((AW x6_1 x12_2).f2)],.int .i64 a1] rfl (by (try simp only [List.map_toArray,List.map_cons,List.map_nil]); first|done|rfl|(simp only [List.length_drop,List.length_take]; rfl)) ?_; (with_reducible refine (Ah.calls k2 ((AW x6_1 x12_2).f0) ((AW x6_1 x12_2).f1) ((AW x6_1 x12_2).f2) a1 t230 t231 _ A32.out).mono ?_); rintro e w35 ⟨rfl,hb⟩; refine ⟨_,rfl,?_⟩; have n0_:=Aside0.mk (Kd.R_below (by (with_reducible repeat (first|apply Kd.R_alloc|apply Kd.R_drewN|apply Kd.R_drew)); exact HO_6.out) hb); have n1_:=Aside0.mk (Kd.R_below (by (with_reducible repeat (first|apply Kd.R_alloc|apply Kd.R_drewN|apply Kd.R_drew)); exact HO_11.out) hb); have n2_:=Aside0.mk (AP (by repeat (first|(with_reducible first|exact HB.out|apply AI|apply AG|apply AH)|exact HB.out)) hb); clear HO_6; clear HO_11; clear HB; have HO_6:=n0_; have HO_11:=n1_; have HB:=n2_; clear n0_ n1_ n2_; (try clear hb); (try clear hb2); (try clear hk); (try clear hi))|((with_reducible refine Bh (b:= .append) (xs:= #[.tmp 84,.tmp 86]) rfl ?_); at_builtin; refine Kd.R_append Kd.string (w0:=w) w.heap.size rfl (.tmp 84) (.tmp 86) 47 9 (.string ⟨#[]⟩) 16 rfl Tryd.underlying47 info9 rfl (by decide) (by omega) u11 x11_2 t230 [.string t230] (fun _=>True) (fun _=>False) rfl rfl ?aP (fun _ hk=>hk.elim) ?aF ?aO ?aB ?aS ?aL ?_; (case aP=>exact rfl); (case aB=>exact (by repeat (first|(with_reducible first|exact HB.out|apply AI|apply AG|apply AH)|exact HB.out))); (case aF=>exact (fun _ _=>trivial)); (case aO=>exact (by (with_reducible repeat (first|apply Kd.R_alloc|apply Kd.R_drewN|apply Kd.R_drew)); exact HO_11.out)); (case aS=>exact (AT (by repeat (first|(with_reducible first|exact HB.out|apply AI|apply AG|apply AH)|exact HB.out)))); (case aL=>have:=LMc33.out; omega); intro v233 w36 ho hb hg hat; rw [←Ny232.out] at ho; have n0_:=Aside0.mk (Kd.R_over' (by (with_reducible repeat (first|apply Kd.R_alloc|apply Kd.R_drewN|apply Kd.R_drew)); exact HO_6.out) (Kd.R_typed (by (with_reducible repeat (first|apply Kd.R_alloc|apply Kd.R_drewN|apply Kd.R_drew)); exact HO_11.out)) (by decide) hg); have n1_:=Aside0.mk (hb); have n2_:=Aside0.mk (ho); clear HO_6; clear HB; clear HO_11; have HO_6:=n0_; have HB:=n1_; have HO234:=n2_; clear n0_ n1_ n2_; clear ho hb hg hat))
          go_roundg k2
          case measure=>have:=HK1.out; have:=HK2.out; omega
          case rel=>exact ⟨(y232),(wrap64 (x12_2+1)),(by first|rfl|(simp; done)|(simp [*]; done)),H',⟨by have:=HK1.out; have:=HK2.out; omega⟩,⟨by (with_reducible repeat (first|apply Kd.R_alloc|apply Kd.R_drewN|apply Kd.R_drew)); exact HO_6.out⟩,⟨by (with_reducible repeat (first|apply Kd.R_alloc|apply Kd.R_drewN|apply Kd.R_drew)); exact HO234.out⟩,⟨by repeat (first|(with_reducible first|exact HB.out|apply AI|apply AG|apply AH)|exact HB.out)⟩⟩
         ·rw [if_neg c33] at H
          exact absurd H (by simp)
        ·rw [if_neg c31] at H
         exact absurd H (by simp)
       ·rw [if_neg c30] at H
        have c30b0:decide (x12_2<(x6_1.length:Int))=false:=decide_eq_false c30
        clear c30
        simp only [Option.some.injEq,Prod.mk.injEq] at H
        obtain ⟨rfl,rfl⟩:=H
        obtain ⟨Ao37,co37,eo37⟩:=Kd.R_slice HO_6.out
        subst eo37
        go_wp2
        go_ret2
        exact ⟨_,by first|rfl|(simp [AS,AR]<;>rfl)|(simp [*,AS,AR]<;>rfl),by (with_reducible repeat (first|apply Kd.R_alloc|apply Kd.R_drewN|apply Kd.R_drew)); exact HO_11.out,by repeat (first|(with_reducible first|exact HB.out|apply AI|apply AG|apply AH)|exact HB.out)⟩
end Go.Proofs.YtgfjidlckocflaaDoor.PAll
end
