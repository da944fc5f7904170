/- A part of what the law's proof leans on. PACKED BY pack.py of this repo. -/
import Derived.Test.YtpejalpgficopaaGreatDoorF4
set_option linter.unusedVariables false
set_option linter.unusedSimpArgs false
set_option linter.unusedSectionVars false
set_option linter.defProp false
set_option maxRecDepth 100000
open Go.IntKind (i64 u64 u32)
section
namespace Go.Proofs.YtpejalpgficopaaGreatDoor.PPr
open Go.RowKit Go.Proofs.YtpejalpgficopaaGreatDoorW.PrintWords Go.Proofs.YtpejalpgficopaaGreatDoorW.PrintLast Go.Proofs.YtpejalpgficopaaGreatDoorW.PrintMore
attribute [local go_sem] J9 J7 KM KL IA I8 J8 J6
theorem Qx {P:Program} {ops:Array Oper} {Q:Exit→Act→World→Prop} {oi:Oper} {N:Option Tmp} {a:Act} {w:World} {K:Act→World→Prop} {f:FuncId} {fn:Func} {xs:Array Operand} {ts:Array TypeId} {o:Operand} (hf:P.funcs[f]? =some fn) (hname:(fn.name== "runtime.NumGoroutine")=false) (hb:fn.body.isSome=true) (args:Array Value)
  (hw:Region.wanted oi (yielded ops a.tmps)=true) (hN:oi.dst=N) (hv:a.eval o= .func (.func f) #[] #[]) (hop:oi.op= .call {callee:= .value o,args:=xs,argTypes:=ts}) (hargs:xs.map a.eval=args)
  (h:Calls P f args w fun e w'=>∃v,e= .returned v∧K (a.put N v) w'):if Region.wanted oi (yielded ops a.tmps)=true then Oper.wp P oi a w K Q else K (a.put N undef) w:=by
 refine call_ f args hw hN ?_ h
 have he:=Mc hf hname hb args w
 unfold execOp
 simp [hop,resolve,Deferred.ofValue,invoke,hv,hargs,he]
def Da.f (A7:Int) (AA:Int):Option (ByteArray×Int):=(Ah.f A7 AA).bind fun t131=>(if t131=true then ((As.f (wrap64 (A7*1000000)) 16777216).bind fun t132=>((Cu.f t132).bind fun t133=>(if 1+t133.size≤9223372036854775807 then (if ((⟨#[91]⟩:ByteArray)++t133).size+2≤9223372036854775807 then ((Bb.f (wrap64 (AA*1000000)) 16777216).bind fun t134=>((Cu.f t134).bind fun t135=>(if (((⟨#[91]⟩:ByteArray)++t133)++(⟨#[44,32]⟩:ByteArray)).size+t135.size≤9223372036854775807 then (if ((((⟨#[91]⟩:ByteArray)++t133)++(⟨#[44,32]⟩:ByteArray))++t135).size+1≤9223372036854775807 then (some (((((⟨#[91]⟩:ByteArray)++t133)++(⟨#[44,32]⟩:ByteArray))++t135)++(⟨#[93]⟩:ByteArray),0)) else (none)) else (none)))) else (none)) else (none)))) else (some ((⟨#[]⟩:ByteArray),1)))
def Da.T4:Bool×List (List Nat×List Nat):=(true,[([],[]),([],[]),([1],[1]),([2],[2]),([3],[3]),([0,4,4],[0,4]),([5],[5]),([6],[6]),([],[]),([],[]),([9],[9]),([10],[10]),([11,5],[11]),([8,12,12],[8,12]),([7,13],[7,13]),([14],[14]),([15,13,0,1,2,3,4,5,6,7,8,9,10,11,12,13,14,15],[15]),([16,0,1,2,3,4,5,6,7,8,9,10,11,12,13,14,15,16],[])])
def Da.B4:List Nat:=[0,0,2,6,14,31,63,127,0,0,512,1536,3647,7999,16383,32767,65535,131071]
theorem Da.tab4:rtab .any (Qa Tryz.f93 4)=Da.T4:=by kernel_rfl
theorem Da.bits4:H5 Da.T4.2 Da.B4=true:=by kernel_rfl
set_option maxHeartbeats 8000000 in
theorem Da.calls (A7:Int) (AA:Int) (r1:ByteArray) (r2:Int) (w:World) (h:Da.f A7 AA=some (r1,r2)) (ht:Tab w):
  Calls Tryz.prog 93 #[.agg #[.int .i64 A7,.int .i64 AA]] w fun e w'=>e= .returned (.tuple #[.string r1,.int .i64 r2])∧Below w.heap.size w w':=by
 have HTB:=Aside0.mk ht
 clear ht
 have hu39:=Tryz.underlying39
 have HB:=Aside0.mk (Below.refl w.heap.size w)
 have H:((Ah.f A7 AA).bind fun t131=>(if t131=true then ((As.f (wrap64 (A7*1000000)) 16777216).bind fun t132=>((Cu.f t132).bind fun t133=>(if 1+t133.size≤9223372036854775807 then (if ((⟨#[91]⟩:ByteArray)++t133).size+2≤9223372036854775807 then ((Bb.f (wrap64 (AA*1000000)) 16777216).bind fun t134=>((Cu.f t134).bind fun t135=>(if (((⟨#[91]⟩:ByteArray)++t133)++(⟨#[44,32]⟩:ByteArray)).size+t135.size≤9223372036854775807 then (if ((((⟨#[91]⟩:ByteArray)++t133)++(⟨#[44,32]⟩:ByteArray))++t135).size+1≤9223372036854775807 then (some (((((⟨#[91]⟩:ByteArray)++t133)++(⟨#[44,32]⟩:ByteArray))++t135)++(⟨#[93]⟩:ByteArray),0)) else (none)) else (none)))) else (none)) else (none)))) else (some ((⟨#[]⟩:ByteArray),1))))=some (r1,r2):=h
 clear h
 replace H:=Option.bind_eq_some_iff.mp H
 obtain ⟨t131,A20,H⟩:=H
 replace H:(if t131=true then ((As.f (wrap64 (A7*1000000)) 16777216).bind fun t132=>((Cu.f t132).bind fun t133=>(if 1+t133.size≤9223372036854775807 then (if ((⟨#[91]⟩:ByteArray)++t133).size+2≤9223372036854775807 then ((Bb.f (wrap64 (AA*1000000)) 16777216).bind fun t134=>((Cu.f t134).bind fun t135=>(if (((⟨#[91]⟩:ByteArray)++t133)++(⟨#[44,32]⟩:ByteArray)).size+t135.size≤9223372036854775807 then (if ((((⟨#[91]⟩:ByteArray)++t133)++(⟨#[44,32]⟩:ByteArray))++t135).size+1≤9223372036854775807 then (some (((((⟨#[91]⟩:ByteArray)++t133)++(⟨#[44,32]⟩:ByteArray))++t135)++(⟨#[93]⟩:ByteArray),0)) else (none)) else (none)))) else (none)) else (none)))) else (some ((⟨#[]⟩:ByteArray),1)))=some (r1,r2):=H
 have A2:=Aside0.mk A20
 clear A20
 by_cases c3:t131=true
 ·subst c3
  have H1:((As.f (wrap64 (A7*1000000)) 16777216).bind fun t132=>((Cu.f t132).bind fun t133=>(if 1+t133.size≤9223372036854775807 then (if ((⟨#[91]⟩:ByteArray)++t133).size+2≤9223372036854775807 then ((Bb.f (wrap64 (AA*1000000)) 16777216).bind fun t134=>((Cu.f t134).bind fun t135=>(if (((⟨#[91]⟩:ByteArray)++t133)++(⟨#[44,32]⟩:ByteArray)).size+t135.size≤9223372036854775807 then (if ((((⟨#[91]⟩:ByteArray)++t133)++(⟨#[44,32]⟩:ByteArray))++t135).size+1≤9223372036854775807 then (some (((((⟨#[91]⟩:ByteArray)++t133)++(⟨#[44,32]⟩:ByteArray))++t135)++(⟨#[93]⟩:ByteArray),0)) else (none)) else (none)))) else (none)) else (none))))=some (r1,r2):=by rw [if_pos rfl] at H; exact H
  clear H
  have H:=H1
  clear H1
  replace H:=Option.bind_eq_some_iff.mp H
  obtain ⟨t132,A40,H⟩:=H
  replace H:((Cu.f t132).bind fun t133=>(if 1+t133.size≤9223372036854775807 then (if ((⟨#[91]⟩:ByteArray)++t133).size+2≤9223372036854775807 then ((Bb.f (wrap64 (AA*1000000)) 16777216).bind fun t134=>((Cu.f t134).bind fun t135=>(if (((⟨#[91]⟩:ByteArray)++t133)++(⟨#[44,32]⟩:ByteArray)).size+t135.size≤9223372036854775807 then (if ((((⟨#[91]⟩:ByteArray)++t133)++(⟨#[44,32]⟩:ByteArray))++t135).size+1≤9223372036854775807 then (some (((((⟨#[91]⟩:ByteArray)++t133)++(⟨#[44,32]⟩:ByteArray))++t135)++(⟨#[93]⟩:ByteArray),0)) else (none)) else (none)))) else (none)) else (none)))=some (r1,r2):=H
  have A4:=Aside0.mk A40
  clear A40
  replace H:=Option.bind_eq_some_iff.mp H
  obtain ⟨t133,A50,H⟩:=H
  replace H:(if 1+t133.size≤9223372036854775807 then (if ((⟨#[91]⟩:ByteArray)++t133).size+2≤9223372036854775807 then ((Bb.f (wrap64 (AA*1000000)) 16777216).bind fun t134=>((Cu.f t134).bind fun t135=>(if (((⟨#[91]⟩:ByteArray)++t133)++(⟨#[44,32]⟩:ByteArray)).size+t135.size≤9223372036854775807 then (if ((((⟨#[91]⟩:ByteArray)++t133)++(⟨#[44,32]⟩:ByteArray))++t135).size+1≤9223372036854775807 then (some (((((⟨#[91]⟩:ByteArray)++t133)++(⟨#[44,32]⟩:ByteArray))++t135)++(⟨#[93]⟩:ByteArray),0)) else (none)) else (none)))) else (none)) else (none))=some (r1,r2):=H
  have A5:=Aside0.mk A50
  clear A50
  by_cases c6:1+t133.size≤9223372036854775807
  ·rw [if_pos c6] at H
   have c6b0:=eq_true c6
   have c6b1:decide (1+t133.size≤9223372036854775807)=true:=decide_eq_true c6
   try have c6b2:(9223372036854775807<1+t133.size)=False:=eq_false (Nat.not_lt.2 c6)
   (try have c6b3:=c6b2)
   (try simp only [ByteArray.size_append,ByteArray.size_extract,Ek,EK,F6,Ei,Eh,Ej,Nat.min_self,Nat.zero_add] at c6b3)
   by_cases c7:((⟨#[91]⟩:ByteArray)++t133).size+2≤9223372036854775807
   ·rw [if_pos c7] at H
    have c7b0:=eq_true c7
    have c7b1:decide (((⟨#[91]⟩:ByteArray)++t133).size+2≤9223372036854775807)=true:=decide_eq_true c7
    try have c7b2:(9223372036854775807<((⟨#[91]⟩:ByteArray)++t133).size+2)=False:=eq_false (Nat.not_lt.2 c7)
    (try have c7b3:=c7b2)
    (try simp only [ByteArray.size_append,ByteArray.size_extract,Ek,EK,F6,Ei,Eh,Ej,Nat.min_self,Nat.zero_add] at c7b3)
    replace H:=Option.bind_eq_some_iff.mp H
    obtain ⟨t134,A80,H⟩:=H
    replace H:((Cu.f t134).bind fun t135=>(if (((⟨#[91]⟩:ByteArray)++t133)++(⟨#[44,32]⟩:ByteArray)).size+t135.size≤9223372036854775807 then (if ((((⟨#[91]⟩:ByteArray)++t133)++(⟨#[44,32]⟩:ByteArray))++t135).size+1≤9223372036854775807 then (some (((((⟨#[91]⟩:ByteArray)++t133)++(⟨#[44,32]⟩:ByteArray))++t135)++(⟨#[93]⟩:ByteArray),0)) else (none)) else (none)))=some (r1,r2):=H
    have A8:=Aside0.mk A80
    clear A80
    replace H:=Option.bind_eq_some_iff.mp H
    obtain ⟨t135,A90,H⟩:=H
    replace H:(if (((⟨#[91]⟩:ByteArray)++t133)++(⟨#[44,32]⟩:ByteArray)).size+t135.size≤9223372036854775807 then (if ((((⟨#[91]⟩:ByteArray)++t133)++(⟨#[44,32]⟩:ByteArray))++t135).size+1≤9223372036854775807 then (some (((((⟨#[91]⟩:ByteArray)++t133)++(⟨#[44,32]⟩:ByteArray))++t135)++(⟨#[93]⟩:ByteArray),0)) else (none)) else (none))=some (r1,r2):=H
    have A9:=Aside0.mk A90
    clear A90
    by_cases c10:(((⟨#[91]⟩:ByteArray)++t133)++(⟨#[44,32]⟩:ByteArray)).size+t135.size≤9223372036854775807
    ·rw [if_pos c10] at H
     have c10b0:=eq_true c10
     have c10b1:decide ((((⟨#[91]⟩:ByteArray)++t133)++(⟨#[44,32]⟩:ByteArray)).size+t135.size≤9223372036854775807)=true:=decide_eq_true c10
     try have c10b2:(9223372036854775807<(((⟨#[91]⟩:ByteArray)++t133)++(⟨#[44,32]⟩:ByteArray)).size+t135.size)=False:=eq_false (Nat.not_lt.2 c10)
     (try have c10b3:=c10b2)
     (try simp only [ByteArray.size_append,ByteArray.size_extract,Ek,EK,F6,Ei,Eh,Ej,Nat.min_self,Nat.zero_add] at c10b3)
     by_cases c11:((((⟨#[91]⟩:ByteArray)++t133)++(⟨#[44,32]⟩:ByteArray))++t135).size+1≤9223372036854775807
     ·rw [if_pos c11] at H
      have c11b0:=eq_true c11
      have c11b1:decide (((((⟨#[91]⟩:ByteArray)++t133)++(⟨#[44,32]⟩:ByteArray))++t135).size+1≤9223372036854775807)=true:=decide_eq_true c11
      try have c11b2:(9223372036854775807<((((⟨#[91]⟩:ByteArray)++t133)++(⟨#[44,32]⟩:ByteArray))++t135).size+1)=False:=eq_false (Nat.not_lt.2 c11)
      (try have c11b3:=c11b2)
      (try simp only [ByteArray.size_append,ByteArray.size_extract,Ek,EK,F6,Ei,Eh,Ej,Nat.min_self,Nat.zero_add] at c11b3)
      simp only [zS,zP] at H
      obtain ⟨rfl,rfl⟩:=H
      go_enter Tryz.func93,Tryz.ntmps93
      try go_wp2_with (first|((with_reducible refine Ed (N:=1) rfl ?_); refine Ea ?hg (N:=1) ?hd (cs:= #[.int .i64 A7,.int .i64 AA]) (t:=39) ?hr ?_; (case hd=>rfl); (case hg=>rfl); (case hr=>first|(go_simp; done)|(go_simp; rfl)); intro gb130 hg w12 hbox hb; have n0_:=Aside0.mk (Ce (by repeat (first|(with_reducible first|exact HB.out|apply Af|apply Ab|apply Ae)|exact HB.out)) hb); have n1_:=Aside0.mk (hbox); have n2_:=Aside0.mk ((by rw [hg]; exact (Do (by repeat (first|(with_reducible first|exact HB.out|apply Af|apply Ab|apply Ae)|exact HB.out))):w.heap.size≤gb130)); have n3_:=Aside0.mk ((by rw [hg]; exact (Do (by repeat (first|(with_reducible first|exact HB.out|apply Af|apply Ab|apply Ae)|exact HB.out))):w.heap.size≤gb130)); clear HB; have HB:=n0_; have BK130:=n1_; have GW130:=n2_; have GE130:=n3_; clear n0_ n1_ n2_ n3_; clear hb hbox hg; have hcz13_0:w12.cell? ⟨gb130,0,none⟩=some (.int .i64 A7):=(Ak BK130.out 0).trans rfl; have hcz13_1:w12.cell? ⟨gb130,1,none⟩=some (.int .i64 AA):=(Ak BK130.out 1).trans rfl; have hfz13_0:=Ai BK130.out 0; have hfz13_1:=Ai BK130.out 1)|((with_reducible refine E7 (f:=65) rfl ?_); refine Ex (some 6) rfl rfl Tryz.func65 (by kernel_rfl) rfl #[.agg #[.int .i64 A7,.int .i64 AA]] rfl (by (try simp only [List.map_toArray,List.map_cons,List.map_nil]); first|done|rfl|(simp only [List.length_drop,List.length_take]; rfl)) ?_; (with_reducible refine (Ah.calls A7 AA true _ A2.out).mono ?_); rintro e w14 ⟨rfl,hb⟩; refine ⟨_,rfl,?_⟩; have n0_:=Aside0.mk (ED (g:=gb130) (o:= .cells #[.int .i64 A7,.int .i64 AA] 39 (0,0)) (by (with_reducible repeat (first|refine EC ?_ _|refine EI ?_|refine EE ?_ _)); exact BK130.out) hb); have n1_:=Aside0.mk (Ce (by repeat (first|(with_reducible first|exact HB.out|apply Af|apply Ab|apply Ae|refine Dc ?_ GE130.out)|exact HB.out)) hb); clear BK130; clear HB; have BK130:=n0_; have HB:=n1_; clear n0_ n1_; (try clear hb); (try clear hb2); (try clear hk); (try clear hi)))
      have n0_:=Aside0.mk (EI BK130.out)
      have n1_:=Aside0.mk (Ae HB.out)
      clear BK130
      clear HB
      have BK130:=n0_
      have HB:=n1_
      clear n0_ n1_
      refine MG (n:=18) (S:=fun w'=>w'.cell? ⟨gb130,0,none⟩=some (.int .i64 A7)∧w'.cell? ⟨gb130,1,none⟩=some (.int .i64 AA)) (ds:=[]) #[false,false,false,false,false,false,false,false,false,false,false,false,false,false,false,false,false,false] (by kernel_rfl) rfl rfl ⟨(Ak BK130.out 0).trans rfl,(Ak BK130.out 1).trans rfl⟩ (fun hHeld=> ?_); refine Hu Da.tab4 Da.bits4 (fun HT_ HW_=> ?_)
      generalize w14.drew=w15 at BK130 HB hHeld ⊢
      refine Eo (i:=0) (N:=some 8) (v:= ?_) (a':= ?_) #[true,false,false,false,false,false,false,false,false,false,false,false,false,false,false,false,false,false] rfl rfl (ET HT_.out (by kernel_rfl)) (fun _ _ _ h=>h) (Or.inl ⟨by rfl,?_⟩) ?_ ?_
      rotate_left
      ·intro w'
       go_simp
       with_reducible rfl
      rotate_left
      ·simp only [Act.put,List.setIfInBounds_toArray,List.set_cons_zero,List.set_cons_succ,ER,ES]
       rfl
      refine Eo (i:=1) (N:=some 9) (v:= ?_) (a':= ?_) #[true,true,false,false,false,false,false,false,false,false,false,false,false,false,false,false,false,false] rfl rfl (ET HT_.out (by kernel_rfl)) (fun _ _ _ h=>h) (Or.inl ⟨by rfl,?_⟩) ?_ ?_
      rotate_left
      ·intro w'
       go_simp
       with_reducible rfl
      rotate_left
      ·simp only [Act.put,List.setIfInBounds_toArray,List.set_cons_zero,List.set_cons_succ,ER,ES]
       rfl
      refine Eo (i:=8) (N:=some 16) (v:= ?_) (a':= ?_) #[true,true,false,false,false,false,false,false,true,false,false,false,false,false,false,false,false,false] rfl rfl (ET HT_.out (by kernel_rfl)) (fun _ _ _ h=>h) (Or.inl ⟨by rfl,?_⟩) ?_ ?_
      rotate_left
      ·intro w'
       go_simp
       with_reducible rfl
      rotate_left
      ·simp only [Act.put,List.setIfInBounds_toArray,List.set_cons_zero,List.set_cons_succ,ER,ES]
       rfl
      refine Eo (i:=9) (N:=some 17) (v:= ?_) (a':= ?_) #[true,true,false,false,false,false,false,false,true,true,false,false,false,false,false,false,false,false] rfl rfl (ET HT_.out (by kernel_rfl)) (fun _ _ _ h=>h) (Or.inl ⟨by rfl,?_⟩) ?_ ?_
      rotate_left
      ·intro w'
       go_simp
       with_reducible rfl
      rotate_left
      ·simp only [Act.put,List.setIfInBounds_toArray,List.set_cons_zero,List.set_cons_succ,ER,ES]
       rfl
      refine Od (i:=2) (N:=some 10) (v:= ?_) (a':= ?_) #[true,true,true,false,false,false,false,false,true,true,false,false,false,false,false,false,false,false] rfl rfl (Io HT_.out HW_.out (by kernel_rfl)) (fun _ _ _ h=>h) (Or.inl ⟨by rfl,?_⟩) hHeld ?_ ?_
      rotate_left
      ·rintro w' ⟨s0,s1⟩
       go_simp
       with_reducible rfl
      rotate_left
      ·simp only [Act.put,List.setIfInBounds_toArray,List.set_cons_zero,List.set_cons_succ,ER,ES]
       rfl
      refine Eo (i:=3) (N:=some 11) (v:= ?_) (a':= ?_) #[true,true,true,true,false,false,false,false,true,true,false,false,false,false,false,false,false,false] rfl rfl (ET HT_.out (by kernel_rfl)) (fun _ _ _ h=>h) (Or.inl ⟨by rfl,?_⟩) ?_ ?_
      rotate_left
      ·intro w'
       go_simp
       with_reducible rfl
      rotate_left
      ·simp only [Act.put,List.setIfInBounds_toArray,List.set_cons_zero,List.set_cons_succ,ER,ES]
       rfl
      refine Od (i:=10) (N:=some 18) (v:= ?_) (a':= ?_) #[true,true,true,true,false,false,false,false,true,true,true,false,false,false,false,false,false,false] rfl rfl (Io HT_.out HW_.out (by kernel_rfl)) (fun _ _ _ h=>h) (Or.inl ⟨by rfl,?_⟩) hHeld ?_ ?_
      rotate_left
      ·rintro w' ⟨s0,s1⟩
       go_simp
       with_reducible rfl
      rotate_left
      ·simp only [Act.put,List.setIfInBounds_toArray,List.set_cons_zero,List.set_cons_succ,ER,ES]
       rfl
      refine Eo (i:=11) (N:=some 19) (v:= ?_) (a':= ?_) #[true,true,true,true,false,false,false,false,true,true,true,true,false,false,false,false,false,false] rfl rfl (ET HT_.out (by kernel_rfl)) (fun _ _ _ h=>h) (Or.inl ⟨by rfl,?_⟩) ?_ ?_
      rotate_left
      ·intro w'
       go_simp
       with_reducible rfl
      rotate_left
      ·simp only [Act.put,List.setIfInBounds_toArray,List.set_cons_zero,List.set_cons_succ,ER,ES]
       rfl
      refine one_ (i:=4) (N:=some 12) #[true,true,true,true,true,false,false,false,true,true,true,true,false,false,false,false,false,false] rfl rfl (Gi HT_.out (by kernel_rfl)) (by decide) (fun K hK=> ?_)
      refine K2 Tryz.func119 (by kernel_rfl) rfl #[.int .i64 (wrap64 (A7*1000000)),.int .i64 16777216] (by rfl) rfl rfl (by (try simp only [List.map_toArray,List.map_cons,List.map_nil]); first|done|rfl|(simp only [List.length_drop,List.length_take]; rfl)) ?_
      with_reducible refine (As.calls (wrap64 (A7*1000000)) 16777216 t132 _ A4.out).mono ?_
      rintro e w' ⟨rfl,⟨nd,rfl⟩⟩
      refine ⟨_,rfl,?_⟩
      refine hK.out _ _ ⟨(Ak BK130.out 0).trans rfl,(Ak BK130.out 1).trans rfl⟩ (fun hHeld=> ?_)
      clear hK K
      refine IQ (a':= ?_) ?_ ?_
      rotate_left
      ·show Act.put _ (some 12) _=_
       simp only [Act.put,List.setIfInBounds_toArray,List.set_cons_zero,List.set_cons_succ,ER,ES]
       rfl
      refine one_ (i:=5) (N:=some 13) #[true,true,true,true,true,true,false,false,true,true,true,true,false,false,false,false,false,false] rfl rfl (Gi HT_.out (by kernel_rfl)) (by decide) (fun K hK=> ?_)
      refine Qx (o:= .tmp 8) Tryz.func143 (by kernel_rfl) rfl #[.int .i64 t132] (by rfl) rfl (by rfl) rfl (by (try simp only [List.map_toArray,List.map_cons,List.map_nil]); first|done|rfl|(simp only [List.length_drop,List.length_take]; rfl)) ?_
      with_reducible refine (Cu.calls t132 t133 _ A5.out (Tab.below HTB.out (by repeat (first|(with_reducible first|exact HB.out|apply Af|apply Ab|apply Ae)|exact HB.out)))).mono ?_
      rintro e w16 ⟨rfl,hb⟩
      refine ⟨_,rfl,?_⟩
      have n0_:=Aside0.mk (ED (g:=gb130) (o:= .cells #[.int .i64 A7,.int .i64 AA] 39 (0,0)) (by (with_reducible repeat (first|refine EC ?_ _|refine EI ?_|refine EE ?_ _)); exact BK130.out) hb)
      have n1_:=Aside0.mk (Ce (by repeat (first|(with_reducible first|exact HB.out|apply Af|apply Ab|apply Ae|refine Dc ?_ GE130.out)|exact HB.out)) hb)
      clear BK130
      clear HB
      have BK130:=n0_
      have HB:=n1_
      clear n0_ n1_
      (try clear hb)
      (try clear hb2)
      (try clear hk)
      (try clear hi)
      refine hK.out _ _ ⟨(Ak BK130.out 0).trans rfl,(Ak BK130.out 1).trans rfl⟩ (fun hHeld=> ?_)
      clear hK K
      refine IQ (a':= ?_) ?_ ?_
      rotate_left
      ·show Act.put _ (some 13) _=_
       simp only [Act.put,List.setIfInBounds_toArray,List.set_cons_zero,List.set_cons_succ,ER,ES]
       rfl
      refine Eo (i:=6) (N:=some 14) (v:= ?_) (a':= ?_) #[true,true,true,true,true,true,true,false,true,true,true,true,false,false,false,false,false,false] rfl rfl (ET HT_.out (by kernel_rfl)) (fun _ _ _ h=>h) (Or.inl ⟨by rfl,?_⟩) ?_ ?_
      rotate_left
      ·intro w'
       go_simp
       with_reducible rfl
      rotate_left
      ·simp only [Act.put,List.setIfInBounds_toArray,List.set_cons_zero,List.set_cons_succ,ER,ES]
       rfl
      refine Eo (i:=7) (N:=some 15) (v:= ?_) (a':= ?_) #[true,true,true,true,true,true,true,true,true,true,true,true,false,false,false,false,false,false] rfl rfl (ET HT_.out (by kernel_rfl)) (fun _ _ _ h=>h) (Or.inl ⟨by rfl,?_⟩) ?_ ?_
      rotate_left
      ·intro w'
       go_simp
       with_reducible rfl
      rotate_left
      ·simp only [Act.put,List.setIfInBounds_toArray,List.set_cons_zero,List.set_cons_succ,ER,ES]
       rfl
      refine one_ (i:=12) (N:=some 20) #[true,true,true,true,true,true,true,true,true,true,true,true,true,false,false,false,false,false] rfl rfl (Gi HT_.out (by kernel_rfl)) (by decide) (fun K hK=> ?_)
      refine K2 Tryz.func120 (by kernel_rfl) rfl #[.int .i64 (wrap64 (AA*1000000)),.int .i64 16777216] (by rfl) rfl rfl (by (try simp only [List.map_toArray,List.map_cons,List.map_nil]); first|done|rfl|(simp only [List.length_drop,List.length_take]; rfl)) ?_
      with_reducible refine (Bb.calls (wrap64 (AA*1000000)) 16777216 t134 _ A8.out).mono ?_
      rintro e w' ⟨rfl,⟨nd,rfl⟩⟩
      refine ⟨_,rfl,?_⟩
      refine hK.out _ _ ⟨(Ak BK130.out 0).trans rfl,(Ak BK130.out 1).trans rfl⟩ (fun hHeld=> ?_)
      clear hK K
      refine IQ (a':= ?_) ?_ ?_
      rotate_left
      ·show Act.put _ (some 20) _=_
       simp only [Act.put,List.setIfInBounds_toArray,List.set_cons_zero,List.set_cons_succ,ER,ES]
       rfl
      refine one_ (i:=13) (N:=some 21) #[true,true,true,true,true,true,true,true,true,true,true,true,true,true,false,false,false,false] rfl rfl (Gi HT_.out (by kernel_rfl)) (by decide) (fun K hK=> ?_)
      refine Qx (o:= .tmp 16) Tryz.func143 (by kernel_rfl) rfl #[.int .i64 t134] (by rfl) rfl (by rfl) rfl (by (try simp only [List.map_toArray,List.map_cons,List.map_nil]); first|done|rfl|(simp only [List.length_drop,List.length_take]; rfl)) ?_
      with_reducible refine (Cu.calls t134 t135 _ A9.out (Tab.below HTB.out (by repeat (first|(with_reducible first|exact HB.out|apply Af|apply Ab|apply Ae)|exact HB.out)))).mono ?_
      rintro e w17 ⟨rfl,hb⟩
      refine ⟨_,rfl,?_⟩
      have n0_:=Aside0.mk (ED (g:=gb130) (o:= .cells #[.int .i64 A7,.int .i64 AA] 39 (0,0)) (by (with_reducible repeat (first|refine EC ?_ _|refine EI ?_|refine EE ?_ _)); exact BK130.out) hb)
      have n1_:=Aside0.mk (Ce (by repeat (first|(with_reducible first|exact HB.out|apply Af|apply Ab|apply Ae|refine Dc ?_ GE130.out)|exact HB.out)) hb)
      clear BK130
      clear HB
      have BK130:=n0_
      have HB:=n1_
      clear n0_ n1_
      (try clear hb)
      (try clear hb2)
      (try clear hk)
      (try clear hi)
      refine hK.out _ _ ⟨(Ak BK130.out 0).trans rfl,(Ak BK130.out 1).trans rfl⟩ (fun hHeld=> ?_)
      clear hK K
      refine IQ (a':= ?_) ?_ ?_
      rotate_left
      ·show Act.put _ (some 21) _=_
       simp only [Act.put,List.setIfInBounds_toArray,List.set_cons_zero,List.set_cons_succ,ER,ES]
       rfl
      refine Eo (i:=14) (N:=some 22) (v:= ?_) (a':= ?_) #[true,true,true,true,true,true,true,true,true,true,true,true,true,true,true,false,false,false] rfl rfl (ET HT_.out (by kernel_rfl)) (fun _ _ _ h=>h) (Or.inl ⟨by rfl,?_⟩) ?_ ?_
      rotate_left
      ·intro w'
       go_simp
       with_reducible rfl
      rotate_left
      ·simp only [Act.put,List.setIfInBounds_toArray,List.set_cons_zero,List.set_cons_succ,ER,ES]
       rfl
      refine Eo (i:=15) (N:=some 23) (v:= ?_) (a':= ?_) #[true,true,true,true,true,true,true,true,true,true,true,true,true,true,true,true,false,false] rfl rfl (ET HT_.out (by kernel_rfl)) (fun _ _ _ h=>h) (Or.inl ⟨by rfl,?_⟩) ?_ ?_
      rotate_left
      ·intro w'
       go_simp
       with_reducible rfl
      rotate_left
      ·simp only [Act.put,List.setIfInBounds_toArray,List.set_cons_zero,List.set_cons_succ,ER,ES]
       rfl
      refine Eo (i:=16) (N:=some 2) (v:= ?_) (a':= ?_) #[true,true,true,true,true,true,true,true,true,true,true,true,true,true,true,true,true,false] rfl rfl (ET HT_.out (by kernel_rfl)) (fun _ _ _ h=>h) (Or.inl ⟨by rfl,?_⟩) ?_ ?_
      rotate_left
      ·intro w'
       go_simp
       with_reducible rfl
      rotate_left
      ·simp only [Act.put,List.setIfInBounds_toArray,List.set_cons_zero,List.set_cons_succ,ER,ES]
       rfl
      refine Eo (i:=17) (N:=some 3) (v:= ?_) (a':= ?_) #[true,true,true,true,true,true,true,true,true,true,true,true,true,true,true,true,true,true] rfl rfl (ET HT_.out (by kernel_rfl)) (fun _ _ _ h=>h) (Or.inl ⟨by rfl,?_⟩) ?_ ?_
      rotate_left
      ·intro w'
       go_simp
       with_reducible rfl
      rotate_left
      ·simp only [Act.put,List.setIfInBounds_toArray,List.set_cons_zero,List.set_cons_succ,ER,ES]
       rfl
      refine PM (KT HT_.out (by kernel_rfl)) ?_
      try go_wp2
      go_ret2
      exact ⟨by first|rfl|(simp [Dk,Dj]<;>rfl)|(simp [*,Dk,Dj]<;>rfl),by repeat (first|(with_reducible first|exact HB.out|apply Af|apply Ab|apply Ae|refine Dc ?_ GE130.out)|exact HB.out)⟩
     ·rw [if_neg c11] at H
      exact absurd H (by simp)
    ·rw [if_neg c10] at H
     exact absurd H (by simp)
   ·rw [if_neg c7] at H
    exact absurd H (by simp)
  ·rw [if_neg c6] at H
   exact absurd H (by simp)
 ·replace c3:=Bool.eq_false_iff.mpr c3
  subst c3
  have H1:(some ((⟨#[]⟩:ByteArray),1))=some (r1,r2):=by rw [if_neg (show ¬(false=true) by decide)] at H; exact H
  clear H
  have H:=H1
  clear H1
  simp only [zS,zP] at H
  obtain ⟨rfl,rfl⟩:=H
  go_enter Tryz.func93,Tryz.ntmps93
  go_wp2_with (first|((with_reducible refine Ed (N:=1) rfl ?_); refine Ea ?hg (N:=1) ?hd (cs:= #[.int .i64 A7,.int .i64 AA]) (t:=39) ?hr ?_; (case hd=>rfl); (case hg=>rfl); (case hr=>first|(go_simp; done)|(go_simp; rfl)); intro gb130 hg w18 hbox hb; have n0_:=Aside0.mk (Ce (by repeat (first|(with_reducible first|exact HB.out|apply Af|apply Ab|apply Ae)|exact HB.out)) hb); have n1_:=Aside0.mk (hbox); have n2_:=Aside0.mk ((by rw [hg]; exact (Do (by repeat (first|(with_reducible first|exact HB.out|apply Af|apply Ab|apply Ae)|exact HB.out))):w.heap.size≤gb130)); have n3_:=Aside0.mk ((by rw [hg]; exact (Do (by repeat (first|(with_reducible first|exact HB.out|apply Af|apply Ab|apply Ae)|exact HB.out))):w.heap.size≤gb130)); clear HB; have HB:=n0_; have BK130:=n1_; have GW130:=n2_; have GE130:=n3_; clear n0_ n1_ n2_ n3_; clear hb hbox hg; have hcz19_0:w18.cell? ⟨gb130,0,none⟩=some (.int .i64 A7):=(Ak BK130.out 0).trans rfl; have hcz19_1:w18.cell? ⟨gb130,1,none⟩=some (.int .i64 AA):=(Ak BK130.out 1).trans rfl; have hfz19_0:=Ai BK130.out 0; have hfz19_1:=Ai BK130.out 1)|((with_reducible refine E7 (f:=65) rfl ?_); refine Ex (some 6) rfl rfl Tryz.func65 (by kernel_rfl) rfl #[.agg #[.int .i64 A7,.int .i64 AA]] rfl (by (try simp only [List.map_toArray,List.map_cons,List.map_nil]); first|done|rfl|(simp only [List.length_drop,List.length_take]; rfl)) ?_; (with_reducible refine (Ah.calls A7 AA false _ A2.out).mono ?_); rintro e w20 ⟨rfl,hb⟩; refine ⟨_,rfl,?_⟩; have n0_:=Aside0.mk (ED (g:=gb130) (o:= .cells #[.int .i64 A7,.int .i64 AA] 39 (0,0)) (by (with_reducible repeat (first|refine EC ?_ _|refine EI ?_|refine EE ?_ _)); exact BK130.out) hb); have n1_:=Aside0.mk (Ce (by repeat (first|(with_reducible first|exact HB.out|apply Af|apply Ab|apply Ae|refine Dc ?_ GE130.out)|exact HB.out)) hb); clear BK130; clear HB; have BK130:=n0_; have HB:=n1_; clear n0_ n1_; (try clear hb); (try clear hb2); (try clear hk); (try clear hi)))
  go_ret2
  exact ⟨by first|rfl|(simp [Dk,Dj]<;>rfl)|(simp [*,Dk,Dj]<;>rfl),by repeat (first|(with_reducible first|exact HB.out|apply Af|apply Ab|apply Ae|refine Dc ?_ GE130.out)|exact HB.out)⟩
def direction_Print.f (A7:Int) (AA:Int) (AG:Int) (AF:Int) (AE:Int) (AD:Int):Option (ByteArray×Int):=(Bo.f A7 AA AG AF AE AD).bind fun t137=>(if t137=true then ((Da.f A7 AA).bind fun bt138=>((Da.f AG AF).bind fun bt140=>((Da.f AE AD).bind fun bt142=>(if 1+bt138.1.size≤9223372036854775807 then (if ((⟨#[40]⟩:ByteArray)++bt138.1).size+2≤9223372036854775807 then (if (((⟨#[40]⟩:ByteArray)++bt138.1)++(⟨#[44,32]⟩:ByteArray)).size+bt140.1.size≤9223372036854775807 then (if ((((⟨#[40]⟩:ByteArray)++bt138.1)++(⟨#[44,32]⟩:ByteArray))++bt140.1).size+2≤9223372036854775807 then (if (((((⟨#[40]⟩:ByteArray)++bt138.1)++(⟨#[44,32]⟩:ByteArray))++bt140.1)++(⟨#[44,32]⟩:ByteArray)).size+bt142.1.size≤9223372036854775807 then (if ((((((⟨#[40]⟩:ByteArray)++bt138.1)++(⟨#[44,32]⟩:ByteArray))++bt140.1)++(⟨#[44,32]⟩:ByteArray))++bt142.1).size+1≤9223372036854775807 then (some (((((((⟨#[40]⟩:ByteArray)++bt138.1)++(⟨#[44,32]⟩:ByteArray))++bt140.1)++(⟨#[44,32]⟩:ByteArray))++bt142.1)++(⟨#[41]⟩:ByteArray),0)) else (none)) else (none)) else (none)) else (none)) else (none)) else (none))))) else (some ((⟨#[]⟩:ByteArray),1)))
set_option maxHeartbeats 8000000 in
theorem direction_Print.calls (A7:Int) (AA:Int) (AG:Int) (AF:Int) (AE:Int) (AD:Int) (r1:ByteArray) (r2:Int) (w:World) (h:direction_Print.f A7 AA AG AF AE AD=some (r1,r2)) (ht:Tab w):
  Calls Tryz.prog 47 #[.agg #[.int .i64 A7,.int .i64 AA,.int .i64 AG,.int .i64 AF,.int .i64 AE,.int .i64 AD]] w fun e w'=>e= .returned (.tuple #[.string r1,.int .i64 r2])∧Below w.heap.size w w':=by
 have HTB:=Aside0.mk ht
 clear ht
 have hu41:=Tryz.underlying41
 have hu39:=Tryz.underlying39
 have HB:=Aside0.mk (Below.refl w.heap.size w)
 have H:((Bo.f A7 AA AG AF AE AD).bind fun t137=>(if t137=true then ((Da.f A7 AA).bind fun bt138=>((Da.f AG AF).bind fun bt140=>((Da.f AE AD).bind fun bt142=>(if 1+bt138.1.size≤9223372036854775807 then (if ((⟨#[40]⟩:ByteArray)++bt138.1).size+2≤9223372036854775807 then (if (((⟨#[40]⟩:ByteArray)++bt138.1)++(⟨#[44,32]⟩:ByteArray)).size+bt140.1.size≤9223372036854775807 then (if ((((⟨#[40]⟩:ByteArray)++bt138.1)++(⟨#[44,32]⟩:ByteArray))++bt140.1).size+2≤9223372036854775807 then (if (((((⟨#[40]⟩:ByteArray)++bt138.1)++(⟨#[44,32]⟩:ByteArray))++bt140.1)++(⟨#[44,32]⟩:ByteArray)).size+bt142.1.size≤9223372036854775807 then (if ((((((⟨#[40]⟩:ByteArray)++bt138.1)++(⟨#[44,32]⟩:ByteArray))++bt140.1)++(⟨#[44,32]⟩:ByteArray))++bt142.1).size+1≤9223372036854775807 then (some (((((((⟨#[40]⟩:ByteArray)++bt138.1)++(⟨#[44,32]⟩:ByteArray))++bt140.1)++(⟨#[44,32]⟩:ByteArray))++bt142.1)++(⟨#[41]⟩:ByteArray),0)) else (none)) else (none)) else (none)) else (none)) else (none)) else (none))))) else (some ((⟨#[]⟩:ByteArray),1))))=some (r1,r2):=h
 clear h
 replace H:=Option.bind_eq_some_iff.mp H
 obtain ⟨t137,A20,H⟩:=H
 replace H:(if t137=true then ((Da.f A7 AA).bind fun bt138=>((Da.f AG AF).bind fun bt140=>((Da.f AE AD).bind fun bt142=>(if 1+bt138.1.size≤9223372036854775807 then (if ((⟨#[40]⟩:ByteArray)++bt138.1).size+2≤9223372036854775807 then (if (((⟨#[40]⟩:ByteArray)++bt138.1)++(⟨#[44,32]⟩:ByteArray)).size+bt140.1.size≤9223372036854775807 then (if ((((⟨#[40]⟩:ByteArray)++bt138.1)++(⟨#[44,32]⟩:ByteArray))++bt140.1).size+2≤9223372036854775807 then (if (((((⟨#[40]⟩:ByteArray)++bt138.1)++(⟨#[44,32]⟩:ByteArray))++bt140.1)++(⟨#[44,32]⟩:ByteArray)).size+bt142.1.size≤9223372036854775807 then (if ((((((⟨#[40]⟩:ByteArray)++bt138.1)++(⟨#[44,32]⟩:ByteArray))++bt140.1)++(⟨#[44,32]⟩:ByteArray))++bt142.1).size+1≤9223372036854775807 then (some (((((((⟨#[40]⟩:ByteArray)++bt138.1)++(⟨#[44,32]⟩:ByteArray))++bt140.1)++(⟨#[44,32]⟩:ByteArray))++bt142.1)++(⟨#[41]⟩:ByteArray),0)) else (none)) else (none)) else (none)) else (none)) else (none)) else (none))))) else (some ((⟨#[]⟩:ByteArray),1)))=some (r1,r2):=H
 have A2:=Aside0.mk A20
 clear A20
 by_cases c3:t137=true
 ·subst c3
  have H1:((Da.f A7 AA).bind fun bt138=>((Da.f AG AF).bind fun bt140=>((Da.f AE AD).bind fun bt142=>(if 1+bt138.1.size≤9223372036854775807 then (if ((⟨#[40]⟩:ByteArray)++bt138.1).size+2≤9223372036854775807 then (if (((⟨#[40]⟩:ByteArray)++bt138.1)++(⟨#[44,32]⟩:ByteArray)).size+bt140.1.size≤9223372036854775807 then (if ((((⟨#[40]⟩:ByteArray)++bt138.1)++(⟨#[44,32]⟩:ByteArray))++bt140.1).size+2≤9223372036854775807 then (if (((((⟨#[40]⟩:ByteArray)++bt138.1)++(⟨#[44,32]⟩:ByteArray))++bt140.1)++(⟨#[44,32]⟩:ByteArray)).size+bt142.1.size≤9223372036854775807 then (if ((((((⟨#[40]⟩:ByteArray)++bt138.1)++(⟨#[44,32]⟩:ByteArray))++bt140.1)++(⟨#[44,32]⟩:ByteArray))++bt142.1).size+1≤9223372036854775807 then (some (((((((⟨#[40]⟩:ByteArray)++bt138.1)++(⟨#[44,32]⟩:ByteArray))++bt140.1)++(⟨#[44,32]⟩:ByteArray))++bt142.1)++(⟨#[41]⟩:ByteArray),0)) else (none)) else (none)) else (none)) else (none)) else (none)) else (none)))))=some (r1,r2):=by rw [if_pos rfl] at H; exact H
  clear H
  have H:=H1
  clear H1
  replace H:=Option.bind_eq_some_iff.mp H
  obtain ⟨⟨t138,t139⟩,A40,H⟩:=H
  replace H:((Da.f AG AF).bind fun bt140=>((Da.f AE AD).bind fun bt142=>(if 1+t138.size≤9223372036854775807 then (if ((⟨#[40]⟩:ByteArray)++t138).size+2≤9223372036854775807 then (if (((⟨#[40]⟩:ByteArray)++t138)++(⟨#[44,32]⟩:ByteArray)).size+bt140.1.size≤9223372036854775807 then (if ((((⟨#[40]⟩:ByteArray)++t138)++(⟨#[44,32]⟩:ByteArray))++bt140.1).size+2≤9223372036854775807 then (if (((((⟨#[40]⟩:ByteArray)++t138)++(⟨#[44,32]⟩:ByteArray))++bt140.1)++(⟨#[44,32]⟩:ByteArray)).size+bt142.1.size≤9223372036854775807 then (if ((((((⟨#[40]⟩:ByteArray)++t138)++(⟨#[44,32]⟩:ByteArray))++bt140.1)++(⟨#[44,32]⟩:ByteArray))++bt142.1).size+1≤9223372036854775807 then (some (((((((⟨#[40]⟩:ByteArray)++t138)++(⟨#[44,32]⟩:ByteArray))++bt140.1)++(⟨#[44,32]⟩:ByteArray))++bt142.1)++(⟨#[41]⟩:ByteArray),0)) else (none)) else (none)) else (none)) else (none)) else (none)) else (none))))=some (r1,r2):=H
  have A4:=Aside0.mk A40
  clear A40
  replace H:=Option.bind_eq_some_iff.mp H
  obtain ⟨⟨t140,t141⟩,A50,H⟩:=H
  replace H:((Da.f AE AD).bind fun bt142=>(if 1+t138.size≤9223372036854775807 then (if ((⟨#[40]⟩:ByteArray)++t138).size+2≤9223372036854775807 then (if (((⟨#[40]⟩:ByteArray)++t138)++(⟨#[44,32]⟩:ByteArray)).size+t140.size≤9223372036854775807 then (if ((((⟨#[40]⟩:ByteArray)++t138)++(⟨#[44,32]⟩:ByteArray))++t140).size+2≤9223372036854775807 then (if (((((⟨#[40]⟩:ByteArray)++t138)++(⟨#[44,32]⟩:ByteArray))++t140)++(⟨#[44,32]⟩:ByteArray)).size+bt142.1.size≤9223372036854775807 then (if ((((((⟨#[40]⟩:ByteArray)++t138)++(⟨#[44,32]⟩:ByteArray))++t140)++(⟨#[44,32]⟩:ByteArray))++bt142.1).size+1≤9223372036854775807 then (some (((((((⟨#[40]⟩:ByteArray)++t138)++(⟨#[44,32]⟩:ByteArray))++t140)++(⟨#[44,32]⟩:ByteArray))++bt142.1)++(⟨#[41]⟩:ByteArray),0)) else (none)) else (none)) else (none)) else (none)) else (none)) else (none)))=some (r1,r2):=H
  have A5:=Aside0.mk A50
  clear A50
  replace H:=Option.bind_eq_some_iff.mp H
  obtain ⟨⟨t142,t143⟩,A60,H⟩:=H
  replace H:(if 1+t138.size≤9223372036854775807 then (if ((⟨#[40]⟩:ByteArray)++t138).size+2≤9223372036854775807 then (if (((⟨#[40]⟩:ByteArray)++t138)++(⟨#[44,32]⟩:ByteArray)).size+t140.size≤9223372036854775807 then (if ((((⟨#[40]⟩:ByteArray)++t138)++(⟨#[44,32]⟩:ByteArray))++t140).size+2≤9223372036854775807 then (if (((((⟨#[40]⟩:ByteArray)++t138)++(⟨#[44,32]⟩:ByteArray))++t140)++(⟨#[44,32]⟩:ByteArray)).size+t142.size≤9223372036854775807 then (if ((((((⟨#[40]⟩:ByteArray)++t138)++(⟨#[44,32]⟩:ByteArray))++t140)++(⟨#[44,32]⟩:ByteArray))++t142).size+1≤9223372036854775807 then (some (((((((⟨#[40]⟩:ByteArray)++t138)++(⟨#[44,32]⟩:ByteArray))++t140)++(⟨#[44,32]⟩:ByteArray))++t142)++(⟨#[41]⟩:ByteArray),0)) else (none)) else (none)) else (none)) else (none)) else (none)) else (none))=some (r1,r2):=H
  have A6:=Aside0.mk A60
  clear A60
  by_cases c7:1+t138.size≤9223372036854775807
  ·rw [if_pos c7] at H
   have c7b0:=eq_true c7
   have c7b1:decide (1+t138.size≤9223372036854775807)=true:=decide_eq_true c7
   try have c7b2:(9223372036854775807<1+t138.size)=False:=eq_false (Nat.not_lt.2 c7)
   (try have c7b3:=c7b2)
   (try simp only [ByteArray.size_append,ByteArray.size_extract,Ek,EK,F6,Ei,Eh,Ej,Nat.min_self,Nat.zero_add] at c7b3)
   by_cases c8:((⟨#[40]⟩:ByteArray)++t138).size+2≤9223372036854775807
   ·rw [if_pos c8] at H
    have c8b0:=eq_true c8
    have c8b1:decide (((⟨#[40]⟩:ByteArray)++t138).size+2≤9223372036854775807)=true:=decide_eq_true c8
    try have c8b2:(9223372036854775807<((⟨#[40]⟩:ByteArray)++t138).size+2)=False:=eq_false (Nat.not_lt.2 c8)
    (try have c8b3:=c8b2)
    (try simp only [ByteArray.size_append,ByteArray.size_extract,Ek,EK,F6,Ei,Eh,Ej,Nat.min_self,Nat.zero_add] at c8b3)
    by_cases c9:(((⟨#[40]⟩:ByteArray)++t138)++(⟨#[44,32]⟩:ByteArray)).size+t140.size≤9223372036854775807
    ·rw [if_pos c9] at H
     have c9b0:=eq_true c9
     have c9b1:decide ((((⟨#[40]⟩:ByteArray)++t138)++(⟨#[44,32]⟩:ByteArray)).size+t140.size≤9223372036854775807)=true:=decide_eq_true c9
     try have c9b2:(9223372036854775807<(((⟨#[40]⟩:ByteArray)++t138)++(⟨#[44,32]⟩:ByteArray)).size+t140.size)=False:=eq_false (Nat.not_lt.2 c9)
     (try have c9b3:=c9b2)
     (try simp only [ByteArray.size_append,ByteArray.size_extract,Ek,EK,F6,Ei,Eh,Ej,Nat.min_self,Nat.zero_add] at c9b3)
     by_cases c10:((((⟨#[40]⟩:ByteArray)++t138)++(⟨#[44,32]⟩:ByteArray))++t140).size+2≤9223372036854775807
     ·rw [if_pos c10] at H
      have c10b0:=eq_true c10
      have c10b1:decide (((((⟨#[40]⟩:ByteArray)++t138)++(⟨#[44,32]⟩:ByteArray))++t140).size+2≤9223372036854775807)=true:=decide_eq_true c10
      try have c10b2:(9223372036854775807<((((⟨#[40]⟩:ByteArray)++t138)++(⟨#[44,32]⟩:ByteArray))++t140).size+2)=False:=eq_false (Nat.not_lt.2 c10)
      (try have c10b3:=c10b2)
      (try simp only [ByteArray.size_append,ByteArray.size_extract,Ek,EK,F6,Ei,Eh,Ej,Nat.min_self,Nat.zero_add] at c10b3)
      by_cases c11:(((((⟨#[40]⟩:ByteArray)++t138)++(⟨#[44,32]⟩:ByteArray))++t140)++(⟨#[44,32]⟩:ByteArray)).size+t142.size≤9223372036854775807
      ·rw [if_pos c11] at H
       have c11b0:=eq_true c11
       have c11b1:decide ((((((⟨#[40]⟩:ByteArray)++t138)++(⟨#[44,32]⟩:ByteArray))++t140)++(⟨#[44,32]⟩:ByteArray)).size+t142.size≤9223372036854775807)=true:=decide_eq_true c11
       try have c11b2:(9223372036854775807<(((((⟨#[40]⟩:ByteArray)++t138)++(⟨#[44,32]⟩:ByteArray))++t140)++(⟨#[44,32]⟩:ByteArray)).size+t142.size)=False:=eq_false (Nat.not_lt.2 c11)
       (try have c11b3:=c11b2)
       (try simp only [ByteArray.size_append,ByteArray.size_extract,Ek,EK,F6,Ei,Eh,Ej,Nat.min_self,Nat.zero_add] at c11b3)
       by_cases c12:((((((⟨#[40]⟩:ByteArray)++t138)++(⟨#[44,32]⟩:ByteArray))++t140)++(⟨#[44,32]⟩:ByteArray))++t142).size+1≤9223372036854775807
       ·rw [if_pos c12] at H
        have c12b0:=eq_true c12
        have c12b1:decide (((((((⟨#[40]⟩:ByteArray)++t138)++(⟨#[44,32]⟩:ByteArray))++t140)++(⟨#[44,32]⟩:ByteArray))++t142).size+1≤9223372036854775807)=true:=decide_eq_true c12
        try have c12b2:(9223372036854775807<((((((⟨#[40]⟩:ByteArray)++t138)++(⟨#[44,32]⟩:ByteArray))++t140)++(⟨#[44,32]⟩:ByteArray))++t142).size+1)=False:=eq_false (Nat.not_lt.2 c12)
        (try have c12b3:=c12b2)
        (try simp only [ByteArray.size_append,ByteArray.size_extract,Ek,EK,F6,Ei,Eh,Ej,Nat.min_self,Nat.zero_add] at c12b3)
        simp only [zS,zP] at H
        obtain ⟨rfl,rfl⟩:=H
        go_enter Tryz.func47,Tryz.ntmps47
        go_wp2_with (first|((with_reducible refine Ed (N:=1) rfl ?_); refine Ea ?hg (N:=1) ?hd (cs:= #[.int .i64 A7,.int .i64 AA,.int .i64 AG,.int .i64 AF,.int .i64 AE,.int .i64 AD]) (t:=41) ?hr ?_; (case hd=>rfl); (case hg=>rfl); (case hr=>first|(go_simp; done)|(go_simp; rfl)); intro gb136 hg w13 hbox hb; have n0_:=Aside0.mk (Ce (by repeat (first|(with_reducible first|exact HB.out|apply Af|apply Ab|apply Ae)|exact HB.out)) hb); have n1_:=Aside0.mk (hbox); have n2_:=Aside0.mk ((by rw [hg]; exact (Do (by repeat (first|(with_reducible first|exact HB.out|apply Af|apply Ab|apply Ae)|exact HB.out))):w.heap.size≤gb136)); have n3_:=Aside0.mk ((by rw [hg]; exact (Do (by repeat (first|(with_reducible first|exact HB.out|apply Af|apply Ab|apply Ae)|exact HB.out))):w.heap.size≤gb136)); clear HB; have HB:=n0_; have BK136:=n1_; have GW136:=n2_; have GE136:=n3_; clear n0_ n1_ n2_ n3_; clear hb hbox hg; have hcz14_0:w13.cell? ⟨gb136,0,none⟩=some (.int .i64 A7):=(Ak BK136.out 0).trans rfl; have hcz14_1:w13.cell? ⟨gb136,1,none⟩=some (.int .i64 AA):=(Ak BK136.out 1).trans rfl; have hcz14_2:w13.cell? ⟨gb136,2,none⟩=some (.int .i64 AG):=(Ak BK136.out 2).trans rfl; have hcz14_3:w13.cell? ⟨gb136,3,none⟩=some (.int .i64 AF):=(Ak BK136.out 3).trans rfl; have hcz14_4:w13.cell? ⟨gb136,4,none⟩=some (.int .i64 AE):=(Ak BK136.out 4).trans rfl; have hcz14_5:w13.cell? ⟨gb136,5,none⟩=some (.int .i64 AD):=(Ak BK136.out 5).trans rfl; have hfz14_0:=Ai BK136.out 0; have hfz14_1:=Ai BK136.out 1; have hfz14_2:=Ai BK136.out 2; have hfz14_3:=Ai BK136.out 3; have hfz14_4:=Ai BK136.out 4; have hfz14_5:=Ai BK136.out 5)|((with_reducible refine E7 (f:=49) rfl ?_); refine Ex (some 11) rfl rfl Tryz.func49 (by kernel_rfl) rfl #[.agg #[.int .i64 A7,.int .i64 AA,.int .i64 AG,.int .i64 AF,.int .i64 AE,.int .i64 AD]] rfl (by (try simp only [List.map_toArray,List.map_cons,List.map_nil]); first|done|rfl|(simp only [List.length_drop,List.length_take]; rfl)) ?_; (with_reducible refine (Bo.calls A7 AA AG AF AE AD true _ A2.out).mono ?_); rintro e w15 ⟨rfl,hb⟩; refine ⟨_,rfl,?_⟩; have n0_:=Aside0.mk (ED (g:=gb136) (o:= .cells #[.int .i64 A7,.int .i64 AA,.int .i64 AG,.int .i64 AF,.int .i64 AE,.int .i64 AD] 41 (0,0)) (by (with_reducible repeat (first|refine EC ?_ _|refine EI ?_|refine EE ?_ _)); exact BK136.out) hb); have n1_:=Aside0.mk (Ce (by repeat (first|(with_reducible first|exact HB.out|apply Af|apply Ab|apply Ae|refine Dc ?_ GE136.out)|exact HB.out)) hb); clear BK136; clear HB; have BK136:=n0_; have HB:=n1_; clear n0_ n1_; (try clear hb); (try clear hb2); (try clear hk); (try clear hi); have hcz16_0:w15.cell? ⟨gb136,0,none⟩=some (.int .i64 A7):=(Ak BK136.out 0).trans rfl; have hcz16_1:w15.cell? ⟨gb136,1,none⟩=some (.int .i64 AA):=(Ak BK136.out 1).trans rfl; have hcz16_2:w15.cell? ⟨gb136,2,none⟩=some (.int .i64 AG):=(Ak BK136.out 2).trans rfl; have hcz16_3:w15.cell? ⟨gb136,3,none⟩=some (.int .i64 AF):=(Ak BK136.out 3).trans rfl; have hcz16_4:w15.cell? ⟨gb136,4,none⟩=some (.int .i64 AE):=(Ak BK136.out 4).trans rfl; have hcz16_5:w15.cell? ⟨gb136,5,none⟩=some (.int .i64 AD):=(Ak BK136.out 5).trans rfl; have hfz16_0:=Ai BK136.out 0; have hfz16_1:=Ai BK136.out 1; have hfz16_2:=Ai BK136.out 2; have hfz16_3:=Ai BK136.out 3; have hfz16_4:=Ai BK136.out 4; have hfz16_5:=Ai BK136.out 5)|((with_reducible refine E7 (f:=93) rfl ?_); refine Ex (some 16) rfl rfl Tryz.func93 (by kernel_rfl) rfl #[.agg #[.int .i64 A7,.int .i64 AA]] rfl (by (try simp only [List.map_toArray,List.map_cons,List.map_nil]); first|done|rfl|(simp only [List.length_drop,List.length_take]; rfl)) ?_; (with_reducible refine (Da.calls A7 AA t138 t139 _ A4.out (Tab.below HTB.out (by repeat (first|(with_reducible first|exact HB.out|apply Af|apply Ab|apply Ae|refine Dc ?_ GE136.out)|exact HB.out)))).mono ?_); rintro e w17 ⟨rfl,hb⟩; refine ⟨_,rfl,?_⟩; have n0_:=Aside0.mk (ED (g:=gb136) (o:= .cells #[.int .i64 A7,.int .i64 AA,.int .i64 AG,.int .i64 AF,.int .i64 AE,.int .i64 AD] 41 (0,0)) (by (with_reducible repeat (first|refine EC ?_ _|refine EI ?_|refine EE ?_ _)); exact BK136.out) hb); have n1_:=Aside0.mk (Ce (by repeat (first|(with_reducible first|exact HB.out|apply Af|apply Ab|apply Ae|refine Dc ?_ GE136.out)|exact HB.out)) hb); clear BK136; clear HB; have BK136:=n0_; have HB:=n1_; clear n0_ n1_; (try clear hb); (try clear hb2); (try clear hk); (try clear hi); have hcz18_0:w17.cell? ⟨gb136,0,none⟩=some (.int .i64 A7):=(Ak BK136.out 0).trans rfl; have hcz18_1:w17.cell? ⟨gb136,1,none⟩=some (.int .i64 AA):=(Ak BK136.out 1).trans rfl; have hcz18_2:w17.cell? ⟨gb136,2,none⟩=some (.int .i64 AG):=(Ak BK136.out 2).trans rfl; have hcz18_3:w17.cell? ⟨gb136,3,none⟩=some (.int .i64 AF):=(Ak BK136.out 3).trans rfl; have hcz18_4:w17.cell? ⟨gb136,4,none⟩=some (.int .i64 AE):=(Ak BK136.out 4).trans rfl; have hcz18_5:w17.cell? ⟨gb136,5,none⟩=some (.int .i64 AD):=(Ak BK136.out 5).trans rfl; have hfz18_0:=Ai BK136.out 0; have hfz18_1:=Ai BK136.out 1; have hfz18_2:=Ai BK136.out 2; have hfz18_3:=Ai BK136.out 3; have hfz18_4:=Ai BK136.out 4; have hfz18_5:=Ai BK136.out 5)|((with_reducible refine E7 (f:=93) rfl ?_); refine Ex (some 22) rfl rfl Tryz.func93 (by kernel_rfl) rfl #[.agg #[.int .i64 AG,.int .i64 AF]] rfl (by (try simp only [List.map_toArray,List.map_cons,List.map_nil]); first|done|rfl|(simp only [List.length_drop,List.length_take]; rfl)) ?_; (with_reducible refine (Da.calls AG AF t140 t141 _ A5.out (Tab.below HTB.out (by repeat (first|(with_reducible first|exact HB.out|apply Af|apply Ab|apply Ae|refine Dc ?_ GE136.out)|exact HB.out)))).mono ?_); rintro e w19 ⟨rfl,hb⟩; refine ⟨_,rfl,?_⟩; have n0_:=Aside0.mk (ED (g:=gb136) (o:= .cells #[.int .i64 A7,.int .i64 AA,.int .i64 AG,.int .i64 AF,.int .i64 AE,.int .i64 AD] 41 (0,0)) (by (with_reducible repeat (first|refine EC ?_ _|refine EI ?_|refine EE ?_ _)); exact BK136.out) hb); have n1_:=Aside0.mk (Ce (by repeat (first|(with_reducible first|exact HB.out|apply Af|apply Ab|apply Ae|refine Dc ?_ GE136.out)|exact HB.out)) hb); clear BK136; clear HB; have BK136:=n0_; have HB:=n1_; clear n0_ n1_; (try clear hb); (try clear hb2); (try clear hk); (try clear hi); have hcz20_0:w19.cell? ⟨gb136,0,none⟩=some (.int .i64 A7):=(Ak BK136.out 0).trans rfl; have hcz20_1:w19.cell? ⟨gb136,1,none⟩=some (.int .i64 AA):=(Ak BK136.out 1).trans rfl; have hcz20_2:w19.cell? ⟨gb136,2,none⟩=some (.int .i64 AG):=(Ak BK136.out 2).trans rfl; have hcz20_3:w19.cell? ⟨gb136,3,none⟩=some (.int .i64 AF):=(Ak BK136.out 3).trans rfl; have hcz20_4:w19.cell? ⟨gb136,4,none⟩=some (.int .i64 AE):=(Ak BK136.out 4).trans rfl; have hcz20_5:w19.cell? ⟨gb136,5,none⟩=some (.int .i64 AD):=(Ak BK136.out 5).trans rfl; have hfz20_0:=Ai BK136.out 0; have hfz20_1:=Ai BK136.out 1; have hfz20_2:=Ai BK136.out 2; have hfz20_3:=Ai BK136.out 3; have hfz20_4:=Ai BK136.out 4; have hfz20_5:=Ai BK136.out 5)|((with_reducible refine E7 (f:=93) rfl ?_); refine Ex (some 28) rfl rfl Tryz.func93 (by kernel_rfl) rfl #[.agg #[.int .i64 AE,.int .i64 AD]] rfl (by (try simp only [List.map_toArray,List.map_cons,List.map_nil]); first|done|rfl|(simp only [List.length_drop,List.length_take]; rfl)) ?_; (with_reducible refine (Da.calls AE AD t142 t143 _ A6.out (Tab.below HTB.out (by repeat (first|(with_reducible first|exact HB.out|apply Af|apply Ab|apply Ae|refine Dc ?_ GE136.out)|exact HB.out)))).mono ?_); rintro e w21 ⟨rfl,hb⟩; refine ⟨_,rfl,?_⟩; have n0_:=Aside0.mk (ED (g:=gb136) (o:= .cells #[.int .i64 A7,.int .i64 AA,.int .i64 AG,.int .i64 AF,.int .i64 AE,.int .i64 AD] 41 (0,0)) (by (with_reducible repeat (first|refine EC ?_ _|refine EI ?_|refine EE ?_ _)); exact BK136.out) hb); have n1_:=Aside0.mk (Ce (by repeat (first|(with_reducible first|exact HB.out|apply Af|apply Ab|apply Ae|refine Dc ?_ GE136.out)|exact HB.out)) hb); clear BK136; clear HB; have BK136:=n0_; have HB:=n1_; clear n0_ n1_; (try clear hb); (try clear hb2); (try clear hk); (try clear hi)))
        go_ret2
        exact ⟨by first|rfl|(simp [Dk,Dj]<;>rfl)|(simp [*,Dk,Dj]<;>rfl),by repeat (first|(with_reducible first|exact HB.out|apply Af|apply Ab|apply Ae|refine Dc ?_ GE136.out)|exact HB.out)⟩
       ·rw [if_neg c12] at H
        exact absurd H (by simp)
      ·rw [if_neg c11] at H
       exact absurd H (by simp)
     ·rw [if_neg c10] at H
      exact absurd H (by simp)
    ·rw [if_neg c9] at H
     exact absurd H (by simp)
   ·rw [if_neg c8] at H
    exact absurd H (by simp)
  ·rw [if_neg c7] at H
   exact absurd H (by simp)
 ·replace c3:=Bool.eq_false_iff.mpr c3
  subst c3
  have H1:(some ((⟨#[]⟩:ByteArray),1))=some (r1,r2):=by rw [if_neg (show ¬(false=true) by decide)] at H; exact H
  clear H
  have H:=H1
  clear H1
  simp only [zS,zP] at H
  obtain ⟨rfl,rfl⟩:=H
  go_enter Tryz.func47,Tryz.ntmps47
  go_wp2_with (first|((with_reducible refine Ed (N:=1) rfl ?_); refine Ea ?hg (N:=1) ?hd (cs:= #[.int .i64 A7,.int .i64 AA,.int .i64 AG,.int .i64 AF,.int .i64 AE,.int .i64 AD]) (t:=41) ?hr ?_; (case hd=>rfl); (case hg=>rfl); (case hr=>first|(go_simp; done)|(go_simp; rfl)); intro gb136 hg w22 hbox hb; have n0_:=Aside0.mk (Ce (by repeat (first|(with_reducible first|exact HB.out|apply Af|apply Ab|apply Ae)|exact HB.out)) hb); have n1_:=Aside0.mk (hbox); have n2_:=Aside0.mk ((by rw [hg]; exact (Do (by repeat (first|(with_reducible first|exact HB.out|apply Af|apply Ab|apply Ae)|exact HB.out))):w.heap.size≤gb136)); have n3_:=Aside0.mk ((by rw [hg]; exact (Do (by repeat (first|(with_reducible first|exact HB.out|apply Af|apply Ab|apply Ae)|exact HB.out))):w.heap.size≤gb136)); clear HB; have HB:=n0_; have BK136:=n1_; have GW136:=n2_; have GE136:=n3_; clear n0_ n1_ n2_ n3_; clear hb hbox hg; have hcz23_0:w22.cell? ⟨gb136,0,none⟩=some (.int .i64 A7):=(Ak BK136.out 0).trans rfl; have hcz23_1:w22.cell? ⟨gb136,1,none⟩=some (.int .i64 AA):=(Ak BK136.out 1).trans rfl; have hcz23_2:w22.cell? ⟨gb136,2,none⟩=some (.int .i64 AG):=(Ak BK136.out 2).trans rfl; have hcz23_3:w22.cell? ⟨gb136,3,none⟩=some (.int .i64 AF):=(Ak BK136.out 3).trans rfl; have hcz23_4:w22.cell? ⟨gb136,4,none⟩=some (.int .i64 AE):=(Ak BK136.out 4).trans rfl; have hcz23_5:w22.cell? ⟨gb136,5,none⟩=some (.int .i64 AD):=(Ak BK136.out 5).trans rfl; have hfz23_0:=Ai BK136.out 0; have hfz23_1:=Ai BK136.out 1; have hfz23_2:=Ai BK136.out 2; have hfz23_3:=Ai BK136.out 3; have hfz23_4:=Ai BK136.out 4; have hfz23_5:=Ai BK136.out 5)|((with_reducible refine E7 (f:=49) rfl ?_); refine Ex (some 11) rfl rfl Tryz.func49 (by kernel_rfl) rfl #[.agg #[.int .i64 A7,.int .i64 AA,.int .i64 AG,.int .i64 AF,.int .i64 AE,.int .i64 AD]] rfl (by (try simp only [List.map_toArray,List.map_cons,List.map_nil]); first|done|rfl|(simp only [List.length_drop,List.length_take]; rfl)) ?_; (with_reducible refine (Bo.calls A7 AA AG AF AE AD false _ A2.out).mono ?_); rintro e w24 ⟨rfl,hb⟩; refine ⟨_,rfl,?_⟩; have n0_:=Aside0.mk (ED (g:=gb136) (o:= .cells #[.int .i64 A7,.int .i64 AA,.int .i64 AG,.int .i64 AF,.int .i64 AE,.int .i64 AD] 41 (0,0)) (by (with_reducible repeat (first|refine EC ?_ _|refine EI ?_|refine EE ?_ _)); exact BK136.out) hb); have n1_:=Aside0.mk (Ce (by repeat (first|(with_reducible first|exact HB.out|apply Af|apply Ab|apply Ae|refine Dc ?_ GE136.out)|exact HB.out)) hb); clear BK136; clear HB; have BK136:=n0_; have HB:=n1_; clear n0_ n1_; (try clear hb); (try clear hb2); (try clear hk); (try clear hi)))
  go_ret2
  exact ⟨by first|rfl|(simp [Dk,Dj]<;>rfl)|(simp [*,Dk,Dj]<;>rfl),by repeat (first|(with_reducible first|exact HB.out|apply Af|apply Ab|apply Ae|refine Dc ?_ GE136.out)|exact HB.out)⟩
def Ad.f (A7:Int) (AA:Int):Option (Bool):=if (-1073741824)≤A7 then (if A7≤AA then (some (decide (AA≤1073741824))) else (some false)) else (some false)
set_option maxHeartbeats 8000000 in
theorem Ad.calls (A7:Int) (AA:Int) (r:Bool) (w:World) (h:Ad.f A7 AA=some r):
  Calls Tryz.prog 76 #[.agg #[.int .i64 A7,.int .i64 AA]] w fun e w'=>e= .returned (.bool r)∧Below w.heap.size w w':=by
 have hu39:=Tryz.underlying39
 have HB:=Aside0.mk (Below.refl w.heap.size w)
 have H:(if (-1073741824)≤A7 then (if A7≤AA then (some (decide (AA≤1073741824))) else (some false)) else (some false))=some r:=h
 clear h
 by_cases c2:(-1073741824)≤A7
 ·rw [if_pos c2] at H
  have c2b0:decide ((-1073741824)≤A7)=true:=decide_eq_true c2
  clear c2
  by_cases c3:A7≤AA
  ·rw [if_pos c3] at H
   have c3b0:decide (A7≤AA)=true:=decide_eq_true c3
   clear c3
   obtain rfl:=Option.some.inj H
   go_enter Tryz.func76,Tryz.ntmps76
   go_wp2_with (first|((with_reducible refine Ed (N:=1) rfl ?_); refine Ea ?hg (N:=1) ?hd (cs:= #[.int .i64 A7,.int .i64 AA]) (t:=39) ?hr ?_; (case hd=>rfl); (case hg=>rfl); (case hr=>first|(go_simp; done)|(go_simp; rfl)); intro gb144 hg w4 hbox hb; have n0_:=Aside0.mk (Ce (by repeat (first|(with_reducible first|exact HB.out|apply Af|apply Ab|apply Ae)|exact HB.out)) hb); have n1_:=Aside0.mk (hbox); have n2_:=Aside0.mk ((by rw [hg]; exact (Do (by repeat (first|(with_reducible first|exact HB.out|apply Af|apply Ab|apply Ae)|exact HB.out))):w.heap.size≤gb144)); have n3_:=Aside0.mk ((by rw [hg]; exact (Do (by repeat (first|(with_reducible first|exact HB.out|apply Af|apply Ab|apply Ae)|exact HB.out))):w.heap.size≤gb144)); clear HB; have HB:=n0_; have BK144:=n1_; have GW144:=n2_; have GE144:=n3_; clear n0_ n1_ n2_ n3_; clear hb hbox hg; have hcz5_0:w4.cell? ⟨gb144,0,none⟩=some (.int .i64 A7):=(Ak BK144.out 0).trans rfl; have hcz5_1:w4.cell? ⟨gb144,1,none⟩=some (.int .i64 AA):=(Ak BK144.out 1).trans rfl; have hfz5_0:=Ai BK144.out 0; have hfz5_1:=Ai BK144.out 1))
   go_ret
   exact ⟨by first|rfl|(simp [Dk,Dj]<;>rfl)|(simp [*,Dk,Dj]<;>rfl),by repeat (first|(with_reducible first|exact HB.out|apply Af|apply Ab|apply Ae|refine Dc ?_ GE144.out)|exact HB.out)⟩
  ·rw [if_neg c3] at H
   have c3b0:decide (A7≤AA)=false:=decide_eq_false c3
   clear c3
   obtain rfl:=Option.some.inj H
   go_enter Tryz.func76,Tryz.ntmps76
   go_wp2_with (first|((with_reducible refine Ed (N:=1) rfl ?_); refine Ea ?hg (N:=1) ?hd (cs:= #[.int .i64 A7,.int .i64 AA]) (t:=39) ?hr ?_; (case hd=>rfl); (case hg=>rfl); (case hr=>first|(go_simp; done)|(go_simp; rfl)); intro gb144 hg w6 hbox hb; have n0_:=Aside0.mk (Ce (by repeat (first|(with_reducible first|exact HB.out|apply Af|apply Ab|apply Ae)|exact HB.out)) hb); have n1_:=Aside0.mk (hbox); have n2_:=Aside0.mk ((by rw [hg]; exact (Do (by repeat (first|(with_reducible first|exact HB.out|apply Af|apply Ab|apply Ae)|exact HB.out))):w.heap.size≤gb144)); have n3_:=Aside0.mk ((by rw [hg]; exact (Do (by repeat (first|(with_reducible first|exact HB.out|apply Af|apply Ab|apply Ae)|exact HB.out))):w.heap.size≤gb144)); clear HB; have HB:=n0_; have BK144:=n1_; have GW144:=n2_; have GE144:=n3_; clear n0_ n1_ n2_ n3_; clear hb hbox hg; have hcz7_0:w6.cell? ⟨gb144,0,none⟩=some (.int .i64 A7):=(Ak BK144.out 0).trans rfl; have hcz7_1:w6.cell? ⟨gb144,1,none⟩=some (.int .i64 AA):=(Ak BK144.out 1).trans rfl; have hfz7_0:=Ai BK144.out 0; have hfz7_1:=Ai BK144.out 1))
   go_ret
   exact ⟨by first|rfl|(simp [Dk,Dj]<;>rfl)|(simp [*,Dk,Dj]<;>rfl),by repeat (first|(with_reducible first|exact HB.out|apply Af|apply Ab|apply Ae|refine Dc ?_ GE144.out)|exact HB.out)⟩
 ·rw [if_neg c2] at H
  have c2b0:decide ((-1073741824)≤A7)=false:=decide_eq_false c2
  clear c2
  obtain rfl:=Option.some.inj H
  go_enter Tryz.func76,Tryz.ntmps76
  go_wp2_with (first|((with_reducible refine Ed (N:=1) rfl ?_); refine Ea ?hg (N:=1) ?hd (cs:= #[.int .i64 A7,.int .i64 AA]) (t:=39) ?hr ?_; (case hd=>rfl); (case hg=>rfl); (case hr=>first|(go_simp; done)|(go_simp; rfl)); intro gb144 hg w8 hbox hb; have n0_:=Aside0.mk (Ce (by repeat (first|(with_reducible first|exact HB.out|apply Af|apply Ab|apply Ae)|exact HB.out)) hb); have n1_:=Aside0.mk (hbox); have n2_:=Aside0.mk ((by rw [hg]; exact (Do (by repeat (first|(with_reducible first|exact HB.out|apply Af|apply Ab|apply Ae)|exact HB.out))):w.heap.size≤gb144)); have n3_:=Aside0.mk ((by rw [hg]; exact (Do (by repeat (first|(with_reducible first|exact HB.out|apply Af|apply Ab|apply Ae)|exact HB.out))):w.heap.size≤gb144)); clear HB; have HB:=n0_; have BK144:=n1_; have GW144:=n2_; have GE144:=n3_; clear n0_ n1_ n2_ n3_; clear hb hbox hg; have hcz9_0:w8.cell? ⟨gb144,0,none⟩=some (.int .i64 A7):=(Ak BK144.out 0).trans rfl; have hcz9_1:w8.cell? ⟨gb144,1,none⟩=some (.int .i64 AA):=(Ak BK144.out 1).trans rfl; have hfz9_0:=Ai BK144.out 0; have hfz9_1:=Ai BK144.out 1))
  go_ret
  exact ⟨by first|rfl|(simp [Dk,Dj]<;>rfl)|(simp [*,Dk,Dj]<;>rfl),by repeat (first|(with_reducible first|exact HB.out|apply Af|apply Ab|apply Ae|refine Dc ?_ GE144.out)|exact HB.out)⟩
def Bi.f (A7:Int) (AA:Int) (AG:Int) (AF:Int) (AE:Int) (AD:Int):Option (Bool):=(Ad.f A7 AA).bind fun t146=>(if t146=true then ((Ad.f AG AF).bind fun t147=>(if t147=true then ((Ad.f AE AD).bind fun t148=>(some t148)) else (some false))) else (some false))
set_option maxHeartbeats 8000000 in
theorem Bi.calls (A7:Int) (AA:Int) (AG:Int) (AF:Int) (AE:Int) (AD:Int) (r:Bool) (w:World) (h:Bi.f A7 AA AG AF AE AD=some r):
  Calls Tryz.prog 34 #[.agg #[.int .i64 A7,.int .i64 AA,.int .i64 AG,.int .i64 AF,.int .i64 AE,.int .i64 AD]] w fun e w'=>e= .returned (.bool r)∧Below w.heap.size w w':=by
 have hu53:=Tryz.underlying53
 have hu39:=Tryz.underlying39
 have HB:=Aside0.mk (Below.refl w.heap.size w)
 have H:((Ad.f A7 AA).bind fun t146=>(if t146=true then ((Ad.f AG AF).bind fun t147=>(if t147=true then ((Ad.f AE AD).bind fun t148=>(some t148)) else (some false))) else (some false)))=some r:=h
 clear h
 replace H:=Option.bind_eq_some_iff.mp H
 obtain ⟨t146,A20,H⟩:=H
 replace H:(if t146=true then ((Ad.f AG AF).bind fun t147=>(if t147=true then ((Ad.f AE AD).bind fun t148=>(some t148)) else (some false))) else (some false))=some r:=H
 have A2:=Aside0.mk A20
 clear A20
 by_cases c3:t146=true
 ·subst c3
  have H1:((Ad.f AG AF).bind fun t147=>(if t147=true then ((Ad.f AE AD).bind fun t148=>(some t148)) else (some false)))=some r:=by rw [if_pos rfl] at H; exact H
  clear H
  have H:=H1
  clear H1
  replace H:=Option.bind_eq_some_iff.mp H
  obtain ⟨t147,A40,H⟩:=H
  replace H:(if t147=true then ((Ad.f AE AD).bind fun t148=>(some t148)) else (some false))=some r:=H
  have A4:=Aside0.mk A40
  clear A40
  by_cases c5:t147=true
  ·subst c5
   have H1:((Ad.f AE AD).bind fun t148=>(some t148))=some r:=by rw [if_pos rfl] at H; exact H
   clear H
   have H:=H1
   clear H1
   replace H:=Option.bind_eq_some_iff.mp H
   obtain ⟨t148,A60,H⟩:=H
   replace H:(some t148)=some r:=H
   have A6:=Aside0.mk A60
   clear A60
   obtain rfl:=Option.some.inj H
   go_enter Tryz.func34,Tryz.ntmps34
   go_wp2_with (first|((with_reducible refine Ed (N:=1) rfl ?_); refine Ea ?hg (N:=1) ?hd (cs:= #[.int .i64 A7,.int .i64 AA,.int .i64 AG,.int .i64 AF,.int .i64 AE,.int .i64 AD]) (t:=53) ?hr ?_; (case hd=>rfl); (case hg=>rfl); (case hr=>first|(go_simp; done)|(go_simp; rfl)); intro gb145 hg w7 hbox hb; have n0_:=Aside0.mk (Ce (by repeat (first|(with_reducible first|exact HB.out|apply Af|apply Ab|apply Ae)|exact HB.out)) hb); have n1_:=Aside0.mk (hbox); have n2_:=Aside0.mk ((by rw [hg]; exact (Do (by repeat (first|(with_reducible first|exact HB.out|apply Af|apply Ab|apply Ae)|exact HB.out))):w.heap.size≤gb145)); have n3_:=Aside0.mk ((by rw [hg]; exact (Do (by repeat (first|(with_reducible first|exact HB.out|apply Af|apply Ab|apply Ae)|exact HB.out))):w.heap.size≤gb145)); clear HB; have HB:=n0_; have BK145:=n1_; have GW145:=n2_; have GE145:=n3_; clear n0_ n1_ n2_ n3_; clear hb hbox hg; have hcz8_0:w7.cell? ⟨gb145,0,none⟩=some (.int .i64 A7):=(Ak BK145.out 0).trans rfl; have hcz8_1:w7.cell? ⟨gb145,1,none⟩=some (.int .i64 AA):=(Ak BK145.out 1).trans rfl; have hcz8_2:w7.cell? ⟨gb145,2,none⟩=some (.int .i64 AG):=(Ak BK145.out 2).trans rfl; have hcz8_3:w7.cell? ⟨gb145,3,none⟩=some (.int .i64 AF):=(Ak BK145.out 3).trans rfl; have hcz8_4:w7.cell? ⟨gb145,4,none⟩=some (.int .i64 AE):=(Ak BK145.out 4).trans rfl; have hcz8_5:w7.cell? ⟨gb145,5,none⟩=some (.int .i64 AD):=(Ak BK145.out 5).trans rfl; have hfz8_0:=Ai BK145.out 0; have hfz8_1:=Ai BK145.out 1; have hfz8_2:=Ai BK145.out 2; have hfz8_3:=Ai BK145.out 3; have hfz8_4:=Ai BK145.out 4; have hfz8_5:=Ai BK145.out 5)|((with_reducible refine E7 (f:=76) rfl ?_); refine Ex (some 5) rfl rfl Tryz.func76 (by kernel_rfl) rfl #[.agg #[.int .i64 A7,.int .i64 AA]] rfl (by (try simp only [List.map_toArray,List.map_cons,List.map_nil]); first|done|rfl|(simp only [List.length_drop,List.length_take]; rfl)) ?_; (with_reducible refine (Ad.calls A7 AA true _ A2.out).mono ?_); rintro e w9 ⟨rfl,hb⟩; refine ⟨_,rfl,?_⟩; have n0_:=Aside0.mk (ED (g:=gb145) (o:= .cells #[.int .i64 A7,.int .i64 AA,.int .i64 AG,.int .i64 AF,.int .i64 AE,.int .i64 AD] 53 (0,0)) (by (with_reducible repeat (first|refine EC ?_ _|refine EI ?_|refine EE ?_ _)); exact BK145.out) hb); have n1_:=Aside0.mk (Ce (by repeat (first|(with_reducible first|exact HB.out|apply Af|apply Ab|apply Ae|refine Dc ?_ GE145.out)|exact HB.out)) hb); clear BK145; clear HB; have BK145:=n0_; have HB:=n1_; clear n0_ n1_; (try clear hb); (try clear hb2); (try clear hk); (try clear hi); have hcz10_0:w9.cell? ⟨gb145,0,none⟩=some (.int .i64 A7):=(Ak BK145.out 0).trans rfl; have hcz10_1:w9.cell? ⟨gb145,1,none⟩=some (.int .i64 AA):=(Ak BK145.out 1).trans rfl; have hcz10_2:w9.cell? ⟨gb145,2,none⟩=some (.int .i64 AG):=(Ak BK145.out 2).trans rfl; have hcz10_3:w9.cell? ⟨gb145,3,none⟩=some (.int .i64 AF):=(Ak BK145.out 3).trans rfl; have hcz10_4:w9.cell? ⟨gb145,4,none⟩=some (.int .i64 AE):=(Ak BK145.out 4).trans rfl; have hcz10_5:w9.cell? ⟨gb145,5,none⟩=some (.int .i64 AD):=(Ak BK145.out 5).trans rfl; have hfz10_0:=Ai BK145.out 0; have hfz10_1:=Ai BK145.out 1; have hfz10_2:=Ai BK145.out 2; have hfz10_3:=Ai BK145.out 3; have hfz10_4:=Ai BK145.out 4; have hfz10_5:=Ai BK145.out 5)|(go_at_call 76; (with_reducible refine (Ad.calls AG AF true _ A4.out).mono ?_); rintro e w11 ⟨rfl,hb⟩; have n0_:=Aside0.mk (ED (g:=gb145) (o:= .cells #[.int .i64 A7,.int .i64 AA,.int .i64 AG,.int .i64 AF,.int .i64 AE,.int .i64 AD] 53 (0,0)) (by (with_reducible repeat (first|refine EC ?_ _|refine EI ?_|refine EE ?_ _)); exact BK145.out) hb); have n1_:=Aside0.mk (Ce (by repeat (first|(with_reducible first|exact HB.out|apply Af|apply Ab|apply Ae|refine Dc ?_ GE145.out)|exact HB.out)) hb); clear BK145; clear HB; have BK145:=n0_; have HB:=n1_; clear n0_ n1_; (try clear hb); (try clear hb2); (try clear hk); (try clear hi); have hcz12_0:w11.cell? ⟨gb145,0,none⟩=some (.int .i64 A7):=(Ak BK145.out 0).trans rfl; have hcz12_1:w11.cell? ⟨gb145,1,none⟩=some (.int .i64 AA):=(Ak BK145.out 1).trans rfl; have hcz12_2:w11.cell? ⟨gb145,2,none⟩=some (.int .i64 AG):=(Ak BK145.out 2).trans rfl; have hcz12_3:w11.cell? ⟨gb145,3,none⟩=some (.int .i64 AF):=(Ak BK145.out 3).trans rfl; have hcz12_4:w11.cell? ⟨gb145,4,none⟩=some (.int .i64 AE):=(Ak BK145.out 4).trans rfl; have hcz12_5:w11.cell? ⟨gb145,5,none⟩=some (.int .i64 AD):=(Ak BK145.out 5).trans rfl; have hfz12_0:=Ai BK145.out 0; have hfz12_1:=Ai BK145.out 1; have hfz12_2:=Ai BK145.out 2; have hfz12_3:=Ai BK145.out 3; have hfz12_4:=Ai BK145.out 4; have hfz12_5:=Ai BK145.out 5)|(go_at_call 76; (with_reducible refine (Ad.calls AE AD t148 _ A6.out).mono ?_); rintro e w13 ⟨rfl,hb⟩; have n0_:=Aside0.mk (ED (g:=gb145) (o:= .cells #[.int .i64 A7,.int .i64 AA,.int .i64 AG,.int .i64 AF,.int .i64 AE,.int .i64 AD] 53 (0,0)) (by (with_reducible repeat (first|refine EC ?_ _|refine EI ?_|refine EE ?_ _)); exact BK145.out) hb); have n1_:=Aside0.mk (Ce (by repeat (first|(with_reducible first|exact HB.out|apply Af|apply Ab|apply Ae|refine Dc ?_ GE145.out)|exact HB.out)) hb); clear BK145; clear HB; have BK145:=n0_; have HB:=n1_; clear n0_ n1_; (try clear hb); (try clear hb2); (try clear hk); (try clear hi)))
   go_ret
   exact ⟨by first|rfl|(simp [Dk,Dj]<;>rfl)|(simp [*,Dk,Dj]<;>rfl),by repeat (first|(with_reducible first|exact HB.out|apply Af|apply Ab|apply Ae|refine Dc ?_ GE145.out)|exact HB.out)⟩
  ·replace c5:=Bool.eq_false_iff.mpr c5
   subst c5
   have H1:(some false)=some r:=by rw [if_neg (show ¬(false=true) by decide)] at H; exact H
   clear H
   have H:=H1
   clear H1
   obtain rfl:=Option.some.inj H
   go_enter Tryz.func34,Tryz.ntmps34
   go_wp2_with (first|((with_reducible refine Ed (N:=1) rfl ?_); refine Ea ?hg (N:=1) ?hd (cs:= #[.int .i64 A7,.int .i64 AA,.int .i64 AG,.int .i64 AF,.int .i64 AE,.int .i64 AD]) (t:=53) ?hr ?_; (case hd=>rfl); (case hg=>rfl); (case hr=>first|(go_simp; done)|(go_simp; rfl)); intro gb145 hg w14 hbox hb; have n0_:=Aside0.mk (Ce (by repeat (first|(with_reducible first|exact HB.out|apply Af|apply Ab|apply Ae)|exact HB.out)) hb); have n1_:=Aside0.mk (hbox); have n2_:=Aside0.mk ((by rw [hg]; exact (Do (by repeat (first|(with_reducible first|exact HB.out|apply Af|apply Ab|apply Ae)|exact HB.out))):w.heap.size≤gb145)); have n3_:=Aside0.mk ((by rw [hg]; exact (Do (by repeat (first|(with_reducible first|exact HB.out|apply Af|apply Ab|apply Ae)|exact HB.out))):w.heap.size≤gb145)); clear HB; have HB:=n0_; have BK145:=n1_; have GW145:=n2_; have GE145:=n3_; clear n0_ n1_ n2_ n3_; clear hb hbox hg; have hcz15_0:w14.cell? ⟨gb145,0,none⟩=some (.int .i64 A7):=(Ak BK145.out 0).trans rfl; have hcz15_1:w14.cell? ⟨gb145,1,none⟩=some (.int .i64 AA):=(Ak BK145.out 1).trans rfl; have hcz15_2:w14.cell? ⟨gb145,2,none⟩=some (.int .i64 AG):=(Ak BK145.out 2).trans rfl; have hcz15_3:w14.cell? ⟨gb145,3,none⟩=some (.int .i64 AF):=(Ak BK145.out 3).trans rfl; have hcz15_4:w14.cell? ⟨gb145,4,none⟩=some (.int .i64 AE):=(Ak BK145.out 4).trans rfl; have hcz15_5:w14.cell? ⟨gb145,5,none⟩=some (.int .i64 AD):=(Ak BK145.out 5).trans rfl; have hfz15_0:=Ai BK145.out 0; have hfz15_1:=Ai BK145.out 1; have hfz15_2:=Ai BK145.out 2; have hfz15_3:=Ai BK145.out 3; have hfz15_4:=Ai BK145.out 4; have hfz15_5:=Ai BK145.out 5)|((with_reducible refine E7 (f:=76) rfl ?_); refine Ex (some 5) rfl rfl Tryz.func76 (by kernel_rfl) rfl #[.agg #[.int .i64 A7,.int .i64 AA]] rfl (by (try simp only [List.map_toArray,List.map_cons,List.map_nil]); first|done|rfl|(simp only [List.length_drop,List.length_take]; rfl)) ?_; (with_reducible refine (Ad.calls A7 AA true _ A2.out).mono ?_); rintro e w16 ⟨rfl,hb⟩; refine ⟨_,rfl,?_⟩; have n0_:=Aside0.mk (ED (g:=gb145) (o:= .cells #[.int .i64 A7,.int .i64 AA,.int .i64 AG,.int .i64 AF,.int .i64 AE,.int .i64 AD] 53 (0,0)) (by (with_reducible repeat (first|refine EC ?_ _|refine EI ?_|refine EE ?_ _)); exact BK145.out) hb); have n1_:=Aside0.mk (Ce (by repeat (first|(with_reducible first|exact HB.out|apply Af|apply Ab|apply Ae|refine Dc ?_ GE145.out)|exact HB.out)) hb); clear BK145; clear HB; have BK145:=n0_; have HB:=n1_; clear n0_ n1_; (try clear hb); (try clear hb2); (try clear hk); (try clear hi); have hcz17_0:w16.cell? ⟨gb145,0,none⟩=some (.int .i64 A7):=(Ak BK145.out 0).trans rfl; have hcz17_1:w16.cell? ⟨gb145,1,none⟩=some (.int .i64 AA):=(Ak BK145.out 1).trans rfl; have hcz17_2:w16.cell? ⟨gb145,2,none⟩=some (.int .i64 AG):=(Ak BK145.out 2).trans rfl; have hcz17_3:w16.cell? ⟨gb145,3,none⟩=some (.int .i64 AF):=(Ak BK145.out 3).trans rfl; have hcz17_4:w16.cell? ⟨gb145,4,none⟩=some (.int .i64 AE):=(Ak BK145.out 4).trans rfl; have hcz17_5:w16.cell? ⟨gb145,5,none⟩=some (.int .i64 AD):=(Ak BK145.out 5).trans rfl; have hfz17_0:=Ai BK145.out 0; have hfz17_1:=Ai BK145.out 1; have hfz17_2:=Ai BK145.out 2; have hfz17_3:=Ai BK145.out 3; have hfz17_4:=Ai BK145.out 4; have hfz17_5:=Ai BK145.out 5)|(go_at_call 76; (with_reducible refine (Ad.calls AG AF false _ A4.out).mono ?_); rintro e w18 ⟨rfl,hb⟩; have n0_:=Aside0.mk (ED (g:=gb145) (o:= .cells #[.int .i64 A7,.int .i64 AA,.int .i64 AG,.int .i64 AF,.int .i64 AE,.int .i64 AD] 53 (0,0)) (by (with_reducible repeat (first|refine EC ?_ _|refine EI ?_|refine EE ?_ _)); exact BK145.out) hb); have n1_:=Aside0.mk (Ce (by repeat (first|(with_reducible first|exact HB.out|apply Af|apply Ab|apply Ae|refine Dc ?_ GE145.out)|exact HB.out)) hb); clear BK145; clear HB; have BK145:=n0_; have HB:=n1_; clear n0_ n1_; (try clear hb); (try clear hb2); (try clear hk); (try clear hi)))
   go_ret
   exact ⟨by first|rfl|(simp [Dk,Dj]<;>rfl)|(simp [*,Dk,Dj]<;>rfl),by repeat (first|(with_reducible first|exact HB.out|apply Af|apply Ab|apply Ae|refine Dc ?_ GE145.out)|exact HB.out)⟩
 ·replace c3:=Bool.eq_false_iff.mpr c3
  subst c3
  have H1:(some false)=some r:=by rw [if_neg (show ¬(false=true) by decide)] at H; exact H
  clear H
  have H:=H1
  clear H1
  obtain rfl:=Option.some.inj H
  go_enter Tryz.func34,Tryz.ntmps34
  go_wp2_with (first|((with_reducible refine Ed (N:=1) rfl ?_); refine Ea ?hg (N:=1) ?hd (cs:= #[.int .i64 A7,.int .i64 AA,.int .i64 AG,.int .i64 AF,.int .i64 AE,.int .i64 AD]) (t:=53) ?hr ?_; (case hd=>rfl); (case hg=>rfl); (case hr=>first|(go_simp; done)|(go_simp; rfl)); intro gb145 hg w19 hbox hb; have n0_:=Aside0.mk (Ce (by repeat (first|(with_reducible first|exact HB.out|apply Af|apply Ab|apply Ae)|exact HB.out)) hb); have n1_:=Aside0.mk (hbox); have n2_:=Aside0.mk ((by rw [hg]; exact (Do (by repeat (first|(with_reducible first|exact HB.out|apply Af|apply Ab|apply Ae)|exact HB.out))):w.heap.size≤gb145)); have n3_:=Aside0.mk ((by rw [hg]; exact (Do (by repeat (first|(with_reducible first|exact HB.out|apply Af|apply Ab|apply Ae)|exact HB.out))):w.heap.size≤gb145)); clear HB; have HB:=n0_; have BK145:=n1_; have GW145:=n2_; have GE145:=n3_; clear n0_ n1_ n2_ n3_; clear hb hbox hg; have hcz20_0:w19.cell? ⟨gb145,0,none⟩=some (.int .i64 A7):=(Ak BK145.out 0).trans rfl; have hcz20_1:w19.cell? ⟨gb145,1,none⟩=some (.int .i64 AA):=(Ak BK145.out 1).trans rfl; have hcz20_2:w19.cell? ⟨gb145,2,none⟩=some (.int .i64 AG):=(Ak BK145.out 2).trans rfl; have hcz20_3:w19.cell? ⟨gb145,3,none⟩=some (.int .i64 AF):=(Ak BK145.out 3).trans rfl; have hcz20_4:w19.cell? ⟨gb145,4,none⟩=some (.int .i64 AE):=(Ak BK145.out 4).trans rfl; have hcz20_5:w19.cell? ⟨gb145,5,none⟩=some (.int .i64 AD):=(Ak BK145.out 5).trans rfl; have hfz20_0:=Ai BK145.out 0; have hfz20_1:=Ai BK145.out 1; have hfz20_2:=Ai BK145.out 2; have hfz20_3:=Ai BK145.out 3; have hfz20_4:=Ai BK145.out 4; have hfz20_5:=Ai BK145.out 5)|((with_reducible refine E7 (f:=76) rfl ?_); refine Ex (some 5) rfl rfl Tryz.func76 (by kernel_rfl) rfl #[.agg #[.int .i64 A7,.int .i64 AA]] rfl (by (try simp only [List.map_toArray,List.map_cons,List.map_nil]); first|done|rfl|(simp only [List.length_drop,List.length_take]; rfl)) ?_; (with_reducible refine (Ad.calls A7 AA false _ A2.out).mono ?_); rintro e w21 ⟨rfl,hb⟩; refine ⟨_,rfl,?_⟩; have n0_:=Aside0.mk (ED (g:=gb145) (o:= .cells #[.int .i64 A7,.int .i64 AA,.int .i64 AG,.int .i64 AF,.int .i64 AE,.int .i64 AD] 53 (0,0)) (by (with_reducible repeat (first|refine EC ?_ _|refine EI ?_|refine EE ?_ _)); exact BK145.out) hb); have n1_:=Aside0.mk (Ce (by repeat (first|(with_reducible first|exact HB.out|apply Af|apply Ab|apply Ae|refine Dc ?_ GE145.out)|exact HB.out)) hb); clear BK145; clear HB; have BK145:=n0_; have HB:=n1_; clear n0_ n1_; (try clear hb); (try clear hb2); (try clear hk); (try clear hi)))
  go_ret
  exact ⟨by first|rfl|(simp [Dk,Dj]<;>rfl)|(simp [*,Dk,Dj]<;>rfl),by repeat (first|(with_reducible first|exact HB.out|apply Af|apply Ab|apply Ae|refine Dc ?_ GE145.out)|exact HB.out)⟩
def Cx.l0:Nat→Int→Int→ByteArray→Option (ByteArray)
 |0,_,_,_=>none
 |k+1,x0,x1,x5=>if x0>0 then ((some (([(wrap64 (48+(Int.tmod x0 10)))%256]:List Int):List Int)).bind fun y149=>(if (strOfNums y149).size+x5.size≤9223372036854775807 then (Cx.l0 k (wrap64 (Int.tdiv x0 10)) x1 ((strOfNums y149)++x5)) else (none))) else (if (x5.size:Int)<x1 then ((some (([(wrap64 (48+(Int.tmod x0 10)))%256]:List Int):List Int)).bind fun y152=>(if (strOfNums y152).size+x5.size≤9223372036854775807 then (Cx.l0 k (wrap64 (Int.tdiv x0 10)) x1 ((strOfNums y152)++x5)) else (none))) else (some x5))
def Cx.f (k:Nat) (a0:Int) (a1:Int):Option (ByteArray):=Cx.l0 k a0 a1 (⟨#[]⟩:ByteArray)
set_option maxHeartbeats 8000000 in
theorem Cx.calls (k:Nat) (a0:Int) (a1:Int) (r:ByteArray) (w:World) (h:Cx.f k a0 a1=some r):
  Calls Tryz.prog 183 #[.int .i64 a0,.int .i64 a1] w fun e w'=>e= .returned (.string r)∧Below w.heap.size w w':=by
 have HB:=Aside0.mk (Below.refl w.heap.size w)
 have H:(Cx.l0 k a0 a1 (⟨#[]⟩:ByteArray))=some r:=h
 clear h
 have H':=Aside0.mk H
 clear H
 go_enter Tryz.func183,Tryz.ntmps183
 go_wp2
 go_loopg [0,5] k (fun kq v0 v5 w'=>∃(x0_1:Int) (x5_1:ByteArray),v0= .int .i64 x0_1∧v5= .string x5_1∧Aside0 (Cx.l0 kq x0_1 a1 x5_1=some r)∧Aside0 (kq≤k)∧Aside0 (Below w.heap.size w w'))
 case atStart=>exact ⟨(a0),((⟨#[]⟩:ByteArray)),(by first|rfl|(simp; done)|(simp [*]; done)),(by first|rfl|(simp; done)|(simp [*]; done)),H',⟨Nat.le_refl _⟩,⟨by repeat (first|(with_reducible first|exact HB.out|apply Af|apply Ab|apply Ae)|exact HB.out)⟩⟩
 case round=>
  clear H'
  try clear c1
  try clear p2
  obtain ⟨x0_1,x5_1,rfl,rfl,HA,HK1,HB⟩:=hrel
  cases gk with
  |zero=>exact absurd HA.out (by simp [Cx.l0])
  | succ k1=>
   have H:=HA.out
   clear HA
   simp only [Cx.l0] at H
   by_cases c3:x0_1>0
   ·rw [if_pos c3] at H
    have c3b0:decide (0<x0_1)=true:=decide_eq_true c3
    clear c3
    obtain ⟨y149,hy149⟩:∃y_:List Int,y_=(([(wrap64 (48+(Int.tmod x0_1 10)))%256]:List Int)):=⟨_,rfl⟩
    replace H:(if (strOfNums y149).size+x5_1.size≤9223372036854775807 then (Cx.l0 k1 (wrap64 (Int.tdiv x0_1 10)) a1 ((strOfNums y149)++x5_1)) else (none))=some r:=by first|(rw [hy149]; with_reducible exact H)|(have H2_:=(Option.bind_some _ _).symm.trans H; rw [hy149]; with_reducible exact H2_)|(have H2_:=(Option.bind_some _ _).symm.trans H; with_reducible exact H2_)|with_reducible exact H|(rw [hy149]; exact H)|exact H
    have Ny149:=Aside0.mk hy149
    clear hy149
    by_cases c4:(strOfNums y149).size+x5_1.size≤9223372036854775807
    ·rw [if_pos c4] at H
     have c4b0:=eq_true c4
     have c4b1:decide ((strOfNums y149).size+x5_1.size≤9223372036854775807)=true:=decide_eq_true c4
     try have c4b2:(9223372036854775807<(strOfNums y149).size+x5_1.size)=False:=eq_false (Nat.not_lt.2 c4)
     (try have c4b3:=c4b2)
     (try simp only [ByteArray.size_append,ByteArray.size_extract,Ek,EK,F6,Ei,Eh,Ej,Nat.min_self,Nat.zero_add] at c4b3)
     have H':=Aside0.mk H
     clear H
     go_wp2_with (first|((with_reducible refine Ed (N:=18) rfl ?_); (try (refine LE (by rfl) ?_; dsimp only)); refine Kd.R_lit (Kd.int .u8) _ 5 ?hg (N:=18) ?hd (xs:=([(wrap64 (48+(Int.tmod x0_1 10)))%256]:List Int)) (inner:=[.int .u8 ((wrap64 (48+(Int.tmod x0_1 10)))%256)]) (ok:=fun _=>True) (okp:=fun _=>True) ?hr ?hp (fun _ hk=>hk) trivial (Below.refl _ _) (Nat.le_refl _) (by simp) ?_; (case hd=>rfl); (case hg=>rfl); (case hr=>first|(go_simp; done)|(go_simp; rfl)); (case hp=>exact (Reps.one (show Kd.M (Kd.int .u8) _ _ _ ((wrap64 (48+(Int.tmod x0_1 10)))%256) [.int .u8 ((wrap64 (48+(Int.tmod x0_1 10)))%256)] from rfl) (Reps.none _ _))); intro v150 w5 ho6 hb hg_ hnew_; clear hg_ hnew_; (first|rw [←Ny149.out] at ho6|(simp only [Int.reduceToNat] at ho6; rw [←Ny149.out] at ho6)); have n0_:=Aside0.mk (Kd.R_lower ho6 (Do (by repeat (first|(with_reducible first|exact HB.out|apply Af|apply Ab|apply Ae)|exact HB.out)))); have n1_:=Aside0.mk (Ce (by repeat (first|(with_reducible first|exact HB.out|apply Af|apply Ab|apply Ae)|exact HB.out)) hb); clear HB; have HO151:=n0_; have HB:=n1_; clear n0_ n1_; clear hb ho6; have hcv7:=Ky (P:=Tryz.prog) Tryz.underlying167 Tryz.underlying5 Tryz.underlying9 (Kd.own_of_R HO151.out)))
     go_roundg k1
     case measure=>have:=HK1.out; omega
     case rel=>exact ⟨(wrap64 (Int.tdiv x0_1 10)),((strOfNums y149)++x5_1),(by first|rfl|(simp; done)|(simp [*]; done)),(by first|rfl|(simp; done)|(simp [*]; done)),H',⟨by have:=HK1.out; omega⟩,⟨by repeat (first|(with_reducible first|exact HB.out|apply Af|apply Ab|apply Ae)|exact HB.out)⟩⟩
    ·rw [if_neg c4] at H
     exact absurd H (by simp)
   ·rw [if_neg c3] at H
    have c3b0:decide (0<x0_1)=false:=decide_eq_false c3
    clear c3
    by_cases c8:(x5_1.size:Int)<a1
    ·rw [if_pos c8] at H
     have c8b0:decide ((x5_1.size:Int)<a1)=true:=decide_eq_true c8
     clear c8
     obtain ⟨y152,hy152⟩:∃y_:List Int,y_=(([(wrap64 (48+(Int.tmod x0_1 10)))%256]:List Int)):=⟨_,rfl⟩
     replace H:(if (strOfNums y152).size+x5_1.size≤9223372036854775807 then (Cx.l0 k1 (wrap64 (Int.tdiv x0_1 10)) a1 ((strOfNums y152)++x5_1)) else (none))=some r:=by first|(rw [hy152]; with_reducible exact H)|(have H2_:=(Option.bind_some _ _).symm.trans H; rw [hy152]; with_reducible exact H2_)|(have H2_:=(Option.bind_some _ _).symm.trans H; with_reducible exact H2_)|with_reducible exact H|(rw [hy152]; exact H)|exact H
     have Ny152:=Aside0.mk hy152
     clear hy152
     by_cases c9:(strOfNums y152).size+x5_1.size≤9223372036854775807
     ·rw [if_pos c9] at H
      have c9b0:=eq_true c9
      have c9b1:decide ((strOfNums y152).size+x5_1.size≤9223372036854775807)=true:=decide_eq_true c9
      try have c9b2:(9223372036854775807<(strOfNums y152).size+x5_1.size)=False:=eq_false (Nat.not_lt.2 c9)
      (try have c9b3:=c9b2)
      (try simp only [ByteArray.size_append,ByteArray.size_extract,Ek,EK,F6,Ei,Eh,Ej,Nat.min_self,Nat.zero_add] at c9b3)
      have H':=Aside0.mk H
      clear H
      go_wp2_with (first|((with_reducible refine Ed (N:=18) rfl ?_); (try (refine LE (by rfl) ?_; dsimp only)); refine Kd.R_lit (Kd.int .u8) _ 5 ?hg (N:=18) ?hd (xs:=([(wrap64 (48+(Int.tmod x0_1 10)))%256]:List Int)) (inner:=[.int .u8 ((wrap64 (48+(Int.tmod x0_1 10)))%256)]) (ok:=fun _=>True) (okp:=fun _=>True) ?hr ?hp (fun _ hk=>hk) trivial (Below.refl _ _) (Nat.le_refl _) (by simp) ?_; (case hd=>rfl); (case hg=>rfl); (case hr=>first|(go_simp; done)|(go_simp; rfl)); (case hp=>exact (Reps.one (show Kd.M (Kd.int .u8) _ _ _ ((wrap64 (48+(Int.tmod x0_1 10)))%256) [.int .u8 ((wrap64 (48+(Int.tmod x0_1 10)))%256)] from rfl) (Reps.none _ _))); intro v153 w10 ho11 hb hg_ hnew_; clear hg_ hnew_; (first|rw [←Ny152.out] at ho11|(simp only [Int.reduceToNat] at ho11; rw [←Ny152.out] at ho11)); have n0_:=Aside0.mk (Kd.R_lower ho11 (Do (by repeat (first|(with_reducible first|exact HB.out|apply Af|apply Ab|apply Ae)|exact HB.out)))); have n1_:=Aside0.mk (Ce (by repeat (first|(with_reducible first|exact HB.out|apply Af|apply Ab|apply Ae)|exact HB.out)) hb); clear HB; have HO154:=n0_; have HB:=n1_; clear n0_ n1_; clear hb ho11; have hcv12:=Ky (P:=Tryz.prog) Tryz.underlying167 Tryz.underlying5 Tryz.underlying9 (Kd.own_of_R HO154.out)))
      go_roundg k1
      case measure=>have:=HK1.out; omega
      case rel=>exact ⟨(wrap64 (Int.tdiv x0_1 10)),((strOfNums y152)++x5_1),(by first|rfl|(simp; done)|(simp [*]; done)),(by first|rfl|(simp; done)|(simp [*]; done)),H',⟨by have:=HK1.out; omega⟩,⟨by repeat (first|(with_reducible first|exact HB.out|apply Af|apply Ab|apply Ae)|exact HB.out)⟩⟩
     ·rw [if_neg c9] at H
      exact absurd H (by simp)
    ·rw [if_neg c8] at H
     have c8b0:decide ((x5_1.size:Int)<a1)=false:=decide_eq_false c8
     clear c8
     obtain rfl:=Option.some.inj H
     go_wp2
     go_ret
     exact ⟨by first|rfl|(simp [Dk,Dj]<;>rfl)|(simp [*,Dk,Dj]<;>rfl),by repeat (first|(with_reducible first|exact HB.out|apply Af|apply Ab|apply Ae)|exact HB.out)⟩
def Cy.f:Nat→Int→Option (ByteArray)
 |0,_=>none
 |k+1,a0=>if a0<0 then ((Cy.f k (wrap64 (-a0))).bind fun t155=>(if 1+t155.size≤9223372036854775807 then (some ((⟨#[45]⟩:ByteArray)++t155)) else (none))) else ((Cx.f k (wrap64 (Int.tdiv a0 1000000)) 1).bind fun t156=>(if t156.size+1≤9223372036854775807 then ((Cx.f k (Int.tmod a0 1000000) 6).bind fun t157=>(if (t156++(⟨#[46]⟩:ByteArray)).size+t157.size≤9223372036854775807 then (some ((t156++(⟨#[46]⟩:ByteArray))++t157)) else (none))) else (none)))
set_option maxHeartbeats 8000000 in
theorem Cy.calls (k:Nat):∀(a0:Int) (r:ByteArray) (w:World) (h:Cy.f k a0=some r),
  Calls Tryz.prog 145 #[.int .i64 a0] w fun e w'=>e= .returned (.string r)∧Below w.heap.size w w':=by
 induction k using Nat.strongRecOn with
 |_ k ih=>
 intro a0 r w h
 cases k with
 |zero=>exact absurd h (by simp [Cy.f])
 |succ k=>
 simp only [Cy.f] at h
 have HB:=Aside0.mk (Below.refl w.heap.size w)
 have H:(if a0<0 then ((Cy.f k (wrap64 (-a0))).bind fun t155=>(if 1+t155.size≤9223372036854775807 then (some ((⟨#[45]⟩:ByteArray)++t155)) else (none))) else ((Cx.f k (wrap64 (Int.tdiv a0 1000000)) 1).bind fun t156=>(if t156.size+1≤9223372036854775807 then ((Cx.f k (Int.tmod a0 1000000) 6).bind fun t157=>(if (t156++(⟨#[46]⟩:ByteArray)).size+t157.size≤9223372036854775807 then (some ((t156++(⟨#[46]⟩:ByteArray))++t157)) else (none))) else (none))))=some r:=h
 clear h
 by_cases c2:a0<0
 ·rw [if_pos c2] at H
  have c2b0:decide (a0<0)=true:=decide_eq_true c2
  clear c2
  replace H:=Option.bind_eq_some_iff.mp H
  obtain ⟨t155,A30,H⟩:=H
  replace H:(if 1+t155.size≤9223372036854775807 then (some ((⟨#[45]⟩:ByteArray)++t155)) else (none))=some r:=H
  have A3:=Aside0.mk A30
  clear A30
  by_cases c4:1+t155.size≤9223372036854775807
  ·rw [if_pos c4] at H
   have c4b0:=eq_true c4
   have c4b1:decide (1+t155.size≤9223372036854775807)=true:=decide_eq_true c4
   try have c4b2:(9223372036854775807<1+t155.size)=False:=eq_false (Nat.not_lt.2 c4)
   (try have c4b3:=c4b2)
   (try simp only [ByteArray.size_append,ByteArray.size_extract,Ek,EK,F6,Ei,Eh,Ej,Nat.min_self,Nat.zero_add] at c4b3)
   obtain rfl:=Option.some.inj H
   go_enter Tryz.func145,Tryz.ntmps145
   go_wp2_with (first|((with_reducible refine E7 (f:=145) rfl ?_); refine Ex (some 7) rfl rfl Tryz.func145 (by kernel_rfl) rfl #[.int .i64 (wrap64 (-a0))] rfl (by (try simp only [List.map_toArray,List.map_cons,List.map_nil]); first|done|rfl|(simp only [List.length_drop,List.length_take]; rfl)) ?_; (with_reducible refine (ih k (by omega) (wrap64 (-a0)) t155 _ A3.out).mono ?_); rintro e w5 ⟨rfl,hb⟩; refine ⟨_,rfl,?_⟩; have n0_:=Aside0.mk (Ce (by repeat (first|(with_reducible first|exact HB.out|apply Af|apply Ab|apply Ae)|exact HB.out)) hb); clear HB; have HB:=n0_; clear n0_; (try clear hb); (try clear hb2); (try clear hk); (try clear hi)))
   go_ret
   exact ⟨by first|rfl|(simp [Dk,Dj]<;>rfl)|(simp [*,Dk,Dj]<;>rfl),by repeat (first|(with_reducible first|exact HB.out|apply Af|apply Ab|apply Ae)|exact HB.out)⟩
  ·rw [if_neg c4] at H
   exact absurd H (by simp)
 ·rw [if_neg c2] at H
  have c2b0:decide (a0<0)=false:=decide_eq_false c2
  clear c2
  replace H:=Option.bind_eq_some_iff.mp H
  obtain ⟨t156,A60,H⟩:=H
  replace H:(if t156.size+1≤9223372036854775807 then ((Cx.f k (Int.tmod a0 1000000) 6).bind fun t157=>(if (t156++(⟨#[46]⟩:ByteArray)).size+t157.size≤9223372036854775807 then (some ((t156++(⟨#[46]⟩:ByteArray))++t157)) else (none))) else (none))=some r:=H
  have A6:=Aside0.mk A60
  clear A60
  by_cases c7:t156.size+1≤9223372036854775807
  ·rw [if_pos c7] at H
   have c7b0:=eq_true c7
   have c7b1:decide (t156.size+1≤9223372036854775807)=true:=decide_eq_true c7
   try have c7b2:(9223372036854775807<t156.size+1)=False:=eq_false (Nat.not_lt.2 c7)
   (try have c7b3:=c7b2)
   (try simp only [ByteArray.size_append,ByteArray.size_extract,Ek,EK,F6,Ei,Eh,Ej,Nat.min_self,Nat.zero_add] at c7b3)
   replace H:=Option.bind_eq_some_iff.mp H
   obtain ⟨t157,A80,H⟩:=H
   replace H:(if (t156++(⟨#[46]⟩:ByteArray)).size+t157.size≤9223372036854775807 then (some ((t156++(⟨#[46]⟩:ByteArray))++t157)) else (none))=some r:=H
   have A8:=Aside0.mk A80
   clear A80
   by_cases c9:(t156++(⟨#[46]⟩:ByteArray)).size+t157.size≤9223372036854775807
   ·rw [if_pos c9] at H
    have c9b0:=eq_true c9
    have c9b1:decide ((t156++(⟨#[46]⟩:ByteArray)).size+t157.size≤9223372036854775807)=true:=decide_eq_true c9
    try have c9b2:(9223372036854775807<(t156++(⟨#[46]⟩:ByteArray)).size+t157.size)=False:=eq_false (Nat.not_lt.2 c9)
    (try have c9b3:=c9b2)
    (try simp only [ByteArray.size_append,ByteArray.size_extract,Ek,EK,F6,Ei,Eh,Ej,Nat.min_self,Nat.zero_add] at c9b3)
    obtain rfl:=Option.some.inj H
    go_enter Tryz.func145,Tryz.ntmps145
    go_wp2_with (first|((with_reducible refine E7 (f:=183) rfl ?_); refine Ex (some 11) rfl rfl Tryz.func183 (by kernel_rfl) rfl #[.int .i64 (wrap64 (Int.tdiv a0 1000000)),.int .i64 1] rfl (by (try simp only [List.map_toArray,List.map_cons,List.map_nil]); first|done|rfl|(simp only [List.length_drop,List.length_take]; rfl)) ?_; (with_reducible refine (Cx.calls k (wrap64 (Int.tdiv a0 1000000)) 1 t156 _ A6.out).mono ?_); rintro e w10 ⟨rfl,hb⟩; refine ⟨_,rfl,?_⟩; have n0_:=Aside0.mk (Ce (by repeat (first|(with_reducible first|exact HB.out|apply Af|apply Ab|apply Ae)|exact HB.out)) hb); clear HB; have HB:=n0_; clear n0_; (try clear hb); (try clear hb2); (try clear hk); (try clear hi))|((with_reducible refine E7 (f:=183) rfl ?_); refine Ex (some 15) rfl rfl Tryz.func183 (by kernel_rfl) rfl #[.int .i64 (Int.tmod a0 1000000),.int .i64 6] rfl (by (try simp only [List.map_toArray,List.map_cons,List.map_nil]); first|done|rfl|(simp only [List.length_drop,List.length_take]; rfl)) ?_; (with_reducible refine (Cx.calls k (Int.tmod a0 1000000) 6 t157 _ A8.out).mono ?_); rintro e w11 ⟨rfl,hb⟩; refine ⟨_,rfl,?_⟩; have n0_:=Aside0.mk (Ce (by repeat (first|(with_reducible first|exact HB.out|apply Af|apply Ab|apply Ae)|exact HB.out)) hb); clear HB; have HB:=n0_; clear n0_; (try clear hb); (try clear hb2); (try clear hk); (try clear hi)))
    go_ret
    exact ⟨by first|rfl|(simp [Dk,Dj]<;>rfl)|(simp [*,Dk,Dj]<;>rfl),by repeat (first|(with_reducible first|exact HB.out|apply Af|apply Ab|apply Ae)|exact HB.out)⟩
   ·rw [if_neg c9] at H
    exact absurd H (by simp)
  ·rw [if_neg c7] at H
   exact absurd H (by simp)
def Ag.f (a0:Int) (a1:Int):Option (Int):=if a1<0 then (if (wrap64 (-a1))=0 then (none) else (if (wrap64 ((wrap64 (Int.tdiv (wrap64 (-a0)) (wrap64 (-a1))))*(wrap64 (-a1))))>(wrap64 (-a0)) then (some (wrap64 ((wrap64 (Int.tdiv (wrap64 (-a0)) (wrap64 (-a1))))-1))) else (some (wrap64 (Int.tdiv (wrap64 (-a0)) (wrap64 (-a1))))))) else (if a1=0 then (none) else (if (wrap64 ((wrap64 (Int.tdiv a0 a1))*a1))>a0 then (some (wrap64 ((wrap64 (Int.tdiv a0 a1))-1))) else (some (wrap64 (Int.tdiv a0 a1)))))
set_option maxHeartbeats 8000000 in
theorem Ag.calls (a0:Int) (a1:Int) (r:Int) (w:World) (h:Ag.f a0 a1=some r):
  Calls Tryz.prog 146 #[.int .i64 a0,.int .i64 a1] w fun e w'=>e= .returned (.int .i64 r)∧Drawn0 w w':=by
 have H:(if a1<0 then (if (wrap64 (-a1))=0 then (none) else (if (wrap64 ((wrap64 (Int.tdiv (wrap64 (-a0)) (wrap64 (-a1))))*(wrap64 (-a1))))>(wrap64 (-a0)) then (some (wrap64 ((wrap64 (Int.tdiv (wrap64 (-a0)) (wrap64 (-a1))))-1))) else (some (wrap64 (Int.tdiv (wrap64 (-a0)) (wrap64 (-a1))))))) else (if a1=0 then (none) else (if (wrap64 ((wrap64 (Int.tdiv a0 a1))*a1))>a0 then (some (wrap64 ((wrap64 (Int.tdiv a0 a1))-1))) else (some (wrap64 (Int.tdiv a0 a1))))))=some r:=h
 clear h
 by_cases c3:a1<0
 ·rw [if_pos c3] at H
  have c3b0:decide (a1<0)=true:=decide_eq_true c3
  clear c3
  by_cases c4:(wrap64 (-a1))=0
  ·rw [if_pos c4] at H
   exact absurd H (by simp)
  ·rw [if_neg c4] at H
   have c4b0:((wrap64 (-a1))==0)=false:=beq_eq_false_iff_ne.mpr c4
   have c4b1:((wrap64 (-a1)) !=0)=true:=bne_iff_ne.mpr c4
   by_cases c5:(wrap64 ((wrap64 (Int.tdiv (wrap64 (-a0)) (wrap64 (-a1))))*(wrap64 (-a1))))>(wrap64 (-a0))
   ·rw [if_pos c5] at H
    have c5b0:decide ((wrap64 (-a0))<(wrap64 ((wrap64 (Int.tdiv (wrap64 (-a0)) (wrap64 (-a1))))*(wrap64 (-a1)))))=true:=decide_eq_true c5
    clear c5
    obtain rfl:=Option.some.inj H
    go_enter Tryz.func146,Tryz.ntmps146
    go_wp2
    go_ret
    exact ⟨by first|rfl|(simp; done)|(simp [*]; done),by repeat (first|exact Drawn0.refl _|apply Drawn0.step)⟩
   ·rw [if_neg c5] at H
    have c5b0:decide ((wrap64 (-a0))<(wrap64 ((wrap64 (Int.tdiv (wrap64 (-a0)) (wrap64 (-a1))))*(wrap64 (-a1)))))=false:=decide_eq_false c5
    clear c5
    obtain rfl:=Option.some.inj H
    go_enter Tryz.func146,Tryz.ntmps146
    go_wp2
    go_ret
    exact ⟨by first|rfl|(simp; done)|(simp [*]; done),by repeat (first|exact Drawn0.refl _|apply Drawn0.step)⟩
 ·rw [if_neg c3] at H
  have c3b0:decide (a1<0)=false:=decide_eq_false c3
  clear c3
  by_cases c6:a1=0
  ·rw [if_pos c6] at H
   exact absurd H (by simp)
  ·rw [if_neg c6] at H
   have c6b0:(a1==0)=false:=beq_eq_false_iff_ne.mpr c6
   have c6b1:(a1 !=0)=true:=bne_iff_ne.mpr c6
   by_cases c7:(wrap64 ((wrap64 (Int.tdiv a0 a1))*a1))>a0
   ·rw [if_pos c7] at H
    have c7b0:decide (a0<(wrap64 ((wrap64 (Int.tdiv a0 a1))*a1)))=true:=decide_eq_true c7
    clear c7
    obtain rfl:=Option.some.inj H
    go_enter Tryz.func146,Tryz.ntmps146
    go_wp2
    go_ret
    exact ⟨by first|rfl|(simp; done)|(simp [*]; done),by repeat (first|exact Drawn0.refl _|apply Drawn0.step)⟩
   ·rw [if_neg c7] at H
    have c7b0:decide (a0<(wrap64 ((wrap64 (Int.tdiv a0 a1))*a1)))=false:=decide_eq_false c7
    clear c7
    obtain rfl:=Option.some.inj H
    go_enter Tryz.func146,Tryz.ntmps146
    go_wp2
    go_ret
    exact ⟨by first|rfl|(simp; done)|(simp [*]; done),by repeat (first|exact Drawn0.refl _|apply Drawn0.step)⟩
def Am.f (a0:Int) (a1:Int):Option (Int):=(Ag.f (wrap64 (-a0)) a1).bind fun t158=>(some (wrap64 (-t158)))
set_option maxHeartbeats 8000000 in
theorem Am.calls (a0:Int) (a1:Int) (r:Int) (w:World) (h:Am.f a0 a1=some r):
  Calls Tryz.prog 147 #[.int .i64 a0,.int .i64 a1] w fun e w'=>e= .returned (.int .i64 r)∧Drawn0 w w':=by
 have H:((Ag.f (wrap64 (-a0)) a1).bind fun t158=>(some (wrap64 (-t158))))=some r:=h
 clear h
 replace H:=Option.bind_eq_some_iff.mp H
 obtain ⟨t158,A30,H⟩:=H
 replace H:(some (wrap64 (-t158)))=some r:=H
 have A3:=Aside0.mk A30
 clear A30
 obtain rfl:=Option.some.inj H
 go_enter Tryz.func147,Tryz.ntmps147
 go_wp2_with (first|((with_reducible refine E7 (f:=146) rfl ?_); refine Ex (some 8) rfl rfl Tryz.func146 (by kernel_rfl) rfl #[.int .i64 (wrap64 (-a0)),.int .i64 a1] rfl (by (try simp only [List.map_toArray,List.map_cons,List.map_nil]); first|done|rfl|(simp only [List.length_drop,List.length_take]; rfl)) ?_; (with_reducible refine (Ag.calls (wrap64 (-a0)) a1 t158 _ A3.out).mono ?_); rintro e w' ⟨rfl,⟨nd,rfl⟩⟩; refine ⟨_,rfl,?_⟩))
 go_ret
 exact ⟨by first|rfl|(simp; done)|(simp [*]; done),by repeat (first|exact Drawn0.refl _|apply Drawn0.step)⟩
end Go.Proofs.YtpejalpgficopaaGreatDoor.PPr
end
