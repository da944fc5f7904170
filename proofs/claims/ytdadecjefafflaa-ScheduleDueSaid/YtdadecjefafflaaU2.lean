/- A part of what the law's proof leans on. PACKED BY pack.py of this repo. -/
import Derived.Test.YtdadecjefafflaaU1
set_option linter.unusedVariables false
set_option linter.unusedSimpArgs false
set_option linter.defProp false
set_option linter.unusedSectionVars false
section
namespace Go.Proofs.Ytdadecjefafflaa.PLst
set_option maxRecDepth 100000
open Go.RowKit Go.Proofs.YtdadecjefafflaaW.PrintWords Go.Proofs.YtdadecjefafflaaW.PrintLast Go.Proofs.YtdadecjefafflaaW.PrintMore
attribute [local go_sem] BP BN Bb Ba BG BF BO BM
def PredS (w0:World) (g:Nat) (lb:Array Value) (p:S47→Bool):Prop:=
 ∀(W:World) (x:S47),Below w0.heap.size w0 W→Calls Try.prog g (#[.agg #[.int .i64 x.f0,.int .i64 x.f1]]++lb) W fun e w'=>e= .returned (.bool (p x))∧Below w0.heap.size w0 w'
open Go.Shelf in
theorem ixf_S (w0:World) (g:Nat) (lb:Array Value) (p:S47→Bool) (eg:∀args w,(callFunc g args).run Try.prog w= .ok (.enter g args) w) (hp:PredS w0 g lb p)
  (A:Option Addr) (c:Nat) (l:List S47) (hr:Kd.C k47 w0 A l.length l) (w:World) (hw:Below w0.heap.size w0 w):
  Calls Try.prog 58 #[.slice A l.length c,.func (.func g) #[] lb] w fun e w'=>e= .returned (.int .i64 (ixGo p l 0))∧Below w0.heap.size w0 w':=by
 have HL:=Aside0.mk hr.2.1
 have HR:=Aside0.mk hr
 have HW:=Aside0.mk hw
 have HP:=Aside0.mk hp
 clear hr hw hp
 go_enter Try.func58,Try.ntmps58
 go_wp2
 go_loopg [5,8] l.length (fun gg v5 v8 w'=>∃n:Nat,v8= .int .i64 (n:Int)∧Aside0 (n≤l.length)∧Aside0 (l.length-n≤gg)∧Aside0 (ixGo p (l.drop n) n=ixGo p l 0)∧Aside0 (Below w0.heap.size w0 w'))
 case atStart=>exact ⟨0,rfl,⟨Nat.zero_le _⟩,⟨by omega⟩,⟨by rw [List.drop_zero]⟩,⟨by repeat (first|exact HW.out|apply AC|apply AD)⟩⟩
 case round=>
  obtain ⟨n,rfl,H1,H2,H3,HB⟩:=hrel
  by_cases c1:n<l.length
  ·have c1b:decide ((n:Int)<(l.length:Int))=true:=decide_eq_true zD
   obtain ⟨ad,e1,hx0,hx1⟩:=BV HR.out (n:Int) zD zD
   cases e1
   replace hx0:=(HB.out.cell (World.block_lt_of_cell? w0 _ hx0)).trans hx0
   replace hx1:=(HB.out.cell (World.block_lt_of_cell? w0 _ hx1)).trans hx1
   have hq:=HP.out wr (Ae l n) HB.out
   have h3:=Aside0.mk (H3.out.symm.trans (Da p l z47 n c1))
   have hy:l.getD n z47=Ae l n:=rfl
   rw [hy] at h3
   clear hy
   simp only [Int.toNat_natCast] at hx0 hx1
   cases c2:p (Ae l n) with
   | true=>
    rw [c2] at hq
    go_wp2_with (first|(go_at_fn g; (with_reducible refine hq.mono ?_); rintro e w' ⟨rfl,hb⟩))
    go_ret
    exact ⟨by rw [h3.out,if_pos c2]; rfl,hb⟩
   | false=>
    rw [c2] at hq
    go_wp2_with (first|(go_at_fn g; (with_reducible refine hq.mono ?_); rintro e w' ⟨rfl,hb⟩))
    go_roundg (l.length-(n+1))
    case measure=>have:=H2.out; omega
    case rel=>exact ⟨n+1,by have:=HL.out; rw [show wrap64 ((n:Int)+1)=((n+1:Nat):Int) from by unfold wrap64; omega],⟨by omega⟩,⟨by omega⟩,⟨by rw [h3.out,if_neg (by simp [c2])]⟩,⟨hb⟩⟩
  ·have c1b:decide ((n:Int)<(l.length:Int))=false:=decide_eq_false zD
   have h3:=Aside0.mk H3.out
   go_wp2
   go_ret
   exact ⟨by rw [←h3.out,List.drop_eq_nil_of_le zD]; rfl,by repeat (first|exact HB.out|apply AC|apply AD)⟩
open Go.Shelf in
theorem ctf_S (w0:World) (g:Nat) (lb:Array Value) (p:S47→Bool) (eg:∀args w,(callFunc g args).run Try.prog w= .ok (.enter g args) w) (hp:PredS w0 g lb p)
  (A:Option Addr) (c:Nat) (l:List S47) (hr:Kd.C k47 w0 A l.length l):
  Calls Try.prog 43 #[.slice A l.length c,.func (.func g) #[] lb] w0 fun e w'=>e= .returned (.bool (l.any p))∧Below w0.heap.size w0 w':=by
 have hq:=fun w (hw:Below w0.heap.size w0 w)=>ixf_S w0 g lb p eg hp A c l hr w hw
 have ha:=Aside0.mk (DE p l 0)
 clear hp hr
 go_enter Try.func43,Try.ntmps43
 go_wp2_with (first|(go_at_call 58; (with_reducible refine (hq _ (by repeat (first|exact Below.refl _ _|apply AC|apply AD))).mono ?_); rintro e w' ⟨rfl,hb⟩))
 go_ret
 exact ⟨by rw [←ha.out]; rfl,hb⟩
def BZ (m:Int) (x:S47):Bool:=((decide (x.f0<0)||decide (m≤x.f0))||decide (x.f1<0))||decide (1000000<x.f1)
theorem G0 (m:Int) (x:S47) (v1:Value) (g:Nat) (w:World) (hb:w.heap[g]? =some (.cells #[.int .i64 m,v1] 34 (0,0))):
  Calls Try.prog 42 #[.agg #[.int .i64 x.f0,.int .i64 x.f1],.pointer (some ⟨g,0,none⟩)] w fun e w'=>e= .returned (.bool (BZ m x))∧Below w.heap.size w w':=by
 have hc:w.cell? ⟨g,0,none⟩=some (.int .i64 m):=(AK hb 0).trans rfl
 have hf:=AJ hb 0
 have hlt:g<w.heap.size:=Ar hb
 have hne:g≠w.heap.size:=by omega
 clear hb
 unfold BZ
 cases h1:decide (x.f0<0) with
 | true=>
  go_enter Try.func42,Try.ntmps42
  go_wp2
  all_goals (go_ret; exact ⟨by first|rfl|(simp; done)|(simp [*]; done),(Below.refl _ _).alloc (Nat.le_refl _) _⟩)
 | false=>
  cases h2:decide (m≤x.f0) with
  | true=>
   go_enter Try.func42,Try.ntmps42
   go_wp2
   all_goals (go_ret; exact ⟨by first|rfl|(simp; done)|(simp [*]; done),(Below.refl _ _).alloc (Nat.le_refl _) _⟩)
  | false=>
   cases h3:decide (x.f1<0) with
   | true=>
    go_enter Try.func42,Try.ntmps42
    go_wp2
    all_goals (go_ret; exact ⟨by first|rfl|(simp; done)|(simp [*]; done),(Below.refl _ _).alloc (Nat.le_refl _) _⟩)
   | false=>
    go_enter Try.func42,Try.ntmps42
    go_wp2
    all_goals (go_ret; exact ⟨by first|rfl|(simp; done)|(simp [*]; done),(Below.refl _ _).alloc (Nat.le_refl _) _⟩)
def Bd.f (l0:List S47) (a1:Int):Option Bool:=some (l0.any (BZ a1))
open Go.Shelf in
theorem Bd.calls (A0:Option Addr) (c0:Nat) (l0:List S47) (a1:Int) (r:Bool) (w:World) (hr0:Kd.C k47 w A0 l0.length l0) (hc0:l0.length≤c0) (h:Bd.f l0 a1=some r)
  {g:Nat} {v1:Value} (hb:w.heap[g]? =some (.cells #[.int .i64 a1,v1] 34 (0,0))):
  Calls Try.prog 43 #[.slice A0 l0.length c0,.func (.func 42) #[] #[.pointer (some ⟨g,0,none⟩)]] w fun e w'=>e= .returned (.bool r)∧Below w.heap.size w w':=by
 obtain rfl:=Option.some.inj h
 have hp:PredS w 42 #[.pointer (some ⟨g,0,none⟩)] (BZ a1):=fun W x hW=>by
  show Calls Try.prog 42 #[.agg #[.int .i64 x.f0,.int .i64 x.f1],.pointer (some ⟨g,0,none⟩)] W _
  exact (G0 a1 x v1 g W (AN hb hW)).mono fun e w' h=>⟨h.1,Bh hW hW.size h.2⟩
 exact ctf_S w 42 _ _ (enters_of Try.func42 zF rfl) hp A0 c0 l0 hr0
def BJ.f (a0:Int) (AA:Int) (l1_1:List (S64)) (l2:List (S47)) (a3:Int):Option (Bool):=(Au.f AA l1_1 l2 a0).bind fun t144=>(if 0≤a3 then (if a3<(l2.length:Int) then (some (decide (t144>((Ae l2 a3).f1)))) else (none)) else (none))
def BJ.T1:Bool×List (List Nat×List Nat):=(true,[([],[]),([],[]),([],[]),([0,1,2],[0,1,2]),([],[]),([],[]),([4,5],[4,5]),([6],[6]),([7],[7]),([3,8],[3,8]),([9,3,0,1,2,3,4,5,6,7,8,9],[9])])
def BJ.B1:List Nat:=[0,0,0,7,0,0,48,112,240,511,1023]
theorem BJ.tab1:rtab .any (EC Try.f46 1)=BJ.T1:=by kernel_rfl
theorem BJ.bits1:Bs BJ.T1.2 BJ.B1=true:=by kernel_rfl
set_option maxHeartbeats 8000000 in
theorem BJ.calls (a0:Int) (AA:Int) (A1_1:Option Addr) (c1_1:Nat) (l1_1:List (S64)) (A2:Option Addr) (c2:Nat) (l2:List (S47)) (a3:Int) (r:Bool) (w:World) (hr1_1:Kd.C k64 w A1_1 l1_1.length l1_1) (hc1_1:l1_1.length≤c1_1) (hr2:Kd.C k47 w A2 l2.length l2) (hc2:l2.length≤c2) (h:BJ.f a0 AA l1_1 l2 a3=some r) {gb141 gb142 gb143:Nat} (hb141:w.heap[gb141]? =some (.cells #[.int .i64 AA,.slice A1_1 l1_1.length c1_1] 34 (0,0))) (hb142:w.heap[gb142]? =some (.cells #[.slice A2 l2.length c2] 37 (0,0))) (hb143:w.heap[gb143]? =some (.cells #[.int .i64 a3] 3 (0,0))):
  Calls Try.prog 46 #[.int .i64 a0,.pointer (some ⟨gb141,0,none⟩),.pointer (some ⟨gb142,0,none⟩),.pointer (some ⟨gb143,0,none⟩)] w fun e w'=>e= .returned (.bool r)∧Below w.heap.size w w':=by
 have hu34:=Try.underlying34
 have HR1_1:=Aside0.mk hr1_1
 have HC1_1:=Aside0.mk hc1_1
 clear hr1_1 hc1_1
 have HR2:=Aside0.mk hr2
 have HC2:=Aside0.mk hc2
 clear hr2 hc2
 have HB:=Aside0.mk (Below.refl w.heap.size w)
 have BK141:=Aside0.mk hb141
 clear hb141
 have BK142:=Aside0.mk hb142
 clear hb142
 have BK143:=Aside0.mk hb143
 clear hb143
 have H:((Au.f AA l1_1 l2 a0).bind fun t144=>(if 0≤a3 then (if a3<(l2.length:Int) then (some (decide (t144>((Ae l2 a3).f1)))) else (none)) else (none)))=some r:=h
 clear h
 replace H:=Option.bind_eq_some_iff.mp H
 obtain ⟨t144,A50,H⟩:=H
 replace H:(if 0≤a3 then (if a3<(l2.length:Int) then (some (decide (t144>((Ae l2 a3).f1)))) else (none)) else (none))=some r:=H
 have A5:=Aside0.mk A50
 clear A50
 by_cases c6:0≤a3
 ·rw [if_pos c6] at H
  have c6b0:decide (0≤a3)=true:=decide_eq_true c6
  clear c6
  by_cases c7:a3<(l2.length:Int)
  ·rw [if_pos c7] at H
   have c7b0:decide (a3<(l2.length:Int))=true:=decide_eq_true c7
   clear c7
   obtain rfl:=Option.some.inj H
   go_enter Try.func46,Try.ntmps46
   try go_wp2
   have n0_:=Aside0.mk (AI BK141.out)
   have n1_:=Aside0.mk (AI BK142.out)
   have n2_:=Aside0.mk (AI BK143.out)
   have n3_:=Aside0.mk (AD HB.out)
   clear BK141
   clear BK142
   clear BK143
   clear HB
   have BK141:=n0_
   have BK142:=n1_
   have BK143:=n2_
   have HB:=n3_
   clear n0_ n1_ n2_ n3_
   have p145:0≤(a3:Int):=of_decide_eq_true zC
   have q145:a3<(l2.length:Int):=of_decide_eq_true zC
   obtain ⟨ad145,e145,hx145_0,hx145_1⟩:=BV HR2.out a3 p145 q145
   have hw145_1:=hx145_1
   have hw145_0:=hx145_0
   cases e145
   replace hx145_0:=(HB.out.cell (World.block_lt_of_cell? w _ hx145_0)).trans hx145_0
   replace hx145_1:=(HB.out.cell (World.block_lt_of_cell? w _ hx145_1)).trans hx145_1
   replace p145:=eq_true p145
   replace q145:=eq_true q145
   refine Bv (n:=11) (S:=fun w'=>w'.cell? ⟨gb141,0,none⟩=some (.int .i64 AA)∧w'.cell? ⟨gb141,1,none⟩=some (.slice A1_1 l1_1.length c1_1)∧w'.cell? ⟨gb142,0,none⟩=some (.slice (some ad145) l2.length c2)∧w'.cell? ⟨gb143,0,none⟩=some (.int .i64 a3)∧w'.cell? (ad145.add ((a3).toNat*2))=some (.int .i64 ((Ae l2 a3).f0))∧w'.cell? ⟨(ad145.add ((a3).toNat*2)).block,(ad145.add ((a3).toNat*2)).off+1,none⟩=some (.int .i64 ((Ae l2 a3).f1))) (ds:=[]) #[false,false,false,false,false,false,false,false,false,false,false] zF rfl rfl ⟨(AK BK141.out 0).trans rfl,(AK BK141.out 1).trans rfl,(AK BK142.out 0).trans rfl,(AK BK143.out 0).trans rfl,((HB.out.cell (World.block_lt_of_cell? w _ hw145_0)).trans hw145_0),((HB.out.cell (World.block_lt_of_cell? w _ hw145_1)).trans hw145_1)⟩ (fun hHeld=> ?_); refine Bj BJ.tab1 BJ.bits1 (fun HT_ HW_=> ?_)
   generalize w.drew=w11 at BK141 BK142 BK143 HB hx145_0 hx145_1 hHeld ⊢
   refine Ah (i:=2) (N:=some 8) (v:= ?_) (a':= ?_) #[false,false,true,false,false,false,false,false,false,false,false] rfl rfl (Ab HT_.out zF) (fun _ _ _ h=>h) (Or.inl ⟨by rfl,?_⟩) ?_ ?_
   rotate_left
   ·intro w'
    go_simp
    with_reducible rfl
   rotate_left
   ·simp only [Act.put,List.setIfInBounds_toArray,List.set_cons_zero,List.set_cons_succ,AZ,Aa]
    rfl
   refine BE (i:=0) (N:=some 6) (v:= ?_) (a':= ?_) #[true,false,true,false,false,false,false,false,false,false,false] rfl rfl (B5 HT_.out HW_.out zF) (fun _ _ _ h=>h) (Or.inl ⟨by rfl,?_⟩) hHeld ?_ ?_
   rotate_left
   ·rintro w' ⟨s0,s1,s2,s3,s4,s5⟩
    go_simp
    with_reducible rfl
   rotate_left
   ·simp only [Act.put,List.setIfInBounds_toArray,List.set_cons_zero,List.set_cons_succ,AZ,Aa]
    rfl
   refine BE (i:=1) (N:=some 7) (v:= ?_) (a':= ?_) #[true,true,true,false,false,false,false,false,false,false,false] rfl rfl (B5 HT_.out HW_.out zF) (fun _ _ _ h=>h) (Or.inl ⟨by rfl,?_⟩) hHeld ?_ ?_
   rotate_left
   ·rintro w' ⟨s0,s1,s2,s3,s4,s5⟩
    go_simp
    with_reducible rfl
   rotate_left
   ·simp only [Act.put,List.setIfInBounds_toArray,List.set_cons_zero,List.set_cons_succ,AZ,Aa]
    rfl
   refine BE (i:=4) (N:=some 10) (v:= ?_) (a':= ?_) #[true,true,true,false,true,false,false,false,false,false,false] rfl rfl (B5 HT_.out HW_.out zF) (fun _ _ _ h=>h) (Or.inl ⟨by rfl,?_⟩) hHeld ?_ ?_
   rotate_left
   ·rintro w' ⟨s0,s1,s2,s3,s4,s5⟩
    go_simp
    with_reducible rfl
   rotate_left
   ·simp only [Act.put,List.setIfInBounds_toArray,List.set_cons_zero,List.set_cons_succ,AZ,Aa]
    rfl
   refine BE (i:=5) (N:=some 11) (v:= ?_) (a':= ?_) #[true,true,true,false,true,true,false,false,false,false,false] rfl rfl (B5 HT_.out HW_.out zF) (fun _ _ _ h=>h) (Or.inl ⟨by rfl,?_⟩) hHeld ?_ ?_
   rotate_left
   ·rintro w' ⟨s0,s1,s2,s3,s4,s5⟩
    go_simp
    with_reducible rfl
   rotate_left
   ·simp only [Act.put,List.setIfInBounds_toArray,List.set_cons_zero,List.set_cons_succ,AZ,Aa]
    rfl
   refine Ah (i:=6) (N:=some 12) (v:= ?_) (a':= ?_) #[true,true,true,false,true,true,true,false,false,false,false] rfl rfl (Ab HT_.out zF) (fun _ _ _ h=>h) (Or.inl ⟨by rfl,?_⟩) ?_ ?_
   rotate_left
   ·intro w'
    go_simp
    with_reducible rfl
   rotate_left
   ·simp only [Act.put,List.setIfInBounds_toArray,List.set_cons_zero,List.set_cons_succ,AZ,Aa]
    rfl
   refine Ah (i:=7) (N:=some 13) (v:= ?_) (a':= ?_) #[true,true,true,false,true,true,true,true,false,false,false] rfl rfl (Ab HT_.out zF) (fun _ _ _ h=>h) (Or.inl ⟨by rfl,?_⟩) ?_ ?_
   rotate_left
   ·intro w'
    go_simp
    with_reducible rfl
   rotate_left
   ·simp only [Act.put,List.setIfInBounds_toArray,List.set_cons_zero,List.set_cons_succ,AZ,Aa]
    rfl
   refine BE (i:=8) (N:=some 14) (v:= ?_) (a':= ?_) #[true,true,true,false,true,true,true,true,true,false,false] rfl rfl (B5 HT_.out HW_.out zF) (fun _ _ _ h=>h) (Or.inl ⟨by rfl,?_⟩) hHeld ?_ ?_
   rotate_left
   ·rintro w' ⟨s0,s1,s2,s3,s4,s5⟩
    go_simp
    with_reducible rfl
   rotate_left
   ·simp only [Act.put,List.setIfInBounds_toArray,List.set_cons_zero,List.set_cons_succ,AZ,Aa]
    rfl
   refine one_ (i:=3) (N:=some 9) #[true,true,true,true,true,true,true,true,true,false,false] rfl rfl (C1 HT_.out zF) zX (fun K hK=> ?_)
   refine CV Try.func30 zF rfl #[.agg #[.int .i64 AA,.slice A1_1 l1_1.length c1_1],.slice (some ad145) l2.length c2,.int .i64 a0] (by rfl) rfl rfl zB ?_
   with_reducible refine (Au.calls AA _ _ l1_1 _ _ l2 a0 t144 _ ?side1 ?side2 ?side3 ?side4 A5.out).mono ?_
   (case side1=>repeat (first|exact (Kd.C_below HR1_1.out HB.out)|(with_reducible refine Kd.C_alloc ?_ _)|(with_reducible refine Kd.C_drewN ?_ _)|(with_reducible refine Kd.C_drew ?_)))
   (case side2=>exact HC1_1.out)
   (case side3=>repeat (first|exact (Kd.C_below HR2.out HB.out)|(with_reducible refine Kd.C_alloc ?_ _)|(with_reducible refine Kd.C_drewN ?_ _)|(with_reducible refine Kd.C_drew ?_)))
   (case side4=>exact HC2.out)
   rintro e w12 ⟨rfl,hb⟩
   refine ⟨_,rfl,?_⟩
   have n0_:=Aside0.mk (AN (g:=gb141) (o:= .cells #[.int .i64 AA,.slice A1_1 l1_1.length c1_1] 34 (0,0)) (by (with_reducible repeat (first|refine AF ?_ _|refine AI ?_|refine AG ?_ _)); exact BK141.out) hb)
   have n1_:=Aside0.mk (AN (g:=gb142) (o:= .cells #[.slice (some ad145) l2.length c2] 37 (0,0)) (by (with_reducible repeat (first|refine AF ?_ _|refine AI ?_|refine AG ?_ _)); exact BK142.out) hb)
   have n2_:=Aside0.mk (AN (g:=gb143) (o:= .cells #[.int .i64 a3] 3 (0,0)) (by (with_reducible repeat (first|refine AF ?_ _|refine AI ?_|refine AG ?_ _)); exact BK143.out) hb)
   have n3_:=Aside0.mk (AO zA hb)
   clear BK141
   clear BK142
   clear BK143
   clear HB
   have BK141:=n0_
   have BK142:=n1_
   have BK143:=n2_
   have HB:=n3_
   clear n0_ n1_ n2_ n3_
   (try clear hb)
   (try clear hb2)
   (try clear hk)
   (try clear hi)
   refine hK.out _ _ ⟨(AK BK141.out 0).trans rfl,(AK BK141.out 1).trans rfl,(AK BK142.out 0).trans rfl,(AK BK143.out 0).trans rfl,((HB.out.cell (World.block_lt_of_cell? w _ hw145_0)).trans hw145_0),((HB.out.cell (World.block_lt_of_cell? w _ hw145_1)).trans hw145_1)⟩ (fun hHeld=> ?_)
   clear hK K
   refine C4 (a':= ?_) ?_ ?_
   rotate_left
   ·show Act.put _ (some 9) _=_
    simp only [Act.put,List.setIfInBounds_toArray,List.set_cons_zero,List.set_cons_succ,AZ,Aa]
    rfl
   refine Ah (i:=9) (N:=some 15) (v:= ?_) (a':= ?_) #[true,true,true,true,true,true,true,true,true,true,false] rfl rfl (Ab HT_.out zF) (fun _ _ _ h=>h) (Or.inl ⟨by rfl,?_⟩) ?_ ?_
   rotate_left
   ·intro w'
    go_simp
    with_reducible rfl
   rotate_left
   ·simp only [Act.put,List.setIfInBounds_toArray,List.set_cons_zero,List.set_cons_succ,AZ,Aa]
    rfl
   refine Ah (i:=10) (N:=some 5) (v:= ?_) (a':= ?_) #[true,true,true,true,true,true,true,true,true,true,true] rfl rfl (Ab HT_.out zF) (fun _ _ _ h=>h) (Or.inl ⟨by rfl,?_⟩) ?_ ?_
   rotate_left
   ·intro w'
    go_simp
    with_reducible rfl
   rotate_left
   ·simp only [Act.put,List.setIfInBounds_toArray,List.set_cons_zero,List.set_cons_succ,AZ,Aa]
    rfl
   refine CJ (C0 HT_.out zF) ?_
   try go_wp2
   go_ret
   exact ⟨by first|rfl|(simp [AY,AX]<;>rfl)|(simp [*,AY,AX]<;>rfl),by repeat (first|(with_reducible first|exact HB.out|apply AE|apply AC|apply AD)|exact HB.out)⟩
  ·rw [if_neg c7] at H
   exact absurd H zA1
 ·rw [if_neg c6] at H
  exact absurd H zA1
def ixO (p:Int→Option Bool):List Int→Nat→Option Int
 |[],_=>some (-1)
 |x::r,i=>(p x).bind fun b=>if b=true then some (i:Int) else ixO p r (i+1)
theorem Fr (p:Int→Option Bool) (l:List Int) (n:Nat) (h:n<l.length):ixO p (l.drop n) n=(p (rd l n)).bind fun b=>if b=true then some (n:Int) else ixO p (l.drop (n+1)) (n+1):=by
 rw [List.drop_eq_getElem_cons h,ixO]
 unfold rd
 rw [List.getD_eq_getElem?_getD,Int.toNat_natCast,List.getElem?_eq_getElem h]; rfl
def anyO (p:Int→Option Bool):List Int→Option Bool
 |[]=>some false
 |x::r=>(p x).bind fun b=>if b=true then some true else anyO p r
theorem Ez (p:Int→Option Bool):∀(l:List Int) (i:Nat) (b:Bool),anyO p l=some b→∃v,ixO p l i=some v∧decide (0≤v)=b
 |[],i,b,h=>⟨-1,rfl,by cases h; rfl⟩
 | x::r,i,b,h=>by
  rw [anyO,Option.bind_eq_some_iff] at h
  obtain ⟨c,h1,h2⟩:=h
  rw [ixO,h1,Option.bind_some]
  cases c with
  |true=>rw [if_pos rfl] at h2 ⊢; cases h2; exact ⟨_,rfl,by simp⟩
  |false=>rw [if_neg zA1] at h2 ⊢; exact Ez p r (i+1) b h2
def PredI (w0:World) (g:Nat) (lb:Array Value) (p:Int→Option Bool):Prop:=
 ∀(W:World) (x:Int) (b:Bool),Below w0.heap.size w0 W→p x=some b→Calls Try.prog g (#[.int .i64 x]++lb) W fun e w'=>e= .returned (.bool b)∧Below w0.heap.size w0 w'
open Go.Shelf in
theorem ixf_I (w0:World) (g:Nat) (lb:Array Value) (p:Int→Option Bool) (eg:∀args w,(callFunc g args).run Try.prog w= .ok (.enter g args) w) (hp:PredI w0 g lb p)
  (A:Option Addr) (c:Nat) (l:List Int) (hr:Kd.C (Kd.int .i64) w0 A l.length l) (r:Int) (h:ixO p l 0=some r) (w:World) (hw:Below w0.heap.size w0 w):
  Calls Try.prog 50 #[.slice A l.length c,.func (.func g) #[] lb] w fun e w'=>e= .returned (.int .i64 r)∧Below w0.heap.size w0 w':=by
 have HL:=Aside0.mk hr.2.1
 have HR:=Aside0.mk hr
 have HW:=Aside0.mk hw
 have HP:=Aside0.mk hp
 have HH:=Aside0.mk h
 clear hr hw hp h
 go_enter Try.func50,Try.ntmps50
 go_wp2
 go_loopg [5,8] l.length (fun gg v5 v8 w'=>∃n:Nat,v8= .int .i64 (n:Int)∧Aside0 (n≤l.length)∧Aside0 (l.length-n≤gg)∧Aside0 (ixO p (l.drop n) n=some r)∧Aside0 (Below w0.heap.size w0 w'))
 case atStart=>exact ⟨0,rfl,⟨Nat.zero_le _⟩,⟨by omega⟩,⟨by rw [List.drop_zero]; exact HH.out⟩,⟨by repeat (first|exact HW.out|apply AC|apply AD)⟩⟩
 case round=>
  obtain ⟨n,rfl,H1,H2,H3,HB⟩:=hrel
  clear HH
  by_cases c1:n<l.length
  ·have c1b:decide ((n:Int)<(l.length:Int))=true:=decide_eq_true zD
   obtain ⟨ad,e1,hx0⟩:=Kd.at_int HR.out (n:Int) zD zD
   cases e1
   replace hx0:=(HB.out.cell (World.block_lt_of_cell? w0 _ hx0)).trans hx0
   have h3:=H3.out
   rw [Fr p l n c1,Option.bind_eq_some_iff] at h3
   obtain ⟨b,hb1,hb2⟩:=h3
   have hq:=HP.out wr (rd l n) b HB.out hb1
   have hb2:=Aside0.mk hb2
   have hb1:=Aside0.mk hb1
   clear H3
   simp only [Int.toNat_natCast] at hx0
   cases b with
   | true=>
    go_wp2_with (first|(go_at_fn g; (with_reducible refine hq.mono ?_); rintro e w' ⟨rfl,hb⟩))
    go_ret
    exact ⟨by have:=hb2.out; simp at this; subst this; rfl,hb⟩
   | false=>
    go_wp2_with (first|(go_at_fn g; (with_reducible refine hq.mono ?_); rintro e w' ⟨rfl,hb⟩))
    go_roundg (l.length-(n+1))
    case measure=>have:=H2.out; omega
    case rel=>exact ⟨n+1,by have:=HL.out; rw [show wrap64 ((n:Int)+1)=((n+1:Nat):Int) from by unfold wrap64; omega],⟨by omega⟩,⟨by omega⟩,⟨by have:=hb2.out; simpa using this⟩,⟨hb⟩⟩
  ·have c1b:decide ((n:Int)<(l.length:Int))=false:=decide_eq_false zD
   have h3:=Aside0.mk H3.out
   go_wp2
   go_ret
   exact ⟨by have:=h3.out; rw [List.drop_eq_nil_of_le zD] at this; cases this; rfl,by repeat (first|exact HB.out|apply AC|apply AD)⟩
open Go.Shelf in
theorem ctf_I (w0:World) (g:Nat) (lb:Array Value) (p:Int→Option Bool) (eg:∀args w,(callFunc g args).run Try.prog w= .ok (.enter g args) w) (hp:PredI w0 g lb p)
  (A:Option Addr) (c:Nat) (l:List Int) (hr:Kd.C (Kd.int .i64) w0 A l.length l) (r:Bool) (h:anyO p l=some r) (w:World) (hw:Below w0.heap.size w0 w):
  Calls Try.prog 45 #[.slice A l.length c,.func (.func g) #[] lb] w fun e w'=>e= .returned (.bool r)∧Below w0.heap.size w0 w':=by
 obtain ⟨v,hv,rfl⟩:=Ez p l 0 r h
 have hq:=fun w (hw:Below w0.heap.size w0 w)=>ixf_I w0 g lb p eg hp A c l hr v hv w hw
 have HW:=Aside0.mk hw
 clear hp hr h hv hw
 go_enter Try.func45,Try.ntmps45
 go_wp2_with (first|(go_at_call 50; (with_reducible refine (hq _ (by repeat (first|exact HW.out|apply AC|apply AD))).mono ?_); rintro e w' ⟨rfl,hb⟩))
 go_ret
 exact ⟨by first|rfl|(simp; done),hb⟩
def Bu.f (l0:List Int) (AA:Int) (l1_1:List (S64)) (l2:List (S47)) (a3:Int):Option Bool:=anyO (fun a=>BJ.f a AA l1_1 l2 a3) l0
open Go.Shelf in
theorem Bu.calls (A0:Option Addr) (c0:Nat) (l0:List Int) (AA:Int) (A1_1:Option Addr) (c1_1:Nat) (l1_1:List (S64)) (A2:Option Addr) (c2:Nat) (l2:List (S47)) (a3:Int) (r:Bool) (w:World) (hr0:Kd.C (Kd.int .i64) w A0 l0.length l0) (hc0:l0.length≤c0) (hr1_1:Kd.C k64 w A1_1 l1_1.length l1_1) (hc1_1:l1_1.length≤c1_1) (hr2:Kd.C k47 w A2 l2.length l2) (hc2:l2.length≤c2) (h:Bu.f l0 AA l1_1 l2 a3=some r) {g1 g2 g3:Nat}
  (hb1:w.heap[g1]? =some (.cells #[.int .i64 AA,.slice A1_1 l1_1.length c1_1] 34 (0,0))) (hb2:w.heap[g2]? =some (.cells #[.slice A2 l2.length c2] 37 (0,0))) (hb3:w.heap[g3]? =some (.cells #[.int .i64 a3] 3 (0,0))):
  Calls Try.prog 45 #[.slice A0 l0.length c0,.func (.func 46) #[] #[.pointer (some ⟨g1,0,none⟩),.pointer (some ⟨g2,0,none⟩),.pointer (some ⟨g3,0,none⟩)]] w fun e w'=>e= .returned (.bool r)∧Below w.heap.size w w':=by
 have hp:PredI w 46 #[.pointer (some ⟨g1,0,none⟩),.pointer (some ⟨g2,0,none⟩),.pointer (some ⟨g3,0,none⟩)] (fun a=>BJ.f a AA l1_1 l2 a3):=fun W x b hW hx=>by
  show Calls Try.prog 46 #[.int .i64 x,.pointer (some ⟨g1,0,none⟩),.pointer (some ⟨g2,0,none⟩),.pointer (some ⟨g3,0,none⟩)] W _
  exact (BJ.calls x AA A1_1 c1_1 l1_1 A2 c2 l2 a3 b W (Kd.C_below hr1_1 hW) hc1_1 (Kd.C_below hr2 hW) hc2 hx (AN hb1 hW) (AN hb2 hW) (AN hb3 hW)).mono fun e w' h=>⟨h.1,Bh hW hW.size h.2⟩
 exact ctf_I w 46 _ _ (enters_of Try.func46 zF rfl) hp A0 c0 l0 hr0 r h w (Below.refl _ _)
mutual
def AT.j0:Nat→Bool→Int→List (S64)→List (S47)→Option (Int)
 |0,_,_,_,_=>none
 |k+1,x9,x147000,x147001,x148000=>if x9=true then (some 1) else ((Bd.f x148000 x147000).bind fun t149=>(if t149=true then (some 2) else ((AQ.f k x147000 x147001 x148000).bind fun t150=>(if t150=true then (some 16) else (AT.l0 k x147001 (x147001.length:Int) 0 x147000 x147001 x148000)))))
def AT.l0:Nat→List (S64)→Int→Int→Int→List (S64)→List (S47)→Option (Int)
 |0,_,_,_,_,_,_=>none
 |k+1,x30,x31,x32,x147000,x147001,x148000=>if x32<x31 then (if 0≤x32 then (if x32<(x30.length:Int) then ((Bu.f ((AL x30 x32).f3) x147000 x147001 x148000 x32).bind fun t154=>(if t154=true then (some 8) else (AT.l0 k x30 x31 (wrap64 (x32+1)) x147000 x147001 x148000))) else (none)) else (none)) else (some 0)
end
def AT.f (k:Nat) (A8:Int) (l0_1:List (S64)) (l1:List (S47)):Option (Int):=(AM.f k A8 l0_1).bind fun t148=>(if t148=true then (AT.j0 k ((l1.length:Int) !=(l0_1.length:Int)) A8 l0_1 l1) else (AT.j0 k true A8 l0_1 l1))
theorem AT.mono_l:∀k,(∀y0 y1 y2 y3,LeO (AT.j0 k y0 y1 y2 y3) (AT.j0 (k+1) y0 y1 y2 y3))∧(∀y0 y1 y2 y3 y4 y5,LeO (AT.l0 k y0 y1 y2 y3 y4 y5) (AT.l0 (k+1) y0 y1 y2 y3 y4 y5))
 |0=>⟨fun _ _ _ _ r h=>by simp [AT.j0] at h,fun _ _ _ _ _ _ r h=>by simp [AT.l0] at h⟩
 | k +1=>by
  obtain ⟨ih0,ih1⟩:=AT.mono_l k
  refine ⟨?_,?_⟩
  ·intro y0 y1 y2 y3
   unfold AT.j0
   repeat' first
   |(with_reducible exact ih0 _ _ _ _)
   |(with_reducible exact ih1 _ _ _ _ _ _)
   |(with_reducible exact AM.mono _ _ _)
   |(with_reducible exact AQ.mono _ _ _ _)
   |(with_reducible exact LeO.refl _)
   |(with_reducible exact LeO.none _)
   |(with_reducible refine LeO.ite ?_ ?_)
   |(with_reducible refine LeO.bind ?_ (fun _=> ?_))
   |exact ih0 _ _ _ _
   |exact ih1 _ _ _ _ _ _
   |exact AM.mono _ _ _
   |exact AQ.mono _ _ _ _
   |exact LeO.none _
   |refine LeO.ite ?_ ?_
   |refine LeO.bind ?_ (fun _=> ?_)
  ·intro y0 y1 y2 y3 y4 y5
   unfold AT.l0
   repeat' first
   |(with_reducible exact ih0 _ _ _ _)
   |(with_reducible exact ih1 _ _ _ _ _ _)
   |(with_reducible exact AM.mono _ _ _)
   |(with_reducible exact AQ.mono _ _ _ _)
   |(with_reducible exact LeO.refl _)
   |(with_reducible exact LeO.none _)
   |(with_reducible refine LeO.ite ?_ ?_)
   |(with_reducible refine LeO.bind ?_ (fun _=> ?_))
   |exact ih0 _ _ _ _
   |exact ih1 _ _ _ _ _ _
   |exact AM.mono _ _ _
   |exact AQ.mono _ _ _ _
   |exact LeO.none _
   |refine LeO.ite ?_ ?_
   |refine LeO.bind ?_ (fun _=> ?_)
theorem AT.mono:∀a0 a1 a2 k,LeO (AT.f k a0 a1 a2) (AT.f (k+1) a0 a1 a2):=by
 intro a0 a1 a2 k
 obtain ⟨ih0,ih1⟩:=AT.mono_l k
 unfold AT.f
 repeat' first
  |(with_reducible exact ih0 _ _ _ _)
  |(with_reducible exact ih1 _ _ _ _ _ _)
  |(with_reducible exact AM.mono _ _ _)
  |(with_reducible exact AQ.mono _ _ _ _)
  |(with_reducible exact LeO.refl _)
  |(with_reducible exact LeO.none _)
  |(with_reducible refine LeO.ite ?_ ?_)
  |(with_reducible refine LeO.bind ?_ (fun _=> ?_))
  |exact ih0 _ _ _ _
  |exact ih1 _ _ _ _ _ _
  |exact AM.mono _ _ _
  |exact AQ.mono _ _ _ _
  |exact LeO.none _
  |refine LeO.ite ?_ ?_
  |refine LeO.bind ?_ (fun _=> ?_)
set_option maxHeartbeats 8000000 in
theorem AT.calls (k:Nat) (A8:Int) (A0_1:Option Addr) (c0_1:Nat) (l0_1:List (S64)) (A1:Option Addr) (c1:Nat) (l1:List (S47)) (r:Int) (w:World) (hr0_1:Kd.C k64 w A0_1 l0_1.length l0_1) (hc0_1:l0_1.length≤c0_1) (hr1:Kd.C k47 w A1 l1.length l1) (hc1:l1.length≤c1) (h:AT.f k A8 l0_1 l1=some r):
  Calls Try.prog 28 #[.agg #[.int .i64 A8,.slice A0_1 l0_1.length c0_1],.slice A1 l1.length c1] w fun e w'=>e= .returned (.int .i64 r)∧Below w.heap.size w w':=by
 have hu34:=Try.underlying34
 have hu64:=Try.underlying64
 have HR0_1:=Aside0.mk hr0_1
 have HC0_1:=Aside0.mk hc0_1
 clear hr0_1 hc0_1
 have HR1:=Aside0.mk hr1
 have HC1:=Aside0.mk hc1
 clear hr1 hc1
 have HB:=Aside0.mk (Below.refl w.heap.size w)
 have H:((AM.f k A8 l0_1).bind fun t148=>(if t148=true then (AT.j0 k ((l1.length:Int) !=(l0_1.length:Int)) A8 l0_1 l1) else (AT.j0 k true A8 l0_1 l1)))=some r:=h
 clear h
 have HC3:=Aside0.mk H
 clear H
 go_enter Try.func28,Try.ntmps28
 go_upto_region 2 with (first|((with_reducible refine Am (N:=2) rfl ?_); (try (refine B9 (by rfl) ?_; dsimp only)); refine Ak ?hg (N:=2) ?hd (cs:= #[.int .i64 A8,.slice A0_1 l0_1.length c0_1]) (t:=34) ?hr ?_; (case hd=>rfl); (case hg=>rfl); (case hr=>first|(go_simp; done)|(go_simp; rfl)); intro gb146 hg w4 hbox hb; have n0_:=Aside0.mk (AO zA hb); have n1_:=Aside0.mk (hbox); have n2_:=Aside0.mk ((by rw [hg]; exact (AP zA):w.heap.size≤gb146)); have n3_:=Aside0.mk ((by rw [hg]; exact (AP zA):w.heap.size≤gb146)); clear HB; have HB:=n0_; have BK146:=n1_; have GW146:=n2_; have GE146:=n3_; clear n0_ n1_ n2_ n3_; clear hb hbox hg)|((with_reducible refine Am (N:=3) rfl ?_); (try (refine B9 (by rfl) ?_; dsimp only)); refine Ak ?hg (N:=3) ?hd (cs:= #[.slice A1 l1.length c1]) (t:=37) ?hr ?_; (case hd=>rfl); (case hg=>rfl); (case hr=>first|(go_simp; done)|(go_simp; rfl)); intro gb147 hg w5 hbox hb; have n0_:=Aside0.mk (AN (g:=gb146) (o:= .cells #[.int .i64 A8,.slice A0_1 l0_1.length c0_1] 34 (0,0)) zJ hb); have n1_:=Aside0.mk (AO (by repeat (first|(with_reducible first|exact HB.out|apply AE|apply AC|apply AD|refine AH ?_ GE146.out)|exact HB.out)) hb); have n2_:=Aside0.mk (hbox); have n3_:=Aside0.mk ((by rw [hg]; exact (AP (by repeat (first|(with_reducible first|exact HB.out|apply AE|apply AC|apply AD|refine AH ?_ GE146.out)|exact HB.out))):w.heap.size≤gb147)); have n4_:=Aside0.mk ((by rw [hg]; exact (AP (by repeat (first|(with_reducible first|exact HB.out|apply AE|apply AC|apply AD|refine AH ?_ GE146.out)|exact HB.out))):w.heap.size≤gb147)); have n5_:=Aside0.mk ((by rw [hg]; exact Nat.ne_of_lt (Ar (g:=gb146) (o:= .cells #[.int .i64 A8,.slice A0_1 l0_1.length c0_1] 34 (0,0)) zJ):gb146≠gb147)); have n6_:=Aside0.mk ((by rw [hg]; exact Nat.ne_of_gt (Ar (g:=gb146) (o:= .cells #[.int .i64 A8,.slice A0_1 l0_1.length c0_1] 34 (0,0)) zJ):gb147≠gb146)); clear BK146; clear HB; have BK146:=n0_; have HB:=n1_; have BK147:=n2_; have GW147:=n3_; have GE147:=n4_; have NB146_147:=n5_; have NB147_146:=n6_; clear n0_ n1_ n2_ n3_ n4_ n5_ n6_; clear hb hbox hg))
 (try simp only [Act.put,List.setIfInBounds_toArray,List.set_cons_zero,List.set_cons_succ])
 go_cut [9] (fun v9 wc=>∃(kq:Nat) (x9_2:Bool),v9= .bool x9_2∧Aside0 (AT.j0 kq x9_2 A8 l0_1 l1=some r)∧Aside0 (kq≤k)∧Aside0 (wc.heap[gb146]? =some (.cells #[.int .i64 A8,(.slice A0_1 l0_1.length c0_1)] 34 (0,0)))∧Aside0 (wc.heap[gb147]? =some (.cells #[(.slice A1 l1.length c1)] 37 (0,0)))∧Aside0 (Below w.heap.size w wc))
 case first=>
  have H:=HC3.out
  clear HC3
  replace H:=Option.bind_eq_some_iff.mp H
  obtain ⟨t148,A60,H⟩:=H
  replace H:(if t148=true then (AT.j0 k ((l1.length:Int) !=(l0_1.length:Int)) A8 l0_1 l1) else (AT.j0 k true A8 l0_1 l1))=some r:=H
  have A6:=Aside0.mk A60
  clear A60
  by_cases c7:t148=true
  ·subst c7
   have H1:(AT.j0 k ((l1.length:Int) !=(l0_1.length:Int)) A8 l0_1 l1)=some r:=by rw [if_pos rfl] at H; exact H
   clear H
   have H:=H1
   clear H1
   have H':=Aside0.mk H
   clear H
   have hnb8:=NB146_147.out
   have hnc8:=NB147_146.out
   have hcz9_0:w5.cell? ⟨gb146,0,none⟩=some (.int .i64 A8):=(AK BK146.out 0).trans rfl
   have hcz9_1:w5.cell? ⟨gb146,1,none⟩=some (.slice A0_1 l0_1.length c0_1):=(AK BK146.out 1).trans rfl
   have hfz9_0:=AJ BK146.out 0
   have hfz9_1:=AJ BK146.out 1
   go_wp2_with (first|((with_reducible refine Ad (f:=29) rfl ?_); refine Ax (some 11) rfl rfl Try.func29 zF rfl #[.agg #[.int .i64 A8,.slice A0_1 l0_1.length c0_1]] rfl zB ?_; (with_reducible refine (AM.calls k A8 _ _ l0_1 true _ ?side1 ?side2 A6.out).mono ?_); (case side1=>repeat (first|exact (Kd.C_below HR0_1.out HB.out)|(with_reducible refine Kd.C_alloc ?_ _)|(with_reducible refine Kd.C_drewN ?_ _)|(with_reducible refine Kd.C_drew ?_))); (case side2=>exact HC0_1.out); rintro e w10 ⟨rfl,hb⟩; refine ⟨_,rfl,?_⟩; have n0_:=Aside0.mk (AN (g:=gb146) (o:= .cells #[.int .i64 A8,.slice A0_1 l0_1.length c0_1] 34 (0,0)) zJ hb); have n1_:=Aside0.mk (AN (g:=gb147) (o:= .cells #[.slice A1 l1.length c1] 37 (0,0)) zN hb); have n2_:=Aside0.mk (AO zO hb); clear BK146; clear BK147; clear HB; have BK146:=n0_; have BK147:=n1_; have HB:=n2_; clear n0_ n1_ n2_; (try clear hb); (try clear hb2); (try clear hk); (try clear hi); have hcz11_0:w10.cell? ⟨gb147,0,none⟩=some (.slice A1 l1.length c1):=(AK BK147.out 0).trans rfl; have hfz11_0:=AJ BK147.out 0; have hcz12_0:w10.cell? ⟨gb146,0,none⟩=some (.int .i64 A8):=(AK BK146.out 0).trans rfl; have hcz12_1:w10.cell? ⟨gb146,1,none⟩=some (.slice A0_1 l0_1.length c0_1):=(AK BK146.out 1).trans rfl; have hfz12_0:=AJ BK146.out 0; have hfz12_1:=AJ BK146.out 1))
   go_meet
   case rel=>exact ⟨_,(((l1.length:Int) !=(l0_1.length:Int))),zH,H',⟨by first|omega|exact Nat.le_refl _⟩,⟨by (with_reducible repeat (first|refine AF ?_ _|refine AI ?_|refine AG ?_ _)); exact BK146.out⟩,⟨by (with_reducible repeat (first|refine AF ?_ _|refine AI ?_|refine AG ?_ _)); exact BK147.out⟩,⟨by repeat (first|(with_reducible first|exact HB.out|apply AE|apply AC|apply AD|refine AH ?_ GE146.out|refine AH ?_ GE147.out)|exact HB.out)⟩⟩
  ·replace c7:=Bool.eq_false_iff.mpr c7
   subst c7
   have H1:(AT.j0 k true A8 l0_1 l1)=some r:=by rw [if_neg (show ¬(false=true) by decide)] at H; exact H
   clear H
   have H:=H1
   clear H1
   have H':=Aside0.mk H
   clear H
   have hnb13:=NB146_147.out
   have hnc13:=NB147_146.out
   have hcz14_0:w5.cell? ⟨gb146,0,none⟩=some (.int .i64 A8):=(AK BK146.out 0).trans rfl
   have hcz14_1:w5.cell? ⟨gb146,1,none⟩=some (.slice A0_1 l0_1.length c0_1):=(AK BK146.out 1).trans rfl
   have hfz14_0:=AJ BK146.out 0
   have hfz14_1:=AJ BK146.out 1
   go_wp2_with (first|((with_reducible refine Ad (f:=29) rfl ?_); refine Ax (some 11) rfl rfl Try.func29 zF rfl #[.agg #[.int .i64 A8,.slice A0_1 l0_1.length c0_1]] rfl zB ?_; (with_reducible refine (AM.calls k A8 _ _ l0_1 false _ ?side1 ?side2 A6.out).mono ?_); (case side1=>repeat (first|exact (Kd.C_below HR0_1.out HB.out)|(with_reducible refine Kd.C_alloc ?_ _)|(with_reducible refine Kd.C_drewN ?_ _)|(with_reducible refine Kd.C_drew ?_))); (case side2=>exact HC0_1.out); rintro e w15 ⟨rfl,hb⟩; refine ⟨_,rfl,?_⟩; have n0_:=Aside0.mk (AN (g:=gb146) (o:= .cells #[.int .i64 A8,.slice A0_1 l0_1.length c0_1] 34 (0,0)) zJ hb); have n1_:=Aside0.mk (AN (g:=gb147) (o:= .cells #[.slice A1 l1.length c1] 37 (0,0)) zN hb); have n2_:=Aside0.mk (AO zO hb); clear BK146; clear BK147; clear HB; have BK146:=n0_; have BK147:=n1_; have HB:=n2_; clear n0_ n1_ n2_; (try clear hb); (try clear hb2); (try clear hk); (try clear hi)))
   go_meet
   case rel=>exact ⟨_,(true),zH,H',⟨by first|omega|exact Nat.le_refl _⟩,⟨by (with_reducible repeat (first|refine AF ?_ _|refine AI ?_|refine AG ?_ _)); exact BK146.out⟩,⟨by (with_reducible repeat (first|refine AF ?_ _|refine AI ?_|refine AG ?_ _)); exact BK147.out⟩,⟨by repeat (first|(with_reducible first|exact HB.out|apply AE|apply AC|apply AD|refine AH ?_ GE146.out|refine AH ?_ GE147.out)|exact HB.out)⟩⟩
 case rest =>
  clear HC3
  try clear c1
  try clear c2
  try clear p2
  try clear c7
  try clear c8
  try clear c13
  try clear hcz11_0
  try clear hcz12_0
  try clear hcz12_1
  try clear hcz14_0
  try clear hcz14_1
  try clear hcz9_0
  try clear hcz9_1
  try clear hfz11_0
  try clear hfz12_0
  try clear hfz12_1
  try clear hfz14_0
  try clear hfz14_1
  try clear hfz9_0
  try clear hfz9_1
  obtain ⟨kq,x9_2,rfl,HA,HJ2,BK146,BK147,HB⟩:=hcut
  cases kq with
  |zero=>exact absurd HA.out (by simp [AT.j0])
  | succ kj2=>
   have H:=HA.out
   clear HA
   simp only [AT.j0] at H
   by_cases c16:x9_2=true
   ·subst c16
    have H1:(some 1)=some r:=by rw [if_pos rfl] at H; exact H
    clear H
    have H:=H1
    clear H1
    obtain rfl:=Option.some.inj H
    go_wp2
    go_ret
    exact ⟨by first|rfl|(simp [AY,AX]<;>rfl)|(simp [*,AY,AX]<;>rfl),by repeat (first|(with_reducible first|exact HB.out|apply AE|apply AC|apply AD|refine AH ?_ GE146.out|refine AH ?_ GE147.out)|exact HB.out)⟩
   ·replace c16 :=Bool.eq_false_iff.mpr c16
    subst c16
    have H1:((Bd.f l1 A8).bind fun t149=>(if t149=true then (some 2) else ((AQ.f kj2 A8 l0_1 l1).bind fun t150=>(if t150=true then (some 16) else (AT.l0 kj2 l0_1 (l0_1.length:Int) 0 A8 l0_1 l1)))))=some r:=by rw [if_neg (show ¬(false=true) by decide)] at H; exact H
    clear H
    have H:=H1
    clear H1
    replace H:=Option.bind_eq_some_iff.mp H
    obtain ⟨t149,A170,H⟩:=H
    replace H:(if t149=true then (some 2) else ((AQ.f kj2 A8 l0_1 l1).bind fun t150=>(if t150=true then (some 16) else (AT.l0 kj2 l0_1 (l0_1.length:Int) 0 A8 l0_1 l1))))=some r:=H
    have A17:=Aside0.mk A170
    clear A170
    by_cases c18:t149=true
    ·subst c18
     have H1:(some 2)=some r:=by rw [if_pos rfl] at H; exact H
     clear H
     have H:=H1
     clear H1
     obtain rfl:=Option.some.inj H
     have hnb19:=NB147_146.out
     have hnc19:=NB146_147.out
     have hcz20_0:wc.cell? ⟨gb147,0,none⟩=some (.slice A1 l1.length c1):=(AK BK147.out 0).trans rfl
     have hfz20_0:=AJ BK147.out 0
     have hcz21_0:wc.cell? ⟨gb146,0,none⟩=some (.int .i64 A8):=(AK BK146.out 0).trans rfl
     have hcz21_1:wc.cell? ⟨gb146,1,none⟩=some (.slice A0_1 l0_1.length c0_1):=(AK BK146.out 1).trans rfl
     have hfz21_0:=AJ BK146.out 0
     have hfz21_1:=AJ BK146.out 1
     go_wp2_with (first|((with_reducible refine Ad (f:=43) rfl ?_); refine Ax (some 24) rfl rfl Try.func43 zF rfl #[.slice A1 l1.length c1,.func (.func 42) #[] #[.pointer (some ⟨gb146,0,none⟩)]] rfl zB ?_; (with_reducible refine (Bd.calls _ _ l1 A8 true _ ?side1 ?side2 A17.out zJ).mono ?_); (case side1=>repeat (first|exact (Kd.C_below HR1.out HB.out)|(with_reducible refine Kd.C_alloc ?_ _)|(with_reducible refine Kd.C_drewN ?_ _)|(with_reducible refine Kd.C_drew ?_))); (case side2=>exact HC1.out); rintro e w22 ⟨rfl,hb⟩; refine ⟨_,rfl,?_⟩; have n0_:=Aside0.mk (AN (g:=gb146) (o:= .cells #[.int .i64 A8,.slice A0_1 l0_1.length c0_1] 34 (0,0)) zJ hb); have n1_:=Aside0.mk (AN (g:=gb147) (o:= .cells #[.slice A1 l1.length c1] 37 (0,0)) zN hb); have n2_:=Aside0.mk (AO zO hb); clear BK146; clear BK147; clear HB; have BK146:=n0_; have BK147:=n1_; have HB:=n2_; clear n0_ n1_ n2_; (try clear hb); (try clear hb2); (try clear hk); (try clear hi)))
     go_ret
     exact ⟨by first|rfl|(simp [AY,AX]<;>rfl)|(simp [*,AY,AX]<;>rfl),by repeat (first|(with_reducible first|exact HB.out|apply AE|apply AC|apply AD|refine AH ?_ GE146.out|refine AH ?_ GE147.out)|exact HB.out)⟩
    ·replace c18 :=Bool.eq_false_iff.mpr c18
     subst c18
     have H1:((AQ.f kj2 A8 l0_1 l1).bind fun t150=>(if t150=true then (some 16) else (AT.l0 kj2 l0_1 (l0_1.length:Int) 0 A8 l0_1 l1)))=some r:=by rw [if_neg (show ¬(false=true) by decide)] at H; exact H
     clear H
     have H:=H1
     clear H1
     replace H:=Option.bind_eq_some_iff.mp H
     obtain ⟨t150,A230,H⟩:=H
     replace H:(if t150=true then (some 16) else (AT.l0 kj2 l0_1 (l0_1.length:Int) 0 A8 l0_1 l1))=some r:=H
     have A23:=Aside0.mk A230
     clear A230
     by_cases c24:t150=true
     ·subst c24
      have H1:(some 16)=some r:=by rw [if_pos rfl] at H; exact H
      clear H
      have H:=H1
      clear H1
      obtain rfl:=Option.some.inj H
      have hnb25:=NB147_146.out
      have hnc25:=NB146_147.out
      have hcz26_0:wc.cell? ⟨gb147,0,none⟩=some (.slice A1 l1.length c1):=(AK BK147.out 0).trans rfl
      have hfz26_0:=AJ BK147.out 0
      have hcz27_0:wc.cell? ⟨gb146,0,none⟩=some (.int .i64 A8):=(AK BK146.out 0).trans rfl
      have hcz27_1:wc.cell? ⟨gb146,1,none⟩=some (.slice A0_1 l0_1.length c0_1):=(AK BK146.out 1).trans rfl
      have hfz27_0:=AJ BK146.out 0
      have hfz27_1:=AJ BK146.out 1
      go_wp2_with (first|((with_reducible refine Ad (f:=43) rfl ?_); refine Ax (some 24) rfl rfl Try.func43 zF rfl #[.slice A1 l1.length c1,.func (.func 42) #[] #[.pointer (some ⟨gb146,0,none⟩)]] rfl zB ?_; (with_reducible refine (Bd.calls _ _ l1 A8 false _ ?side1 ?side2 A17.out zJ).mono ?_); (case side1=>repeat (first|exact (Kd.C_below HR1.out HB.out)|(with_reducible refine Kd.C_alloc ?_ _)|(with_reducible refine Kd.C_drewN ?_ _)|(with_reducible refine Kd.C_drew ?_))); (case side2=>exact HC1.out); rintro e w28 ⟨rfl,hb⟩; refine ⟨_,rfl,?_⟩; have n0_:=Aside0.mk (AN (g:=gb146) (o:= .cells #[.int .i64 A8,.slice A0_1 l0_1.length c0_1] 34 (0,0)) zJ hb); have n1_:=Aside0.mk (AN (g:=gb147) (o:= .cells #[.slice A1 l1.length c1] 37 (0,0)) zN hb); have n2_:=Aside0.mk (AO zO hb); clear BK146; clear BK147; clear HB; have BK146:=n0_; have BK147:=n1_; have HB:=n2_; clear n0_ n1_ n2_; (try clear hb); (try clear hb2); (try clear hk); (try clear hi); have hcz29_0:w28.cell? ⟨gb146,0,none⟩=some (.int .i64 A8):=(AK BK146.out 0).trans rfl; have hcz29_1:w28.cell? ⟨gb146,1,none⟩=some (.slice A0_1 l0_1.length c0_1):=(AK BK146.out 1).trans rfl; have hfz29_0:=AJ BK146.out 0; have hfz29_1:=AJ BK146.out 1; have hcz30_0:w28.cell? ⟨gb147,0,none⟩=some (.slice A1 l1.length c1):=(AK BK147.out 0).trans rfl; have hfz30_0:=AJ BK147.out 0)|((with_reducible refine Ad (f:=44) rfl ?_); refine Ax (some 28) rfl rfl Try.func44 zF rfl #[.agg #[.int .i64 A8,.slice A0_1 l0_1.length c0_1],.slice A1 l1.length c1] rfl zB ?_; (with_reducible refine (AQ.calls kj2 A8 _ _ l0_1 _ _ l1 true _ ?side1 ?side2 ?side3 ?side4 A23.out).mono ?_); (case side1=>repeat (first|exact (Kd.C_below HR0_1.out HB.out)|(with_reducible refine Kd.C_alloc ?_ _)|(with_reducible refine Kd.C_drewN ?_ _)|(with_reducible refine Kd.C_drew ?_))); (case side2=>exact HC0_1.out); (case side3=>repeat (first|exact (Kd.C_below HR1.out HB.out)|(with_reducible refine Kd.C_alloc ?_ _)|(with_reducible refine Kd.C_drewN ?_ _)|(with_reducible refine Kd.C_drew ?_))); (case side4=>exact HC1.out); rintro e w31 ⟨rfl,hb⟩; refine ⟨_,rfl,?_⟩; have n0_:=Aside0.mk (AN (g:=gb146) (o:= .cells #[.int .i64 A8,.slice A0_1 l0_1.length c0_1] 34 (0,0)) zJ hb); have n1_:=Aside0.mk (AN (g:=gb147) (o:= .cells #[.slice A1 l1.length c1] 37 (0,0)) zN hb); have n2_:=Aside0.mk (AO zO hb); clear BK146; clear BK147; clear HB; have BK146:=n0_; have BK147:=n1_; have HB:=n2_; clear n0_ n1_ n2_; (try clear hb); (try clear hb2); (try clear hk); (try clear hi)))
      go_ret
      exact ⟨by first|rfl|(simp [AY,AX]<;>rfl)|(simp [*,AY,AX]<;>rfl),by repeat (first|(with_reducible first|exact HB.out|apply AE|apply AC|apply AD|refine AH ?_ GE146.out|refine AH ?_ GE147.out)|exact HB.out)⟩
     ·replace c24 :=Bool.eq_false_iff.mpr c24
      subst c24
      have H1:(AT.l0 kj2 l0_1 (l0_1.length:Int) 0 A8 l0_1 l1)=some r:=by rw [if_neg (show ¬(false=true) by decide)] at H; exact H
      clear H
      have H:=H1
      clear H1
      have H':=Aside0.mk H
      clear H
      have hnb32:=NB147_146.out
      have hnc32:=NB146_147.out
      have hcz33_0:wc.cell? ⟨gb147,0,none⟩=some (.slice A1 l1.length c1):=(AK BK147.out 0).trans rfl
      have hfz33_0:=AJ BK147.out 0
      have hcz34_0:wc.cell? ⟨gb146,0,none⟩=some (.int .i64 A8):=(AK BK146.out 0).trans rfl
      have hcz34_1:wc.cell? ⟨gb146,1,none⟩=some (.slice A0_1 l0_1.length c0_1):=(AK BK146.out 1).trans rfl
      have hfz34_0:=AJ BK146.out 0
      have hfz34_1:=AJ BK146.out 1
      go_wp2_with (first|((with_reducible refine Ad (f:=43) rfl ?_); refine Ax (some 24) rfl rfl Try.func43 zF rfl #[.slice A1 l1.length c1,.func (.func 42) #[] #[.pointer (some ⟨gb146,0,none⟩)]] rfl zB ?_; (with_reducible refine (Bd.calls _ _ l1 A8 false _ ?side1 ?side2 A17.out zJ).mono ?_); (case side1=>repeat (first|exact (Kd.C_below HR1.out HB.out)|(with_reducible refine Kd.C_alloc ?_ _)|(with_reducible refine Kd.C_drewN ?_ _)|(with_reducible refine Kd.C_drew ?_))); (case side2=>exact HC1.out); rintro e w35 ⟨rfl,hb⟩; refine ⟨_,rfl,?_⟩; have n0_:=Aside0.mk (AN (g:=gb146) (o:= .cells #[.int .i64 A8,.slice A0_1 l0_1.length c0_1] 34 (0,0)) zJ hb); have n1_:=Aside0.mk (AN (g:=gb147) (o:= .cells #[.slice A1 l1.length c1] 37 (0,0)) zN hb); have n2_:=Aside0.mk (AO zO hb); clear BK146; clear BK147; clear HB; have BK146:=n0_; have BK147:=n1_; have HB:=n2_; clear n0_ n1_ n2_; (try clear hb); (try clear hb2); (try clear hk); (try clear hi); have hcz36_0:w35.cell? ⟨gb146,0,none⟩=some (.int .i64 A8):=(AK BK146.out 0).trans rfl; have hcz36_1:w35.cell? ⟨gb146,1,none⟩=some (.slice A0_1 l0_1.length c0_1):=(AK BK146.out 1).trans rfl; have hfz36_0:=AJ BK146.out 0; have hfz36_1:=AJ BK146.out 1; have hcz37_0:w35.cell? ⟨gb147,0,none⟩=some (.slice A1 l1.length c1):=(AK BK147.out 0).trans rfl; have hfz37_0:=AJ BK147.out 0)|((with_reducible refine Ad (f:=44) rfl ?_); refine Ax (some 28) rfl rfl Try.func44 zF rfl #[.agg #[.int .i64 A8,.slice A0_1 l0_1.length c0_1],.slice A1 l1.length c1] rfl zB ?_; (with_reducible refine (AQ.calls kj2 A8 _ _ l0_1 _ _ l1 false _ ?side1 ?side2 ?side3 ?side4 A23.out).mono ?_); (case side1=>repeat (first|exact (Kd.C_below HR0_1.out HB.out)|(with_reducible refine Kd.C_alloc ?_ _)|(with_reducible refine Kd.C_drewN ?_ _)|(with_reducible refine Kd.C_drew ?_))); (case side2=>exact HC0_1.out); (case side3=>repeat (first|exact (Kd.C_below HR1.out HB.out)|(with_reducible refine Kd.C_alloc ?_ _)|(with_reducible refine Kd.C_drewN ?_ _)|(with_reducible refine Kd.C_drew ?_))); (case side4=>exact HC1.out); rintro e w38 ⟨rfl,hb⟩; refine ⟨_,rfl,?_⟩; have n0_:=Aside0.mk (AN (g:=gb146) (o:= .cells #[.int .i64 A8,.slice A0_1 l0_1.length c0_1] 34 (0,0)) zJ hb); have n1_:=Aside0.mk (AN (g:=gb147) (o:= .cells #[.slice A1 l1.length c1] 37 (0,0)) zN hb); have n2_:=Aside0.mk (AO zO hb); clear BK146; clear BK147; clear HB; have BK146:=n0_; have BK147:=n1_; have HB:=n2_; clear n0_ n1_ n2_; (try clear hb); (try clear hb2); (try clear hk); (try clear hi); have hcz39_0:w38.cell? ⟨gb146,0,none⟩=some (.int .i64 A8):=(AK BK146.out 0).trans rfl; have hcz39_1:w38.cell? ⟨gb146,1,none⟩=some (.slice A0_1 l0_1.length c0_1):=(AK BK146.out 1).trans rfl; have hfz39_0:=AJ BK146.out 0; have hfz39_1:=AJ BK146.out 1))
      go_loopg [32] kj2 (fun kq v32 w'=>∃(x32_2:Int),v32= .int .i64 x32_2∧Aside0 (AT.l0 kq l0_1 (l0_1.length:Int) x32_2 A8 l0_1 l1=some r)∧Aside0 (kq≤kj2)∧Aside0 (w'.heap[gb146]? =some (.cells #[.int .i64 A8,(.slice A0_1 l0_1.length c0_1)] 34 (0,0)))∧Aside0 (w'.heap[gb147]? =some (.cells #[(.slice A1 l1.length c1)] 37 (0,0)))∧Aside0 (Below w.heap.size w w'))
      case atStart=>exact ⟨(0),zH,H',⟨Nat.le_refl _⟩,⟨by (with_reducible repeat (first|refine AF ?_ _|refine AI ?_|refine AG ?_ _)); exact BK146.out⟩,⟨by (with_reducible repeat (first|refine AF ?_ _|refine AI ?_|refine AG ?_ _)); exact BK147.out⟩,⟨by repeat (first|(with_reducible first|exact HB.out|apply AE|apply AC|apply AD|refine AH ?_ GE146.out|refine AH ?_ GE147.out)|exact HB.out)⟩⟩
      case round=>
       clear H'
       try clear c1
       try clear c2
       try clear p2
       try clear c3
       try clear c4
       try clear c7
       try clear c8
       try clear c9
       try clear c13
       try clear c16
       try clear c18
       try clear c19
       try clear c24
       try clear c25
       try clear c28
       try clear c29
       try clear c32
       try clear hcz11_0
       try clear hcz12_0
       try clear hcz12_1
       try clear hcz14_0
       try clear hcz14_1
       try clear hcz20_0
       try clear hcz21_0
       try clear hcz21_1
       try clear hcz26_0
       try clear hcz27_0
       try clear hcz27_1
       try clear hcz29_0
       try clear hcz29_1
       try clear hcz30_0
       try clear hcz33_0
       try clear hcz34_0
       try clear hcz34_1
       try clear hcz36_0
       try clear hcz36_1
       try clear hcz37_0
       try clear hcz39_0
       try clear hcz39_1
       try clear hcz9_0
       try clear hcz9_1
       try clear hfz11_0
       try clear hfz12_0
       try clear hfz12_1
       try clear hfz14_0
       try clear hfz14_1
       try clear hfz20_0
       try clear hfz21_0
       try clear hfz21_1
       try clear hfz26_0
       try clear hfz27_0
       try clear hfz27_1
       try clear hfz29_0
       try clear hfz29_1
       try clear hfz30_0
       try clear hfz33_0
       try clear hfz34_0
       try clear hfz34_1
       try clear hfz36_0
       try clear hfz36_1
       try clear hfz37_0
       try clear hfz39_0
       try clear hfz39_1
       try clear hfz9_0
       try clear hfz9_1
       try clear p2
       obtain ⟨x32_2,rfl,HA,HK2,BK146,BK147,HB⟩:=hrel
       cases gk with
       |zero=>exact absurd HA.out (by simp [AT.l0])
       | succ k2 =>
        have H:=HA.out
        clear HA
        simp only [AT.l0] at H
        by_cases c40:x32_2<(l0_1.length:Int)
        ·rw [if_pos c40] at H
         have c40b0:decide (x32_2<(l0_1.length:Int))=true:=decide_eq_true c40
         clear c40
         by_cases c41:0≤x32_2
         ·rw [if_pos c41] at H
          have c41b0:decide (0≤x32_2)=true:=decide_eq_true c41
          clear c41
          by_cases c42:x32_2<(l0_1.length:Int)
          ·rw [if_pos c42] at H
           have c42b0:decide (x32_2<(l0_1.length:Int))=true:=decide_eq_true c42
           clear c42
           replace H:=Option.bind_eq_some_iff.mp H
           obtain ⟨t154,A430,H⟩:=H
           replace H:(if t154=true then (some 8) else (AT.l0 k2 l0_1 (l0_1.length:Int) (wrap64 (x32_2+1)) A8 l0_1 l1))=some r:=H
           have A43:=Aside0.mk A430
           clear A430
           by_cases c44:t154=true
           ·subst c44
            have H1:(some 8)=some r:=by rw [if_pos rfl] at H; exact H
            clear H
            have H:=H1
            clear H1
            obtain rfl:=Option.some.inj H
            have p151:0≤(x32_2:Int):=of_decide_eq_true zC
            have q151:x32_2<(l0_1.length:Int):=of_decide_eq_true zC
            obtain ⟨ad151,A151_3,c151_3,e151,hx151_0,hx151_1,hx151_2,hx151_3,hl151_3,hi151_3⟩:=Bi HR0_1.out x32_2 p151 q151
            cases e151
            replace hx151_0:=(HB.out.cell (World.block_lt_of_cell? w _ hx151_0)).trans hx151_0
            replace hx151_1:=(HB.out.cell (World.block_lt_of_cell? w _ hx151_1)).trans hx151_1
            replace hx151_2:=(HB.out.cell (World.block_lt_of_cell? w _ hx151_2)).trans hx151_2
            replace hx151_3:=(HB.out.cell (World.block_lt_of_cell? w _ hx151_3)).trans hx151_3
            have HR151_3:=Aside0.mk hi151_3
            have HC151_3:=Aside0.mk hl151_3
            clear hi151_3 hl151_3
            replace p151:=eq_true p151
            replace q151:=eq_true q151
            go_wp2_with (first|((with_reducible refine Am (N:=6) rfl ?_); (try (refine B9 (by rfl) ?_; dsimp only)); refine Ak ?hg (N:=6) ?hd (cs:= #[.int .i64 0]) (t:=3) ?hr ?_; (case hd=>rfl); (case hg=>rfl); (case hr=>first|(go_simp; done)|(go_simp; rfl)); intro gb152 hg w45 hbox hb; have n0_:=Aside0.mk (AN (g:=gb146) (o:= .cells #[.int .i64 A8,.slice (some ad151) l0_1.length c0_1] 34 (0,0)) zJ hb); have n1_:=Aside0.mk (AN (g:=gb147) (o:= .cells #[.slice A1 l1.length c1] 37 (0,0)) zN hb); have n2_:=Aside0.mk (AO zO hb); have n3_:=Aside0.mk (hbox); have n4_:=Aside0.mk ((by rw [hg]; exact (AP zO):w.heap.size≤gb152)); have n5_:=Aside0.mk ((by rw [hg]; exact (AP zO):w.heap.size≤gb152)); have n6_:=Aside0.mk ((by rw [hg]; exact Nat.ne_of_lt (Ar (g:=gb146) (o:= .cells #[.int .i64 A8,.slice (some ad151) l0_1.length c0_1] 34 (0,0)) zJ):gb146≠gb152)); have n7_:=Aside0.mk ((by rw [hg]; exact Nat.ne_of_gt (Ar (g:=gb146) (o:= .cells #[.int .i64 A8,.slice (some ad151) l0_1.length c0_1] 34 (0,0)) zJ):gb152≠gb146)); have n8_:=Aside0.mk ((by rw [hg]; exact Nat.ne_of_lt (Ar (g:=gb147) (o:= .cells #[.slice A1 l1.length c1] 37 (0,0)) zN):gb147≠gb152)); have n9_:=Aside0.mk ((by rw [hg]; exact Nat.ne_of_gt (Ar (g:=gb147) (o:= .cells #[.slice A1 l1.length c1] 37 (0,0)) zN):gb152≠gb147)); clear BK146; clear BK147; clear HB; have BK146:=n0_; have BK147:=n1_; have HB:=n2_; have BK152:=n3_; have GW152:=n4_; have GE152:=n5_; have NB146_152:=n6_; have NB152_146:=n7_; have NB147_152:=n8_; have NB152_147:=n9_; clear n0_ n1_ n2_ n3_ n4_ n5_ n6_ n7_ n8_ n9_; clear hb hbox hg)|((with_reducible refine Am (N:=7) rfl ?_); (try (refine B9 (by rfl) ?_; dsimp only)); refine Ak ?hg (N:=7) ?hd (cs:= #[.string (⟨#[]⟩:ByteArray),.int .i64 0,.int .i64 0,.slice none 0 0]) (t:=64) ?hr ?_; (case hd=>rfl); (case hg=>rfl); (case hr=>first|(go_simp; done)|(go_simp; rfl)); intro gb153 hg w46 hbox hb; have n0_:=Aside0.mk (AN (g:=gb146) (o:= .cells #[.int .i64 A8,.slice (some ad151) l0_1.length c0_1] 34 (0,0)) zJ hb); have n1_:=Aside0.mk (AN (g:=gb147) (o:= .cells #[.slice A1 l1.length c1] 37 (0,0)) zN hb); have n2_:=Aside0.mk (AN (g:=gb152) (o:= .cells #[.int .i64 0] 3 (0,0)) zB3 hb); have n3_:=Aside0.mk (AO zY hb); have n4_:=Aside0.mk (hbox); have n5_:=Aside0.mk ((by rw [hg]; exact (AP zY):w.heap.size≤gb153)); have n6_:=Aside0.mk ((by rw [hg]; exact (AP zY):w.heap.size≤gb153)); have n7_:=Aside0.mk ((by rw [hg]; exact Nat.ne_of_lt (Ar (g:=gb146) (o:= .cells #[.int .i64 A8,.slice (some ad151) l0_1.length c0_1] 34 (0,0)) zJ):gb146≠gb153)); have n8_:=Aside0.mk ((by rw [hg]; exact Nat.ne_of_gt (Ar (g:=gb146) (o:= .cells #[.int .i64 A8,.slice (some ad151) l0_1.length c0_1] 34 (0,0)) zJ):gb153≠gb146)); have n9_:=Aside0.mk ((by rw [hg]; exact Nat.ne_of_lt (Ar (g:=gb147) (o:= .cells #[.slice A1 l1.length c1] 37 (0,0)) zN):gb147≠gb153)); have n10_:=Aside0.mk ((by rw [hg]; exact Nat.ne_of_gt (Ar (g:=gb147) (o:= .cells #[.slice A1 l1.length c1] 37 (0,0)) zN):gb153≠gb147)); have n11_:=Aside0.mk ((by rw [hg]; exact Nat.ne_of_lt (Ar (g:=gb152) (o:= .cells #[.int .i64 0] 3 (0,0)) zB3):gb152≠gb153)); have n12_:=Aside0.mk ((by rw [hg]; exact Nat.ne_of_gt (Ar (g:=gb152) (o:= .cells #[.int .i64 0] 3 (0,0)) zB3):gb153≠gb152)); clear BK146; clear BK147; clear BK152; clear HB; have BK146:=n0_; have BK147:=n1_; have BK152:=n2_; have HB:=n3_; have BK153:=n4_; have GW153:=n5_; have GE153:=n6_; have NB146_153:=n7_; have NB153_146:=n8_; have NB147_153:=n9_; have NB153_147:=n10_; have NB152_153:=n11_; have NB153_152:=n12_; clear n0_ n1_ n2_ n3_ n4_ n5_ n6_ n7_ n8_ n9_ n10_ n11_ n12_; clear hb hbox hg; have hnb47:=NB152_146.out; have hnc47:=NB146_152.out; have hnb48:=NB152_147.out; have hnc48:=NB147_152.out; have hnb49:=NB152_153.out; have hnc49:=NB153_152.out; have hcz50_0:w46.cell? ⟨gb152,0,none⟩=some (.int .i64 0):=(AK BK152.out 0).trans rfl; have hfz50_0:=AJ BK152.out 0; have hnb51:=NB153_146.out; have hnc51:=NB146_153.out; have hnb52:=NB153_147.out; have hnc52:=NB147_153.out; have hcz53_0:w46.cell? ⟨gb153,0,none⟩=some (.string (⟨#[]⟩:ByteArray)):=(AK BK153.out 0).trans rfl; have hcz53_1:w46.cell? ⟨gb153,1,none⟩=some (.int .i64 0):=(AK BK153.out 1).trans rfl; have hcz53_2:w46.cell? ⟨gb153,2,none⟩=some (.int .i64 0):=(AK BK153.out 2).trans rfl; have hcz53_3:w46.cell? ⟨gb153,3,none⟩=some (.slice none 0 0):=(AK BK153.out 3).trans rfl; have hfz53_0:=AJ BK153.out 0; have hfz53_1:=AJ BK153.out 1; have hfz53_2:=AJ BK153.out 2; have hfz53_3:=AJ BK153.out 3; have hnb54:=NB146_147.out; have hnc54:=NB147_146.out; have hcz55_0:w46.cell? ⟨gb146,0,none⟩=some (.int .i64 A8):=(AK BK146.out 0).trans rfl; have hcz55_1:w46.cell? ⟨gb146,1,none⟩=some (.slice (some ad151) l0_1.length c0_1):=(AK BK146.out 1).trans rfl; have hfz55_0:=AJ BK146.out 0; have hfz55_1:=AJ BK146.out 1; have hcz56_0:w46.cell? ⟨gb147,0,none⟩=some (.slice A1 l1.length c1):=(AK BK147.out 0).trans rfl; have hfz56_0:=AJ BK147.out 0)|((with_reducible refine Ad (f:=45) rfl ?_); refine Ax (some 40) rfl rfl Try.func45 zF rfl #[.slice A151_3 ((AL l0_1 x32_2).f3).length c151_3,.func (.func 46) #[] #[.pointer (some ⟨gb146,0,none⟩),.pointer (some ⟨gb147,0,none⟩),.pointer (some ⟨gb152,0,none⟩)]] rfl zB ?_; (with_reducible refine (Bu.calls _ _ ((AL l0_1 x32_2).f3) A8 _ _ l0_1 _ _ l1 x32_2 true _ ?side1 ?side2 ?side3 ?side4 ?side5 ?side6 A43.out zL zM zK).mono ?_); (case side1=>exact Kd.C_below HR151_3.out zQ); (case side2=>exact HC151_3.out); (case side3=>exact Kd.C_below HR0_1.out zQ); (case side4=>exact HC0_1.out); (case side5=>exact Kd.C_below HR1.out zQ); (case side6=>exact HC1.out); rintro e w57 ⟨rfl,hb⟩; refine ⟨_,rfl,?_⟩; have n0_:=Aside0.mk (AN (g:=gb146) (o:= .cells #[.int .i64 A8,.slice (some ad151) l0_1.length c0_1] 34 (0,0)) zL hb); have n1_:=Aside0.mk (AN (g:=gb147) (o:= .cells #[.slice A1 l1.length c1] 37 (0,0)) zM hb); have n2_:=Aside0.mk (AN (g:=gb152) (o:= .cells #[.int .i64 x32_2] 3 (0,0)) zK hb); have n3_:=Aside0.mk (AN (g:=gb153) (o:= .cells #[.string ((AL l0_1 x32_2).f0),.int .i64 ((AL l0_1 x32_2).f1),.int .i64 ((AL l0_1 x32_2).f2),.slice A151_3 ((AL l0_1 x32_2).f3).length c151_3] 64 (0,0)) zU hb); have n4_:=Aside0.mk (AO zQ hb); clear BK146; clear BK147; clear BK152; clear BK153; clear HB; have BK146:=n0_; have BK147:=n1_; have BK152:=n2_; have BK153:=n3_; have HB:=n4_; clear n0_ n1_ n2_ n3_ n4_; (try clear hb); (try clear hb2); (try clear hk); (try clear hi)))
            go_ret
            exact ⟨by first|rfl|(simp [AY,AX]<;>rfl)|(simp [*,AY,AX]<;>rfl),by repeat (first|(with_reducible first|exact HB.out|apply AE|apply AC|apply AD|refine AH ?_ GE146.out|refine AH ?_ GE147.out|refine AH ?_ GE152.out|refine AH ?_ GE153.out)|exact HB.out)⟩
           ·replace c44:=Bool.eq_false_iff.mpr c44
            subst c44
            have H1:(AT.l0 k2 l0_1 (l0_1.length:Int) (wrap64 (x32_2+1)) A8 l0_1 l1)=some r:=by rw [if_neg (show ¬(false=true) by decide)] at H; exact H
            clear H
            have H:=H1
            clear H1
            have H':=Aside0.mk H
            clear H
            have p151:0≤(x32_2:Int):=of_decide_eq_true zC
            have q151:x32_2<(l0_1.length:Int):=of_decide_eq_true zC
            obtain ⟨ad151,A151_3,c151_3,e151,hx151_0,hx151_1,hx151_2,hx151_3,hl151_3,hi151_3⟩:=Bi HR0_1.out x32_2 p151 q151
            cases e151
            replace hx151_0:=(HB.out.cell (World.block_lt_of_cell? w _ hx151_0)).trans hx151_0
            replace hx151_1:=(HB.out.cell (World.block_lt_of_cell? w _ hx151_1)).trans hx151_1
            replace hx151_2:=(HB.out.cell (World.block_lt_of_cell? w _ hx151_2)).trans hx151_2
            replace hx151_3:=(HB.out.cell (World.block_lt_of_cell? w _ hx151_3)).trans hx151_3
            have HR151_3:=Aside0.mk hi151_3
            have HC151_3:=Aside0.mk hl151_3
            clear hi151_3 hl151_3
            replace p151:=eq_true p151
            replace q151:=eq_true q151
            go_wp2_with (first|((with_reducible refine Am (N:=6) rfl ?_); (try (refine B9 (by rfl) ?_; dsimp only)); refine Ak ?hg (N:=6) ?hd (cs:= #[.int .i64 0]) (t:=3) ?hr ?_; (case hd=>rfl); (case hg=>rfl); (case hr=>first|(go_simp; done)|(go_simp; rfl)); intro gb152 hg w58 hbox hb; have n0_:=Aside0.mk (AN (g:=gb146) (o:= .cells #[.int .i64 A8,.slice (some ad151) l0_1.length c0_1] 34 (0,0)) zJ hb); have n1_:=Aside0.mk (AN (g:=gb147) (o:= .cells #[.slice A1 l1.length c1] 37 (0,0)) zN hb); have n2_:=Aside0.mk (AO zO hb); have n3_:=Aside0.mk (hbox); have n4_:=Aside0.mk ((by rw [hg]; exact (AP zO):w.heap.size≤gb152)); have n5_:=Aside0.mk ((by rw [hg]; exact (AP zO):w.heap.size≤gb152)); have n6_:=Aside0.mk ((by rw [hg]; exact Nat.ne_of_lt (Ar (g:=gb146) (o:= .cells #[.int .i64 A8,.slice (some ad151) l0_1.length c0_1] 34 (0,0)) zJ):gb146≠gb152)); have n7_:=Aside0.mk ((by rw [hg]; exact Nat.ne_of_gt (Ar (g:=gb146) (o:= .cells #[.int .i64 A8,.slice (some ad151) l0_1.length c0_1] 34 (0,0)) zJ):gb152≠gb146)); have n8_:=Aside0.mk ((by rw [hg]; exact Nat.ne_of_lt (Ar (g:=gb147) (o:= .cells #[.slice A1 l1.length c1] 37 (0,0)) zN):gb147≠gb152)); have n9_:=Aside0.mk ((by rw [hg]; exact Nat.ne_of_gt (Ar (g:=gb147) (o:= .cells #[.slice A1 l1.length c1] 37 (0,0)) zN):gb152≠gb147)); clear BK146; clear BK147; clear HB; have BK146:=n0_; have BK147:=n1_; have HB:=n2_; have BK152:=n3_; have GW152:=n4_; have GE152:=n5_; have NB146_152:=n6_; have NB152_146:=n7_; have NB147_152:=n8_; have NB152_147:=n9_; clear n0_ n1_ n2_ n3_ n4_ n5_ n6_ n7_ n8_ n9_; clear hb hbox hg)|((with_reducible refine Am (N:=7) rfl ?_); (try (refine B9 (by rfl) ?_; dsimp only)); refine Ak ?hg (N:=7) ?hd (cs:= #[.string (⟨#[]⟩:ByteArray),.int .i64 0,.int .i64 0,.slice none 0 0]) (t:=64) ?hr ?_; (case hd=>rfl); (case hg=>rfl); (case hr=>first|(go_simp; done)|(go_simp; rfl)); intro gb153 hg w59 hbox hb; have n0_:=Aside0.mk (AN (g:=gb146) (o:= .cells #[.int .i64 A8,.slice (some ad151) l0_1.length c0_1] 34 (0,0)) zJ hb); have n1_:=Aside0.mk (AN (g:=gb147) (o:= .cells #[.slice A1 l1.length c1] 37 (0,0)) zN hb); have n2_:=Aside0.mk (AN (g:=gb152) (o:= .cells #[.int .i64 0] 3 (0,0)) zB3 hb); have n3_:=Aside0.mk (AO zY hb); have n4_:=Aside0.mk (hbox); have n5_:=Aside0.mk ((by rw [hg]; exact (AP zY):w.heap.size≤gb153)); have n6_:=Aside0.mk ((by rw [hg]; exact (AP zY):w.heap.size≤gb153)); have n7_:=Aside0.mk ((by rw [hg]; exact Nat.ne_of_lt (Ar (g:=gb146) (o:= .cells #[.int .i64 A8,.slice (some ad151) l0_1.length c0_1] 34 (0,0)) zJ):gb146≠gb153)); have n8_:=Aside0.mk ((by rw [hg]; exact Nat.ne_of_gt (Ar (g:=gb146) (o:= .cells #[.int .i64 A8,.slice (some ad151) l0_1.length c0_1] 34 (0,0)) zJ):gb153≠gb146)); have n9_:=Aside0.mk ((by rw [hg]; exact Nat.ne_of_lt (Ar (g:=gb147) (o:= .cells #[.slice A1 l1.length c1] 37 (0,0)) zN):gb147≠gb153)); have n10_:=Aside0.mk ((by rw [hg]; exact Nat.ne_of_gt (Ar (g:=gb147) (o:= .cells #[.slice A1 l1.length c1] 37 (0,0)) zN):gb153≠gb147)); have n11_:=Aside0.mk ((by rw [hg]; exact Nat.ne_of_lt (Ar (g:=gb152) (o:= .cells #[.int .i64 0] 3 (0,0)) zB3):gb152≠gb153)); have n12_:=Aside0.mk ((by rw [hg]; exact Nat.ne_of_gt (Ar (g:=gb152) (o:= .cells #[.int .i64 0] 3 (0,0)) zB3):gb153≠gb152)); clear BK146; clear BK147; clear BK152; clear HB; have BK146:=n0_; have BK147:=n1_; have BK152:=n2_; have HB:=n3_; have BK153:=n4_; have GW153:=n5_; have GE153:=n6_; have NB146_153:=n7_; have NB153_146:=n8_; have NB147_153:=n9_; have NB153_147:=n10_; have NB152_153:=n11_; have NB153_152:=n12_; clear n0_ n1_ n2_ n3_ n4_ n5_ n6_ n7_ n8_ n9_ n10_ n11_ n12_; clear hb hbox hg; have hnb60:=NB152_146.out; have hnc60:=NB146_152.out; have hnb61:=NB152_147.out; have hnc61:=NB147_152.out; have hnb62:=NB152_153.out; have hnc62:=NB153_152.out; have hcz63_0:w59.cell? ⟨gb152,0,none⟩=some (.int .i64 0):=(AK BK152.out 0).trans rfl; have hfz63_0:=AJ BK152.out 0; have hnb64:=NB153_146.out; have hnc64:=NB146_153.out; have hnb65:=NB153_147.out; have hnc65:=NB147_153.out; have hcz66_0:w59.cell? ⟨gb153,0,none⟩=some (.string (⟨#[]⟩:ByteArray)):=(AK BK153.out 0).trans rfl; have hcz66_1:w59.cell? ⟨gb153,1,none⟩=some (.int .i64 0):=(AK BK153.out 1).trans rfl; have hcz66_2:w59.cell? ⟨gb153,2,none⟩=some (.int .i64 0):=(AK BK153.out 2).trans rfl; have hcz66_3:w59.cell? ⟨gb153,3,none⟩=some (.slice none 0 0):=(AK BK153.out 3).trans rfl; have hfz66_0:=AJ BK153.out 0; have hfz66_1:=AJ BK153.out 1; have hfz66_2:=AJ BK153.out 2; have hfz66_3:=AJ BK153.out 3; have hnb67:=NB146_147.out; have hnc67:=NB147_146.out; have hcz68_0:w59.cell? ⟨gb146,0,none⟩=some (.int .i64 A8):=(AK BK146.out 0).trans rfl; have hcz68_1:w59.cell? ⟨gb146,1,none⟩=some (.slice (some ad151) l0_1.length c0_1):=(AK BK146.out 1).trans rfl; have hfz68_0:=AJ BK146.out 0; have hfz68_1:=AJ BK146.out 1; have hcz69_0:w59.cell? ⟨gb147,0,none⟩=some (.slice A1 l1.length c1):=(AK BK147.out 0).trans rfl; have hfz69_0:=AJ BK147.out 0)|((with_reducible refine Ad (f:=45) rfl ?_); refine Ax (some 40) rfl rfl Try.func45 zF rfl #[.slice A151_3 ((AL l0_1 x32_2).f3).length c151_3,.func (.func 46) #[] #[.pointer (some ⟨gb146,0,none⟩),.pointer (some ⟨gb147,0,none⟩),.pointer (some ⟨gb152,0,none⟩)]] rfl zB ?_; (with_reducible refine (Bu.calls _ _ ((AL l0_1 x32_2).f3) A8 _ _ l0_1 _ _ l1 x32_2 false _ ?side1 ?side2 ?side3 ?side4 ?side5 ?side6 A43.out zL zM zK).mono ?_); (case side1=>exact Kd.C_below HR151_3.out zQ); (case side2=>exact HC151_3.out); (case side3=>exact Kd.C_below HR0_1.out zQ); (case side4=>exact HC0_1.out); (case side5=>exact Kd.C_below HR1.out zQ); (case side6=>exact HC1.out); rintro e w70 ⟨rfl,hb⟩; refine ⟨_,rfl,?_⟩; have n0_:=Aside0.mk (AN (g:=gb146) (o:= .cells #[.int .i64 A8,.slice (some ad151) l0_1.length c0_1] 34 (0,0)) zL hb); have n1_:=Aside0.mk (AN (g:=gb147) (o:= .cells #[.slice A1 l1.length c1] 37 (0,0)) zM hb); have n2_:=Aside0.mk (AN (g:=gb152) (o:= .cells #[.int .i64 x32_2] 3 (0,0)) zK hb); have n3_:=Aside0.mk (AN (g:=gb153) (o:= .cells #[.string ((AL l0_1 x32_2).f0),.int .i64 ((AL l0_1 x32_2).f1),.int .i64 ((AL l0_1 x32_2).f2),.slice A151_3 ((AL l0_1 x32_2).f3).length c151_3] 64 (0,0)) zU hb); have n4_:=Aside0.mk (AO zQ hb); clear BK146; clear BK147; clear BK152; clear BK153; clear HB; have BK146:=n0_; have BK147:=n1_; have BK152:=n2_; have BK153:=n3_; have HB:=n4_; clear n0_ n1_ n2_ n3_ n4_; (try clear hb); (try clear hb2); (try clear hk); (try clear hi)))
            go_roundg k2
            case measure=>have:=HJ2.out; have:=HK2.out; omega
            case rel=>exact ⟨(wrap64 (x32_2+1)),zH,H',⟨by have:=HJ2.out; have:=HK2.out; omega⟩,⟨by (with_reducible repeat (first|refine AF ?_ _|refine AI ?_|refine AG ?_ _)); exact BK146.out⟩,⟨by (with_reducible repeat (first|refine AF ?_ _|refine AI ?_|refine AG ?_ _)); exact BK147.out⟩,⟨by repeat (first|(with_reducible first|exact HB.out|apply AE|apply AC|apply AD|refine AH ?_ GE146.out|refine AH ?_ GE147.out|refine AH ?_ GE152.out|refine AH ?_ GE153.out)|exact HB.out)⟩⟩
          ·rw [if_neg c42] at H
           exact absurd H zA1
         ·rw [if_neg c41] at H
          exact absurd H zA1
        ·rw [if_neg c40] at H
         have c40b0:decide (x32_2<(l0_1.length:Int))=false:=decide_eq_false c40
         clear c40
         obtain rfl:=Option.some.inj H
         go_wp2
         go_ret
         exact ⟨by first|rfl|(simp [AY,AX]<;>rfl)|(simp [*,AY,AX]<;>rfl),by repeat (first|(with_reducible first|exact HB.out|apply AE|apply AC|apply AD|refine AH ?_ GE146.out|refine AH ?_ GE147.out)|exact HB.out)⟩
def Ai.l0:Nat→List (S47)→Int→Int→Int→Int→List (S64)→Option (Int×Int)
 |0,_,_,_,_,_,_=>none
 |k+1,x1,x7,x16,x17,x156000,x156001=>if x17<x16 then ((Au.f x156000 x156001 x1 x17).bind fun t157=>(Ai.l0 k x1 (mx x7 t157) x16 (wrap64 (x17+1)) x156000 x156001)) else (some (x7,0))
def Ai.f (k:Nat) (A8:Int) (l0_1:List (S64)) (l1:List (S47)):Option (Int×Int):=(AT.f k A8 l0_1 l1).bind fun t156=>(if t156=0 then (Ai.l0 k l1 0 (l1.length:Int) 0 A8 l0_1) else (some (0,t156)))
theorem Ai.mono_l:∀k,(∀y0 y1 y2 y3 y4 y5,LeO (Ai.l0 k y0 y1 y2 y3 y4 y5) (Ai.l0 (k+1) y0 y1 y2 y3 y4 y5))
 |0=>fun _ _ _ _ _ _ r h=>by simp [Ai.l0] at h
 | k +1=>by
  have ih0:=Ai.mono_l k
  ·intro y0 y1 y2 y3 y4 y5
   unfold Ai.l0
   repeat' first
   |(with_reducible exact ih0 _ _ _ _ _ _)
   |(with_reducible exact AT.mono _ _ _ _)
   |(with_reducible exact LeO.refl _)
   |(with_reducible exact LeO.none _)
   |(with_reducible refine LeO.ite ?_ ?_)
   |(with_reducible refine LeO.bind ?_ (fun _=> ?_))
   |exact ih0 _ _ _ _ _ _
   |exact AT.mono _ _ _ _
   |exact LeO.none _
   |refine LeO.ite ?_ ?_
   |refine LeO.bind ?_ (fun _=> ?_)
theorem Ai.mono:∀a0 a1 a2 k,LeO (Ai.f k a0 a1 a2) (Ai.f (k+1) a0 a1 a2):=by
 intro a0 a1 a2 k
 have ih0:=Ai.mono_l k
 unfold Ai.f
 repeat' first
  |(with_reducible exact ih0 _ _ _ _ _ _)
  |(with_reducible exact AT.mono _ _ _ _)
  |(with_reducible exact LeO.refl _)
  |(with_reducible exact LeO.none _)
  |(with_reducible refine LeO.ite ?_ ?_)
  |(with_reducible refine LeO.bind ?_ (fun _=> ?_))
  |exact ih0 _ _ _ _ _ _
  |exact AT.mono _ _ _ _
  |exact LeO.none _
  |refine LeO.ite ?_ ?_
  |refine LeO.bind ?_ (fun _=> ?_)
set_option maxHeartbeats 8000000 in
theorem Ai.calls (k:Nat) (A8:Int) (A0_1:Option Addr) (c0_1:Nat) (l0_1:List (S64)) (A1:Option Addr) (c1:Nat) (l1:List (S47)) (r1:Int) (r2:Int) (w:World) (hr0_1:Kd.C k64 w A0_1 l0_1.length l0_1) (hc0_1:l0_1.length≤c0_1) (hr1:Kd.C k47 w A1 l1.length l1) (hc1:l1.length≤c1) (h:Ai.f k A8 l0_1 l1=some (r1,r2)):
  Calls Try.prog 13 #[.agg #[.int .i64 A8,.slice A0_1 l0_1.length c0_1],.slice A1 l1.length c1] w fun e w'=>e= .returned (.tuple #[.int .i64 r1,.int .i64 r2])∧Below w.heap.size w w':=by
 have hu34:=Try.underlying34
 have HR0_1:=Aside0.mk hr0_1
 have HC0_1:=Aside0.mk hc0_1
 clear hr0_1 hc0_1
 have HR1:=Aside0.mk hr1
 have HC1:=Aside0.mk hc1
 clear hr1 hc1
 have HB:=Aside0.mk (Below.refl w.heap.size w)
 have H:((AT.f k A8 l0_1 l1).bind fun t156=>(if t156=0 then (Ai.l0 k l1 0 (l1.length:Int) 0 A8 l0_1) else (some (0,t156))))=some (r1,r2):=h
 clear h
 replace H:=Option.bind_eq_some_iff.mp H
 obtain ⟨t156,A30,H⟩:=H
 replace H:(if t156=0 then (Ai.l0 k l1 0 (l1.length:Int) 0 A8 l0_1) else (some (0,t156)))=some (r1,r2):=H
 have A3:=Aside0.mk A30
 clear A30
 by_cases c4:t156=0
 ·rw [if_pos c4] at H
  have c4b0:(t156==0)=true:=beq_iff_eq.mpr c4
  have c4b1:(t156 !=0)=false:=bne_eq_false_iff_eq.mpr c4
  clear c4
  have H':=Aside0.mk H
  clear H
  go_enter Try.func13,Try.ntmps13
  go_wp2_with (first|((with_reducible refine Am (N:=2) rfl ?_); refine Ak ?hg (N:=2) ?hd (cs:= #[.int .i64 A8,.slice A0_1 l0_1.length c0_1]) (t:=34) ?hr ?_; (case hd=>rfl); (case hg=>rfl); (case hr=>first|(go_simp; done)|(go_simp; rfl)); intro gb155 hg w5 hbox hb; have n0_:=Aside0.mk (AO zA hb); have n1_:=Aside0.mk (hbox); have n2_:=Aside0.mk ((by rw [hg]; exact (AP zA):w.heap.size≤gb155)); have n3_:=Aside0.mk ((by rw [hg]; exact (AP zA):w.heap.size≤gb155)); clear HB; have HB:=n0_; have BK155:=n1_; have GW155:=n2_; have GE155:=n3_; clear n0_ n1_ n2_ n3_; clear hb hbox hg; have hcz6_0:w5.cell? ⟨gb155,0,none⟩=some (.int .i64 A8):=(AK BK155.out 0).trans rfl; have hcz6_1:w5.cell? ⟨gb155,1,none⟩=some (.slice A0_1 l0_1.length c0_1):=(AK BK155.out 1).trans rfl; have hfz6_0:=AJ BK155.out 0; have hfz6_1:=AJ BK155.out 1)|((with_reducible refine Ad (f:=28) rfl ?_); refine Ax (some 11) rfl rfl Try.func28 zF rfl #[.agg #[.int .i64 A8,.slice A0_1 l0_1.length c0_1],.slice A1 l1.length c1] rfl zB ?_; (with_reducible refine (AT.calls k A8 _ _ l0_1 _ _ l1 t156 _ ?side1 ?side2 ?side3 ?side4 A3.out).mono ?_); (case side1=>repeat (first|exact (Kd.C_below HR0_1.out HB.out)|(with_reducible refine Kd.C_alloc ?_ _)|(with_reducible refine Kd.C_drewN ?_ _)|(with_reducible refine Kd.C_drew ?_))); (case side2=>exact HC0_1.out); (case side3=>repeat (first|exact (Kd.C_below HR1.out HB.out)|(with_reducible refine Kd.C_alloc ?_ _)|(with_reducible refine Kd.C_drewN ?_ _)|(with_reducible refine Kd.C_drew ?_))); (case side4=>exact HC1.out); rintro e w7 ⟨rfl,hb⟩; refine ⟨_,rfl,?_⟩; have n0_:=Aside0.mk (AN (g:=gb155) (o:= .cells #[.int .i64 A8,.slice A0_1 l0_1.length c0_1] 34 (0,0)) (by (with_reducible repeat (first|refine AF ?_ _|refine AI ?_|refine AG ?_ _)); exact BK155.out) hb); have n1_:=Aside0.mk (AO (by repeat (first|(with_reducible first|exact HB.out|apply AE|apply AC|apply AD|refine AH ?_ GE155.out)|exact HB.out)) hb); clear BK155; clear HB; have BK155:=n0_; have HB:=n1_; clear n0_ n1_; (try clear hb); (try clear hb2); (try clear hk); (try clear hi)))
  go_loopg [7,17] k (fun kq v7 v17 w'=>∃(x7_1:Int) (x17_1:Int),v7= .int .i64 x7_1∧v17= .int .i64 x17_1∧Aside0 (Ai.l0 kq l1 x7_1 (l1.length:Int) x17_1 A8 l0_1=some (r1,r2))∧Aside0 (kq≤k)∧Aside0 (w'.heap[gb155]? =some (.cells #[.int .i64 A8,(.slice A0_1 l0_1.length c0_1)] 34 (0,0)))∧Aside0 (Below w.heap.size w w'))
  case atStart=>exact ⟨(0),(0),zH,zH,H',⟨Nat.le_refl _⟩,⟨by (with_reducible repeat (first|refine AF ?_ _|refine AI ?_|refine AG ?_ _)); exact BK155.out⟩,⟨by repeat (first|(with_reducible first|exact HB.out|apply AE|apply AC|apply AD|refine AH ?_ GE155.out)|exact HB.out)⟩⟩
  case round=>
   clear H'
   try clear c1
   try clear c2
   try clear p2
   try clear c4
   try clear c4b0
   try clear c4b1
   try clear hcz6_0
   try clear hcz6_1
   try clear hfz6_0
   try clear hfz6_1
   obtain ⟨x7_1,x17_1,rfl,rfl,HA,HK1,BK155,HB⟩:=hrel
   cases gk with
   |zero=>exact absurd HA.out (by simp [Ai.l0])
   | succ k1=>
    have H:=HA.out
    clear HA
    simp only [Ai.l0] at H
    by_cases c8:x17_1<(l1.length:Int)
    ·rw [if_pos c8] at H
     have c8b0:decide (x17_1<(l1.length:Int))=true:=decide_eq_true c8
     clear c8
     replace H:=Option.bind_eq_some_iff.mp H
     obtain ⟨t157,A90,H⟩:=H
     replace H:(Ai.l0 k1 l1 (mx x7_1 t157) (l1.length:Int) (wrap64 (x17_1+1)) A8 l0_1)=some (r1,r2):=H
     have A9:=Aside0.mk A90
     clear A90
     obtain ⟨ji10,hji10⟩:∃j_:Int,(mx x7_1 t157)=j_:=⟨_,rfl⟩
     replace H:(Ai.l0 k1 l1 ji10 (l1.length:Int) (wrap64 (x17_1+1)) A8 l0_1)=some (r1,r2):=by first|(rw [hji10] at H; exact H)|(simp only [hji10] at H ⊢; exact H)
     (try rw [hji10] at A9)
     have hji10_:(if x7_1<t157 then t157 else x7_1)=ji10:=hji10
     have H':=Aside0.mk H
     clear H
     have hcz11_0:wr.cell? ⟨gb155,0,none⟩=some (.int .i64 A8):=(AK BK155.out 0).trans rfl
     have hcz11_1:wr.cell? ⟨gb155,1,none⟩=some (.slice A0_1 l0_1.length c0_1):=(AK BK155.out 1).trans rfl
     have hfz11_0:=AJ BK155.out 0
     have hfz11_1:=AJ BK155.out 1
     go_wp2_with (first|((with_reducible refine Ad (f:=30) rfl ?_); refine Ax (some 24) rfl rfl Try.func30 zF rfl #[.agg #[.int .i64 A8,.slice A0_1 l0_1.length c0_1],.slice A1 l1.length c1,.int .i64 x17_1] rfl zB ?_; (with_reducible refine (Au.calls A8 _ _ l0_1 _ _ l1 x17_1 t157 _ ?side1 ?side2 ?side3 ?side4 A9.out).mono ?_); (case side1=>repeat (first|exact (Kd.C_below HR0_1.out HB.out)|(with_reducible refine Kd.C_alloc ?_ _)|(with_reducible refine Kd.C_drewN ?_ _)|(with_reducible refine Kd.C_drew ?_))); (case side2=>exact HC0_1.out); (case side3=>repeat (first|exact (Kd.C_below HR1.out HB.out)|(with_reducible refine Kd.C_alloc ?_ _)|(with_reducible refine Kd.C_drewN ?_ _)|(with_reducible refine Kd.C_drew ?_))); (case side4=>exact HC1.out); rintro e w12 ⟨rfl,hb⟩; refine ⟨_,rfl,?_⟩; have n0_:=Aside0.mk (AN (g:=gb155) (o:= .cells #[.int .i64 A8,.slice A0_1 l0_1.length c0_1] 34 (0,0)) (by (with_reducible repeat (first|refine AF ?_ _|refine AI ?_|refine AG ?_ _)); exact BK155.out) hb); have n1_:=Aside0.mk (AO (by repeat (first|(with_reducible first|exact HB.out|apply AE|apply AC|apply AD|refine AH ?_ GE155.out)|exact HB.out)) hb); clear BK155; clear HB; have BK155:=n0_; have HB:=n1_; clear n0_ n1_; (try clear hb); (try clear hb2); (try clear hk); (try clear hi)))
     go_roundg k1
     case measure=>have:=HK1.out; omega
     case rel=>exact ⟨(ji10),(wrap64 (x17_1+1)),(by first|rfl|(simp; done)|(simp only [←hji10]<;>(first|rfl|simp))|(simp [*]; done)),zH,H',⟨by have:=HK1.out; omega⟩,⟨by (with_reducible repeat (first|refine AF ?_ _|refine AI ?_|refine AG ?_ _)); exact BK155.out⟩,⟨by repeat (first|(with_reducible first|exact HB.out|apply AE|apply AC|apply AD|refine AH ?_ GE155.out)|exact HB.out)⟩⟩
    ·rw [if_neg c8] at H
     have c8b0:decide (x17_1<(l1.length:Int))=false:=decide_eq_false c8
     clear c8
     simp only [Option.some.injEq,Prod.mk.injEq] at H
     obtain ⟨rfl,rfl⟩:=H
     go_wp2
     go_ret2
     exact ⟨by first|rfl|(simp [AY,AX]<;>rfl)|(simp [*,AY,AX]<;>rfl),by repeat (first|(with_reducible first|exact HB.out|apply AE|apply AC|apply AD|refine AH ?_ GE155.out)|exact HB.out)⟩
 ·rw [if_neg c4] at H
  have c4b0:(t156==0)=false:=beq_eq_false_iff_ne.mpr c4
  have c4b1:(t156 !=0)=true:=bne_iff_ne.mpr c4
  simp only [Option.some.injEq,Prod.mk.injEq] at H
  obtain ⟨rfl,rfl⟩:=H
  go_enter Try.func13,Try.ntmps13
  go_wp2_with (first|((with_reducible refine Am (N:=2) rfl ?_); refine Ak ?hg (N:=2) ?hd (cs:= #[.int .i64 A8,.slice A0_1 l0_1.length c0_1]) (t:=34) ?hr ?_; (case hd=>rfl); (case hg=>rfl); (case hr=>first|(go_simp; done)|(go_simp; rfl)); intro gb155 hg w13 hbox hb; have n0_:=Aside0.mk (AO zA hb); have n1_:=Aside0.mk (hbox); have n2_:=Aside0.mk ((by rw [hg]; exact (AP zA):w.heap.size≤gb155)); have n3_:=Aside0.mk ((by rw [hg]; exact (AP zA):w.heap.size≤gb155)); clear HB; have HB:=n0_; have BK155:=n1_; have GW155:=n2_; have GE155:=n3_; clear n0_ n1_ n2_ n3_; clear hb hbox hg; have hcz14_0:w13.cell? ⟨gb155,0,none⟩=some (.int .i64 A8):=(AK BK155.out 0).trans rfl; have hcz14_1:w13.cell? ⟨gb155,1,none⟩=some (.slice A0_1 l0_1.length c0_1):=(AK BK155.out 1).trans rfl; have hfz14_0:=AJ BK155.out 0; have hfz14_1:=AJ BK155.out 1)|((with_reducible refine Ad (f:=28) rfl ?_); refine Ax (some 11) rfl rfl Try.func28 zF rfl #[.agg #[.int .i64 A8,.slice A0_1 l0_1.length c0_1],.slice A1 l1.length c1] rfl zB ?_; (with_reducible refine (AT.calls k A8 _ _ l0_1 _ _ l1 t156 _ ?side1 ?side2 ?side3 ?side4 A3.out).mono ?_); (case side1=>repeat (first|exact (Kd.C_below HR0_1.out HB.out)|(with_reducible refine Kd.C_alloc ?_ _)|(with_reducible refine Kd.C_drewN ?_ _)|(with_reducible refine Kd.C_drew ?_))); (case side2=>exact HC0_1.out); (case side3=>repeat (first|exact (Kd.C_below HR1.out HB.out)|(with_reducible refine Kd.C_alloc ?_ _)|(with_reducible refine Kd.C_drewN ?_ _)|(with_reducible refine Kd.C_drew ?_))); (case side4=>exact HC1.out); rintro e w15 ⟨rfl,hb⟩; refine ⟨_,rfl,?_⟩; have n0_:=Aside0.mk (AN (g:=gb155) (o:= .cells #[.int .i64 A8,.slice A0_1 l0_1.length c0_1] 34 (0,0)) (by (with_reducible repeat (first|refine AF ?_ _|refine AI ?_|refine AG ?_ _)); exact BK155.out) hb); have n1_:=Aside0.mk (AO (by repeat (first|(with_reducible first|exact HB.out|apply AE|apply AC|apply AD|refine AH ?_ GE155.out)|exact HB.out)) hb); clear BK155; clear HB; have BK155:=n0_; have HB:=n1_; clear n0_ n1_; (try clear hb); (try clear hb2); (try clear hk); (try clear hi)))
  go_ret2
  exact ⟨by first|rfl|(simp [AY,AX]<;>rfl)|(simp [*,AY,AX]<;>rfl),by repeat (first|(with_reducible first|exact HB.out|apply AE|apply AC|apply AD|refine AH ?_ GE155.out)|exact HB.out)⟩
def AW.l0:Nat→List Int→Int→Int→Int→Option (Int)
 |0,_,_,_,_=>none
 |k+1,x0,x1,x7,x8=>if x8<x7 then (if 0≤x8 then (if x8<(x0.length:Int) then (if x1=(rd x0 x8) then (some x8) else (AW.l0 k x0 x1 x7 (wrap64 (x8+1)))) else (none)) else (none)) else (some (-1))
def AW.f (k:Nat) (l0:List Int) (a1:Int):Option (Int):=AW.l0 k l0 a1 (l0.length:Int) 0
theorem AW.mono_l:∀k,(∀y0 y1 y2 y3,LeO (AW.l0 k y0 y1 y2 y3) (AW.l0 (k+1) y0 y1 y2 y3))
 |0=>fun _ _ _ _ r h=>by simp [AW.l0] at h
 | k +1=>by
  have ih0:=AW.mono_l k
  ·intro y0 y1 y2 y3
   unfold AW.l0
   repeat' first
   |(with_reducible exact ih0 _ _ _ _)
   |(with_reducible exact LeO.refl _)
   |(with_reducible exact LeO.none _)
   |(with_reducible refine LeO.ite ?_ ?_)
   |(with_reducible refine LeO.bind ?_ (fun _=> ?_))
   |exact ih0 _ _ _ _
   |exact LeO.none _
   |refine LeO.ite ?_ ?_
   |refine LeO.bind ?_ (fun _=> ?_)
theorem AW.mono:∀a0 a1 k,LeO (AW.f k a0 a1) (AW.f (k+1) a0 a1):=by
 intro a0 a1 k
 have ih0:=AW.mono_l k
 unfold AW.f
 repeat' first
  |(with_reducible exact ih0 _ _ _ _)
  |(with_reducible exact LeO.refl _)
  |(with_reducible exact LeO.none _)
  |(with_reducible refine LeO.ite ?_ ?_)
  |(with_reducible refine LeO.bind ?_ (fun _=> ?_))
  |exact ih0 _ _ _ _
  |exact LeO.none _
  |refine LeO.ite ?_ ?_
  |refine LeO.bind ?_ (fun _=> ?_)
set_option maxHeartbeats 8000000 in
theorem AW.calls (k:Nat) (A0:Option Addr) (c0:Nat) (l0:List Int) (a1:Int) (r:Int) (w:World) (hr0:Kd.C (Kd.int .i64) w A0 l0.length l0) (hc0:l0.length≤c0) (h:AW.f k l0 a1=some r):
  Calls Try.prog 53 #[.slice A0 l0.length c0,.int .i64 a1] w fun e w'=>e= .returned (.int .i64 r)∧Drawn0 w w':=by
 have HR0:=Aside0.mk hr0
 have HC0:=Aside0.mk hc0
 clear hr0 hc0
 have H:(AW.l0 k l0 a1 (l0.length:Int) 0)=some r:=h
 clear h
 have H':=Aside0.mk H
 clear H
 go_enter Try.func53,Try.ntmps53
 go_wp2
 go_loopg [8] k (fun kq v8 w'=>∃(x8_1:Int),v8= .int .i64 x8_1∧Aside0 (AW.l0 kq l0 a1 (l0.length:Int) x8_1=some r)∧Aside0 (kq≤k)∧Drawn0 w w')
 case atStart=>exact ⟨(0),zH,H',⟨Nat.le_refl _⟩,by repeat (first|exact Drawn0.refl _|apply Drawn0.step)⟩
 case round=>
  clear H'
  try clear p2
  obtain ⟨x8_1,rfl,HA,HK1,⟨m1,rfl⟩⟩:=hrel
  cases gk with
  |zero=>exact absurd HA.out (by simp [AW.l0])
  | succ k1 =>
   have H:=HA.out
   clear HA
   simp only [AW.l0] at H
   by_cases c3:x8_1<(l0.length:Int)
   ·rw [if_pos c3] at H
    have c3b0:decide (x8_1<(l0.length:Int))=true:=decide_eq_true c3
    clear c3
    by_cases c4:0≤x8_1
    ·rw [if_pos c4] at H
     have c4b0:decide (0≤x8_1)=true:=decide_eq_true c4
     clear c4
     by_cases c5:x8_1<(l0.length:Int)
     ·rw [if_pos c5] at H
      have c5b0:decide (x8_1<(l0.length:Int))=true:=decide_eq_true c5
      clear c5
      by_cases c6:a1=(rd l0 x8_1)
      ·rw [if_pos c6] at H
       have c6b0:(a1==(rd l0 x8_1))=true:=beq_iff_eq.mpr c6
       have c6b1:(a1 !=(rd l0 x8_1))=false:=bne_eq_false_iff_eq.mpr c6
       clear c6
       obtain rfl:=Option.some.inj H
       have p158:0≤(x8_1:Int):=of_decide_eq_true zC
       have q158:x8_1<(l0.length:Int):=of_decide_eq_true zC
       obtain ⟨ad158,e158,hx158_0⟩:=Kd.at_int HR0.out x8_1 p158 q158
       cases e158
       replace p158:=eq_true p158
       replace q158:=eq_true q158
       go_wp2
       go_ret
       exact ⟨by first|rfl|(simp; done)|(simp [*]; done),by repeat (first|exact Drawn0.refl _|apply Drawn0.step)⟩
      ·rw [if_neg c6] at H
       have c6b0:(a1==(rd l0 x8_1))=false:=beq_eq_false_iff_ne.mpr c6
       have c6b1:(a1 !=(rd l0 x8_1))=true:=bne_iff_ne.mpr c6
       have H':=Aside0.mk H
       clear H
       have p158:0≤(x8_1:Int):=of_decide_eq_true zC
       have q158:x8_1<(l0.length:Int):=of_decide_eq_true zC
       obtain ⟨ad158,e158,hx158_0⟩:=Kd.at_int HR0.out x8_1 p158 q158
       cases e158
       replace p158:=eq_true p158
       replace q158:=eq_true q158
       go_wp2
       go_roundg k1
       case measure=>have:=HK1.out; omega
       case rel=>exact ⟨(wrap64 (x8_1+1)),zH,H',⟨by have:=HK1.out; omega⟩,by repeat (first|exact Drawn0.refl _|apply Drawn0.step)⟩
     ·rw [if_neg c5] at H
      exact absurd H zA1
    ·rw [if_neg c4] at H
     exact absurd H zA1
   ·rw [if_neg c3] at H
    have c3b0:decide (x8_1<(l0.length:Int))=false:=decide_eq_false c3
    clear c3
    obtain rfl:=Option.some.inj H
    go_wp2
    go_ret
    exact ⟨by first|rfl|(simp; done)|(simp [*]; done),by repeat (first|exact Drawn0.refl _|apply Drawn0.step)⟩
def mnGo (l:List Int):Nat→Nat→Int→Int
 |0,_,a=>a
 |k+1,n,a=>mnGo l k (n+1) (mn a (rd l n))
def B6.f (l0:List Int):Option (Int):=if l0.length=0 then none else some (mnGo l0 (l0.length-1) 1 (rd l0 0))
set_option maxHeartbeats 8000000 in
theorem B6.calls (A0:Option Addr) (c0:Nat) (l0:List Int) (r:Int) (w:World) (hr0:Kd.C (Kd.int .i64) w A0 l0.length l0) (hc0:l0.length≤c0) (h:B6.f l0=some r):
  Calls Try.prog 54 #[.slice A0 l0.length c0] w fun e w'=>e= .returned (.int .i64 r)∧Drawn0 w w':=by
 have h0:l0.length≠0:=fun c=>by simp [B6.f,c] at h
 rw [B6.f,if_neg h0] at h
 have h:=Option.some.inj h
 have HL:=Aside0.mk hr0.2.1
 have HR:=Aside0.mk hr0
 have HH:=Aside0.mk h
 obtain ⟨ad,e1,hx0⟩:=Kd.at_int hr0 0 zD zD
 cases e1
 have c1:decide ((l0.length:Int)<1)=false:=decide_eq_false zD
 have c2:((0:Int)<(l0.length:Int))=True:=eq_true zD
 clear h hr0
 replace hx0:w.cell? ad=some (.int .i64 (rd l0 0)):=by
  have e:ad.add (0:Int).toNat=ad:=by obtain ⟨b,o,s⟩:=ad; unfold Addr.add; simp
  rwa [e] at hx0
 go_enter Try.func54,Try.ntmps54
 go_wp2
 go_loopg [3,4] l0.length (fun gg v3 v4 w'=>∃(n:Nat) (a:Int),v3= .int .i64 a∧v4= .int .i64 (n:Int)∧Aside0 (1≤n)∧Aside0 (n≤l0.length)∧Aside0 (l0.length-n≤gg)∧Aside0 (mnGo l0 (l0.length-n) n a=r)∧Aside0 (Drawn0 w w'))
 case atStart=>exact ⟨1,_,rfl,rfl,⟨Nat.le_refl _⟩,⟨by omega⟩,⟨by omega⟩,⟨HH.out⟩,⟨by repeat (first|exact Drawn0.refl _|apply Drawn0.step)⟩⟩
 case round=>
  obtain ⟨n,a,rfl,rfl,H0,H1,H2,H3,HD⟩:=hrel
  clear HH
  by_cases c3:n<l0.length
  ·have c3b:decide ((n:Int)<(l0.length:Int))=true:=decide_eq_true zD
   obtain ⟨ad2,e2,hy0⟩:=Kd.at_int HR.out (n:Int) zD zD
   cases e2
   replace hy0:=(HD.out.below.cell (World.block_lt_of_cell? w _ hy0)).trans hy0
   simp only [Int.toNat_natCast] at hy0
   have h3:=H3.out
   rw [show l0.length-n=(l0.length-(n+1))+1 by omega,mnGo] at h3
   replace h3:=Aside0.mk h3
   clear hx0
   go_wp2
   ·go_roundg (l0.length-(n+1))
    case measure=>have:=H2.out; omega
    case rel=>exact ⟨n+1,_,rfl,by have:=HL.out; rw [show wrap64 ((n:Int)+1)=((n+1:Nat):Int) from by unfold wrap64; omega],⟨by omega⟩,⟨by omega⟩,⟨by omega⟩,⟨(congrArg (fun z=>mnGo l0 (l0.length-(n+1)) (n+1) z=r) (show mn a (rd l0 n)=rd l0 n from by unfold mn; exact if_pos (by assumption))).mp h3.out⟩,⟨by repeat (first|exact HD.out|apply Drawn0.step)⟩⟩
   ·go_roundg (l0.length-(n+1))
    case measure=>have:=H2.out; omega
    case rel=>exact ⟨n+1,_,rfl,by have:=HL.out; rw [show wrap64 ((n:Int)+1)=((n+1:Nat):Int) from by unfold wrap64; omega],⟨by omega⟩,⟨by omega⟩,⟨by omega⟩,⟨(congrArg (fun z=>mnGo l0 (l0.length-(n+1)) (n+1) z=r) (show mn a (rd l0 n)=a from by unfold mn; exact if_neg zD)).mp h3.out⟩,⟨by repeat (first|exact HD.out|apply Drawn0.step)⟩⟩
  ·have c3b:decide ((n:Int)<(l0.length:Int))=false:=decide_eq_false zD
   have h3:=H3.out
   rw [show l0.length-n=0 by omega,mnGo] at h3
   replace h3:=Aside0.mk h3
   clear hx0
   go_wp2
   go_ret
   exact ⟨by rw [←h3.out]; rfl,by repeat (first|exact HD.out|apply Drawn0.step)⟩
end Go.Proofs.Ytdadecjefafflaa.PLst
end
section
namespace Go.Proofs.Ytdadecjefafflaa.PLst
set_option maxRecDepth 100000
open Go.RowKit Go.Proofs.YtdadecjefafflaaW.PrintWords Go.Proofs.YtdadecjefafflaaW.PrintLast Go.Proofs.YtdadecjefafflaaW.PrintMore
attribute [local go_sem] BP BN Bb Ba BG BF BO BM
def CB (pl:List Bool) (a:Int):Option Bool:=if 0≤a then (if a<(pl.length:Int) then some (!rdOf false pl a) else none) else none
theorem li_not (A1:Option Addr) (c1:Nat) (pl:List Bool) (a:Int) (b:Bool) (g:Nat) (w:World) (hr:Kd.C Kd.bool w A1 pl.length pl) (h:CB pl a=some b) (hb:w.heap[g]? =some (.cells #[.slice A1 pl.length c1] 67 (0,0))):
  Calls Try.prog 52 #[.int .i64 a,.pointer (some ⟨g,0,none⟩)] w fun e w'=>e= .returned (.bool b)∧Below w.heap.size w w':=by
 unfold CB at h
 by_cases c0:0≤a
 ·rw [if_pos c0] at h
  by_cases c4:a<(pl.length:Int)
  ·rw [if_pos c4] at h
   cases h
   have hy:w.cell? ⟨g,0,none⟩=some (.slice A1 pl.length c1):=(AK hb 0).trans rfl
   obtain ⟨ad,e1,hx0⟩:=Kd.at_bool hr a c0 c4
   cases e1
   have c0b:=eq_true c0
   have c4b:=eq_true c4
   clear hr hb c0 c4
   go_enter Try.func52,Try.ntmps52
   go_wp2
   all_goals (go_ret; exact ⟨by first|rfl|(simp; done)|(simp [*]; done),by repeat (first|exact Below.refl _ _|apply AC|apply AD)⟩)
  ·rw [if_neg c4] at h; cases h
 ·rw [if_neg c0] at h; cases h
def ready (pl:List Bool) (ts:List S64) (i:Int):Option Bool:=(CB pl i).bind fun b=>if b=true then (if i<(ts.length:Int) then (anyO (CB pl) (AL ts i).f3).map (fun b=> !b) else none) else some false
open Go.Shelf in
theorem Fk (A1:Option Addr) (c1:Nat) (pl:List Bool) (m:Int) (A2:Option Addr) (c2:Nat) (ts:List S64) (i:Int) (b:Bool) (g1 g2:Nat) (w:World) (hr:Kd.C Kd.bool w A1 pl.length pl) (hr2:Kd.C k64 w A2 ts.length ts) (h:ready pl ts i=some b)
  (hb1:w.heap[g1]? =some (.cells #[.slice A1 pl.length c1] 67 (0,0))) (hb2:w.heap[g2]? =some (.cells #[.int .i64 m,.slice A2 ts.length c2] 34 (0,0))):
  Calls Try.prog 51 #[.int .i64 i,.pointer (some ⟨g1,0,none⟩),.pointer (some ⟨g2,0,none⟩)] w fun e w'=>e= .returned (.bool b)∧Below w.heap.size w w':=by
 unfold ready at h
 rw [Option.bind_eq_some_iff] at h
 obtain ⟨b1,h1,h⟩:=h
 have h1':=h1
 unfold CB at h1
 by_cases c0:0≤i
 ·rw [if_pos c0] at h1
  by_cases c4:i<(pl.length:Int)
  ·rw [if_pos c4] at h1
   cases h1
   have hy:w.cell? ⟨g1,0,none⟩=some (.slice A1 pl.length c1):=(AK hb1 0).trans rfl
   obtain ⟨ad,e1,hx0⟩:=Kd.at_bool hr i c0 c4
   cases e1
   have c0b:=eq_true c0
   have c4b:=eq_true c4
   have HR:=Aside0.mk hr
   have HB1:=Aside0.mk hb1
   cases hv:rdOf false pl i with
   | true=>
    rw [hv] at h hx0
    obtain rfl:b=false:=by simpa using h.symm
    clear hr hr2 hb1 hb2 h1' h hv c0 c4
    go_enter Try.func51,Try.ntmps51
    go_wp2
    all_goals (go_ret; exact ⟨by first|rfl|(simp; done)|(simp [*]; done),by repeat (first|exact Below.refl _ _|apply AC|apply AD)⟩)
   | false=>
    rw [hv] at h hx0
    simp only [Bool.not_false,if_true] at h
    by_cases c5:i<(ts.length:Int)
    ·rw [if_pos c5,Option.map_eq_some_iff] at h
     obtain ⟨b2,h2,rfl⟩:=h
     have hy2:w.cell? ⟨g2,1,none⟩=some (.slice A2 ts.length c2):=(AK hb2 1).trans rfl
     obtain ⟨ad2,A3,c3,e2,hx20,hx21,hx22,hx23,hl3,hi3⟩:=Bi hr2 i c0 c5
     cases e2
     have c5b:=eq_true c5
     have hp:PredI w 52 #[.pointer (some ⟨g1,0,none⟩)] (CB pl):=fun W x b hW hx=>by
      show Calls Try.prog 52 #[.int .i64 x,.pointer (some ⟨g1,0,none⟩)] W _
      exact (li_not (some ad) c1 pl x b g1 W (Kd.C_below hr hW) hx (AN hb1 hW)).mono fun e w' h=>⟨h.1,Bh hW hW.size h.2⟩
     have hq:=fun W (hW:Below w.heap.size w W)=>ctf_I w 52 _ _ (enters_of Try.func52 zF rfl) hp A3 c3 (AL ts i).f3 hi3 b2 h2 W hW
     clear hr hr2 hb1 hb2 h1' h2 hp hv c0 c4 c5 hl3 hi3 hx20 hx21 hx22
     go_enter Try.func51,Try.ntmps51
     go_wp2_with (first|(go_at_call 45; (with_reducible refine (hq _ (by repeat (first|exact Below.refl _ _|apply AC|apply AD))).mono ?_); rintro e w' ⟨rfl,hb⟩))
     all_goals (go_ret; exact ⟨by first|rfl|(simp; done)|(simp [*]; done),hb⟩)
    ·rw [if_neg c5] at h; cases h
  ·rw [if_neg c4] at h1; cases h1
 ·rw [if_neg c0] at h1; cases h1
def Bq.f (l0:List Int) (l1:List Bool) (AB:Int) (l2_1:List S64):Option Int:=ixO (ready l1 l2_1) l0 0
open Go.Shelf in
theorem Bq.calls (A0:Option Addr) (c0:Nat) (l0:List Int) (A1:Option Addr) (c1:Nat) (l1:List Bool) (AB:Int) (A2_1:Option Addr) (c2_1:Nat) (l2_1:List S64) (r:Int) (w:World) (hr0:Kd.C (Kd.int .i64) w A0 l0.length l0) (hc0:l0.length≤c0) (hr1:Kd.C Kd.bool w A1 l1.length l1) (hc1:l1.length≤c1) (hr2_1:Kd.C k64 w A2_1 l2_1.length l2_1) (hc2_1:l2_1.length≤c2_1) (h:Bq.f l0 l1 AB l2_1=some r) {g1 g2:Nat}
  (hb1:w.heap[g1]? =some (.cells #[.slice A1 l1.length c1] 67 (0,0))) (hb2:w.heap[g2]? =some (.cells #[.int .i64 AB,.slice A2_1 l2_1.length c2_1] 34 (0,0))):
  Calls Try.prog 50 #[.slice A0 l0.length c0,.func (.func 51) #[] #[.pointer (some ⟨g1,0,none⟩),.pointer (some ⟨g2,0,none⟩)]] w fun e w'=>e= .returned (.int .i64 r)∧Below w.heap.size w w':=by
 have hp:PredI w 51 #[.pointer (some ⟨g1,0,none⟩),.pointer (some ⟨g2,0,none⟩)] (ready l1 l2_1):=fun W x b hW hx=>by
  show Calls Try.prog 51 #[.int .i64 x,.pointer (some ⟨g1,0,none⟩),.pointer (some ⟨g2,0,none⟩)] W _
  exact (Fk A1 c1 l1 AB A2_1 c2_1 l2_1 x b g1 g2 W (Kd.C_below hr1 hW) (Kd.C_below hr2_1 hW) hx (AN hb1 hW) (AN hb2 hW)).mono fun e w' h=>⟨h.1,Bh hW hW.size h.2⟩
 exact ixf_I w 51 _ _ (enters_of Try.func51 zF rfl) hp A0 c0 l0 hr0 r h w (Below.refl _ _)
mutual
def AS.l0:Nat→List Int→List (S47)→List Int→Int→Int→List Bool→Int→List (S64)→Option ((List (S47)))
 |0,_,_,_,_,_,_,_,_=>none
 |k+1,x1,x5,x7,x23,x24,x76,x160000,x160001=>if x24<x23 then ((Bq.f x1 x76 x160000 x160001).bind fun t170=>(if 0≤t170 then (if t170<(x1.length:Int) then ((B6.f x7).bind fun t172=>((AW.f k x7 t172).bind fun t173=>(if 0≤t173 then (if t173<(x7.length:Int) then (if 0≤(rd x1 t170) then (if (rd x1 t170)<(x160001.length:Int) then (AS.l1 k x1 x5 x7 (rd x1 t170) t173 (rd x7 t173) x23 x24 ((AL x160001 (rd x1 t170)).f3) (((AL x160001 (rd x1 t170)).f3).length:Int) 0 x76 x160000 x160001) else (none)) else (none)) else (none)) else (none)))) else (none)) else (none))) else (some x5)
def AS.l1:Nat→List Int→List (S47)→List Int→Int→Int→Int→Int→Int→List Int→Int→Int→List Bool→Int→List (S64)→Option ((List (S47)))
 |0,_,_,_,_,_,_,_,_,_,_,_,_,_,_=>none
 |k+1,x1,x5,x7,x8,x9,x10,x23,x24,x45,x46,x47,x76,x160000,x160001=>if x47<x46 then (if 0≤x47 then (if x47<(x45.length:Int) then ((Au.f x160000 x160001 x5 (rd x45 x47)).bind fun t177=>(AS.l1 k x1 x5 x7 x8 x9 (mx x10 t177) x23 x24 x45 x46 (wrap64 (x47+1)) x76 x160000 x160001)) else (none)) else (none)) else (if 0≤x8 then (if x8<(x5.length:Int) then ((some (x5.set (x8:Int).toNat (⟨x9,x10⟩:S47):List (S47))).bind fun y178=>(if x8<(x76.length:Int) then ((Au.f x160000 x160001 y178 x8).bind fun t180=>(if 0≤x9 then (if x9<(x7.length:Int) then (AS.l0 k x1 y178 (x7.set (x9:Int).toNat t180) x23 (wrap64 (x24+1)) (x76.set (x8:Int).toNat true) x160000 x160001) else (none)) else (none))) else (none))) else (none)) else (none))
end
def AS.f (k:Nat) (A8:Int) (l0_1:List (S64)) (l1:List Int):Option ((List (S47))):=if 0≤(l1.length:Int) then (if ((l1.length:Int):Int).toNat≤17592186044416 then (if ((l1.length:Int):Int).toNat≤281474976710656 then (if 0≤A8 then (if (A8:Int).toNat≤35184372088832 then (AS.l0 k l1 (List.replicate ((l1.length:Int):Int).toNat z47) (List.replicate (A8:Int).toNat 0) (l1.length:Int) 0 (List.replicate ((l1.length:Int):Int).toNat false) A8 l0_1) else (none)) else (none)) else (none)) else (none)) else (none)
theorem AS.mono_l:∀k,(∀y0 y1 y2 y3 y4 y5 y6 y7,LeO (AS.l0 k y0 y1 y2 y3 y4 y5 y6 y7) (AS.l0 (k+1) y0 y1 y2 y3 y4 y5 y6 y7))∧(∀y0 y1 y2 y3 y4 y5 y6 y7 y8 y9 y10 y11 y12 y13,LeO (AS.l1 k y0 y1 y2 y3 y4 y5 y6 y7 y8 y9 y10 y11 y12 y13) (AS.l1 (k+1) y0 y1 y2 y3 y4 y5 y6 y7 y8 y9 y10 y11 y12 y13))
 |0=>⟨fun _ _ _ _ _ _ _ _ r h=>by simp [AS.l0] at h,fun _ _ _ _ _ _ _ _ _ _ _ _ _ _ r h=>by simp [AS.l1] at h⟩
 | k +1=>by
  obtain ⟨ih0,ih1⟩:=AS.mono_l k
  refine ⟨?_,?_⟩
  ·intro y0 y1 y2 y3 y4 y5 y6 y7
   unfold AS.l0
   repeat' first
   |(with_reducible exact ih0 _ _ _ _ _ _ _ _)
   |(with_reducible exact ih1 _ _ _ _ _ _ _ _ _ _ _ _ _ _)
   |(with_reducible exact AW.mono _ _ _)
   |(with_reducible exact LeO.refl _)
   |(with_reducible exact LeO.none _)
   |(with_reducible refine LeO.ite ?_ ?_)
   |(with_reducible refine LeO.bind ?_ (fun _=> ?_))
   |exact ih0 _ _ _ _ _ _ _ _
   |exact ih1 _ _ _ _ _ _ _ _ _ _ _ _ _ _
   |exact AW.mono _ _ _
   |exact LeO.none _
   |refine LeO.ite ?_ ?_
   |refine LeO.bind ?_ (fun _=> ?_)
  ·intro y0 y1 y2 y3 y4 y5 y6 y7 y8 y9 y10 y11 y12 y13
   unfold AS.l1
   repeat' first
   |(with_reducible exact ih0 _ _ _ _ _ _ _ _)
   |(with_reducible exact ih1 _ _ _ _ _ _ _ _ _ _ _ _ _ _)
   |(with_reducible exact AW.mono _ _ _)
   |(with_reducible exact LeO.refl _)
   |(with_reducible exact LeO.none _)
   |(with_reducible refine LeO.ite ?_ ?_)
   |(with_reducible refine LeO.bind ?_ (fun _=> ?_))
   |exact ih0 _ _ _ _ _ _ _ _
   |exact ih1 _ _ _ _ _ _ _ _ _ _ _ _ _ _
   |exact AW.mono _ _ _
   |exact LeO.none _
   |refine LeO.ite ?_ ?_
   |refine LeO.bind ?_ (fun _=> ?_)
theorem AS.mono:∀a0 a1 a2 k,LeO (AS.f k a0 a1 a2) (AS.f (k+1) a0 a1 a2):=by
 intro a0 a1 a2 k
 obtain ⟨ih0,ih1⟩:=AS.mono_l k
 unfold AS.f
 repeat' first
  |(with_reducible exact ih0 _ _ _ _ _ _ _ _)
  |(with_reducible exact ih1 _ _ _ _ _ _ _ _ _ _ _ _ _ _)
  |(with_reducible exact AW.mono _ _ _)
  |(with_reducible exact LeO.refl _)
  |(with_reducible exact LeO.none _)
  |(with_reducible refine LeO.ite ?_ ?_)
  |(with_reducible refine LeO.bind ?_ (fun _=> ?_))
  |exact ih0 _ _ _ _ _ _ _ _
  |exact ih1 _ _ _ _ _ _ _ _ _ _ _ _ _ _
  |exact AW.mono _ _ _
  |exact LeO.none _
  |refine LeO.ite ?_ ?_
  |refine LeO.bind ?_ (fun _=> ?_)
def AS.T14:Bool×List (List Nat×List Nat):=(true,[([],[]),([],[]),([],[]),([],[]),([],[]),([],[]),([4,5],[4,5]),([0,1,0,1,4,5,6],[0,1]),([7,6,0,1,4,5,6],[6,7]),([2,3,0,1,2,3,4,5,6,7,8],[2,3]),([9,8,0,1,2,3,4,5,6,7,8],[9])])
def AS.B14:List Nat:=[0,0,0,0,0,0,48,115,243,511,1023]
theorem AS.tab14:rtab .any (EC Try.f31 14)=AS.T14:=by kernel_rfl
theorem AS.bits14:Bs AS.T14.2 AS.B14=true:=by kernel_rfl
set_option maxHeartbeats 8000000 in
theorem AS.calls (k : Nat) (A8 : Int) (A0_1:Option Addr) (c0_1:Nat) (l0_1:List (S64)) (A1:Option Addr) (c1:Nat) (l1:List Int) (r:List (S47)) (w:World) (hr0_1:Kd.C k64 w A0_1 l0_1.length l0_1) (hc0_1:l0_1.length≤c0_1) (hr1:Kd.C (Kd.int .i64) w A1 l1.length l1) (hc1:l1.length≤c1) (h:AS.f k A8 l0_1 l1=some r):
  Calls Try.prog 31 #[.agg #[.int .i64 A8,.slice A0_1 l0_1.length c0_1],.slice A1 l1.length c1] w fun e w'=>∃v0_:Value,e= .returned (v0_)∧Kd.R k47 47 w' w.heap.size (fun _=>True) v0_ r∧Below w.heap.size w w':=by
 have hu34:=Try.underlying34
 have hu47:=Try.underlying47
 have HR0_1:=Aside0.mk hr0_1
 have HC0_1:=Aside0.mk hc0_1
 clear hr0_1 hc0_1
 have HR1:=Aside0.mk hr1
 have HC1:=Aside0.mk hc1
 clear hr1 hc1
 have HB:=Aside0.mk (Below.refl w.heap.size w)
 have H:(if 0≤(l1.length:Int) then (if ((l1.length:Int):Int).toNat≤17592186044416 then (if ((l1.length:Int):Int).toNat≤281474976710656 then (if 0≤A8 then (if (A8:Int).toNat≤35184372088832 then (AS.l0 k l1 (List.replicate ((l1.length:Int):Int).toNat z47) (List.replicate (A8:Int).toNat 0) (l1.length:Int) 0 (List.replicate ((l1.length:Int):Int).toNat false) A8 l0_1) else (none)) else (none)) else (none)) else (none)) else (none))=some r:=h
 clear h
 by_cases c3:0≤(l1.length:Int)
 ·rw [if_pos c3] at H
  have c3b0:=eq_true c3
  have c3b1:decide (0≤(l1.length:Int))=true:=decide_eq_true c3
  clear c3
  by_cases c4:((l1.length:Int):Int).toNat≤17592186044416
  ·rw [if_pos c4] at H
   have c4b0:=eq_true c4
   have c4b1:decide (((l1.length:Int):Int).toNat≤17592186044416)=true:=decide_eq_true c4
   clear c4
   obtain ⟨y160,hy160⟩:∃y_:List (S47),y_=(List.replicate ((l1.length:Int):Int).toNat z47):=⟨_,rfl⟩
   replace H:(if ((l1.length:Int):Int).toNat≤281474976710656 then (if 0≤A8 then (if (A8:Int).toNat≤35184372088832 then (AS.l0 k l1 y160 (List.replicate (A8:Int).toNat 0) (l1.length:Int) 0 (List.replicate ((l1.length:Int):Int).toNat false) A8 l0_1) else (none)) else (none)) else (none))=some r:=by first|(rw [hy160]; with_reducible exact H)|(have H2_:=(Option.bind_some _ _).symm.trans H; rw [hy160]; with_reducible exact H2_)|(have H2_:=(Option.bind_some _ _).symm.trans H; with_reducible exact H2_)|with_reducible exact H|(rw [hy160]; exact H)|exact H
   have Ny160:=Aside0.mk hy160
   clear hy160
   by_cases c5:((l1.length:Int):Int).toNat≤281474976710656
   ·rw [if_pos c5] at H
    have c5b0:=eq_true c5
    have c5b1:decide (((l1.length:Int):Int).toNat≤281474976710656)=true:=decide_eq_true c5
    clear c5
    obtain ⟨y163,hy163⟩:∃y_:List Bool,y_=(List.replicate ((l1.length:Int):Int).toNat false):=⟨_,rfl⟩
    replace H:(if 0≤A8 then (if (A8:Int).toNat≤35184372088832 then (AS.l0 k l1 y160 (List.replicate (A8:Int).toNat 0) (l1.length:Int) 0 y163 A8 l0_1) else (none)) else (none))=some r:=by first|(rw [hy163]; with_reducible exact H)|(have H2_:=(Option.bind_some _ _).symm.trans H; rw [hy163]; with_reducible exact H2_)|(have H2_:=(Option.bind_some _ _).symm.trans H; with_reducible exact H2_)|with_reducible exact H|(rw [hy163]; exact H)|exact H
    have Ny163:=Aside0.mk hy163
    clear hy163
    by_cases c6:0≤A8
    ·rw [if_pos c6] at H
     have c6b0:=eq_true c6
     have c6b1:decide (0≤A8)=true:=decide_eq_true c6
     clear c6
     by_cases c7:(A8:Int).toNat≤35184372088832
     ·rw [if_pos c7] at H
      have c7b0:=eq_true c7
      have c7b1:decide ((A8:Int).toNat≤35184372088832)=true:=decide_eq_true c7
      clear c7
      obtain ⟨y167,hy167⟩:∃y_:List Int,y_=(List.replicate (A8:Int).toNat 0):=⟨_,rfl⟩
      replace H:(AS.l0 k l1 y160 y167 (l1.length:Int) 0 y163 A8 l0_1)=some r:=by first|(rw [hy167]; with_reducible exact H)|(have H2_:=(Option.bind_some _ _).symm.trans H; rw [hy167]; with_reducible exact H2_)|(have H2_:=(Option.bind_some _ _).symm.trans H; with_reducible exact H2_)|with_reducible exact H|(rw [hy167]; exact H)|exact H
      have Ny167:=Aside0.mk hy167
      clear hy167
      have H':=Aside0.mk H
      clear H
      go_enter Try.func31,Try.ntmps31
      go_wp2_with (first|((with_reducible refine Am (N:=2) rfl ?_); refine Ak ?hg (N:=2) ?hd (cs:= #[.int .i64 A8,.slice A0_1 l0_1.length c0_1]) (t:=34) ?hr ?_; (case hd=>rfl); (case hg=>rfl); (case hr=>first|(go_simp; done)|(go_simp; rfl)); intro gb159 hg w8 hbox hb; have n0_:=Aside0.mk (AO zA hb); have n1_:=Aside0.mk (hbox); have n2_:=Aside0.mk ((by rw [hg]; exact (AP zA):w.heap.size≤gb159)); have n3_:=Aside0.mk ((by rw [hg]; exact (AP zA):w.heap.size≤gb159)); clear HB; have HB:=n0_; have BK159:=n1_; have GW159:=n2_; have GE159:=n3_; clear n0_ n1_ n2_ n3_; clear hb hbox hg)|((with_reducible refine Am (N:=15) rfl ?_); refine Kd.R_make k47 _ 47 rfl (N:=15) rfl 37 _ _ rfl (l1.length:Int) rfl rfl Try.underlying37 (.agg #[(.int .i64 0),(.int .i64 0)]) 16 info47 rfl zX zD z47 (ok:=fun _=>True) (okp:=fun _=>True) (Dl _ _ _ z47) (fun _ hk=>hk) trivial (of_decide_eq_true zC) (Nat.le_trans (Nat.mul_le_mul_right _ (of_decide_eq_true zC:(l1.length:Int).toNat≤17592186044416)) zD) (Below.refl _ _) (Nat.le_refl _) ?_; intro v161 w9 ho10 hb hg_ hnew_; clear hg_ hnew_; (first|rw [←Ny160.out] at ho10|(simp only [Int.reduceToNat] at ho10; rw [←Ny160.out] at ho10)); have n0_:=Aside0.mk (Kd.R_lower ho10 (AP zZ)); have n1_:=Aside0.mk (AN (g:=gb159) (o:= .cells #[.int .i64 A8,.slice A0_1 l0_1.length c0_1] 34 (0,0)) zT hb); have n2_:=Aside0.mk (AO zZ hb); clear BK159; clear HB; have HO162:=n0_; have BK159:=n1_; have HB:=n2_; clear n0_ n1_ n2_; clear hb ho10)|((with_reducible refine Am (N:=18) rfl ?_); refine Kd.R_make Kd.bool _ 4 rfl (N:=18) rfl 67 _ _ rfl (l1.length:Int) rfl rfl Try.underlying67 (.bool false) 1 info4 rfl zX zD false (ok:=fun _=>True) (okp:=fun _=>True) rfl (fun _ hk=>hk) trivial (of_decide_eq_true zC) (Nat.le_trans (Nat.mul_le_mul_right _ (of_decide_eq_true zC:(l1.length:Int).toNat≤281474976710656)) zD) (Below.refl _ _) (Nat.le_refl _) ?_; intro v164 w11 ho12 hb hg_ hnew_; clear hg_ hnew_; (first|rw [←Ny163.out] at ho12|(simp only [Int.reduceToNat] at ho12; rw [←Ny163.out] at ho12)); have n0_:=Aside0.mk (Kd.R_below (by (with_reducible repeat (first|apply Kd.R_alloc|apply Kd.R_drewN|apply Kd.R_drew)); exact HO162.out) hb); have n1_:=Aside0.mk (Kd.R_lower ho12 (AP zZ)); have n2_:=Aside0.mk (AN (g:=gb159) (o:= .cells #[.int .i64 A8,.slice A0_1 l0_1.length c0_1] 34 (0,0)) zT hb); have n3_:=Aside0.mk (AO zZ hb); clear HO162; clear BK159; clear HB; have HO162:=n0_; have HO165:=n1_; have BK159:=n2_; have HB:=n3_; clear n0_ n1_ n2_ n3_; clear hb ho12)|((with_reducible refine Am (N:=6) rfl ?_); refine Ak ?hg (N:=6) ?hd (cs:= #[.slice none 0 0]) (t:=67) ?hr ?_; (case hd=>rfl); (case hg=>rfl); (case hr=>first|(go_simp; done)|(go_simp; rfl)); intro gb166 hg w13 hbox hb; have n0_:=Aside0.mk (Kd.R_below (by (with_reducible repeat (first|apply Kd.R_alloc|apply Kd.R_drewN|apply Kd.R_drew)); exact HO162.out) hb); have n1_:=Aside0.mk (Kd.R_below (by (with_reducible repeat (first|apply Kd.R_alloc|apply Kd.R_drewN|apply Kd.R_drew)); exact HO165.out) hb); have n2_:=Aside0.mk (AN (g:=gb159) (o:= .cells #[.int .i64 A8,.slice A0_1 l0_1.length c0_1] 34 (0,0)) zT hb); have n3_:=Aside0.mk (AO zZ hb); have n4_:=Aside0.mk (hbox); have n5_:=Aside0.mk ((by rw [hg]; exact (AP zZ):w.heap.size≤gb166)); have n6_:=Aside0.mk ((by rw [hg]; exact (AP zZ):w.heap.size≤gb166)); have n7_:=Aside0.mk ((by rw [hg]; exact Nat.ne_of_lt (Ar (g:=gb159) (o:= .cells #[.int .i64 A8,.slice A0_1 l0_1.length c0_1] 34 (0,0)) zT):gb159≠gb166)); have n8_:=Aside0.mk ((by rw [hg]; exact Nat.ne_of_gt (Ar (g:=gb159) (o:= .cells #[.int .i64 A8,.slice A0_1 l0_1.length c0_1] 34 (0,0)) zT):gb166≠gb159)); clear HO162; clear HO165; clear BK159; clear HB; have HO162:=n0_; have HO165:=n1_; have BK159:=n2_; have HB:=n3_; have BK166:=n4_; have GW166:=n5_; have GE166:=n6_; have NB159_166:=n7_; have NB166_159:=n8_; clear n0_ n1_ n2_ n3_ n4_ n5_ n6_ n7_ n8_; clear hb hbox hg; have hnb14:=NB166_159.out; have hnc14:=NB159_166.out; have hcz15_0:w13.cell? ⟨gb166,0,none⟩=some (.slice none 0 0):=(AK BK166.out 0).trans rfl; have hfz15_0:=AJ BK166.out 0; have hcz16_0:w13.cell? ⟨gb159,0,none⟩=some (.int .i64 A8):=(AK BK159.out 0).trans rfl; have hcz16_1:w13.cell? ⟨gb159,1,none⟩=some (.slice A0_1 l0_1.length c0_1):=(AK BK159.out 1).trans rfl; have hfz16_0:=AJ BK159.out 0; have hfz16_1:=AJ BK159.out 1)|((with_reducible refine Bg (t:=67) (p:=6) rfl ?_); refine Bc (t:=67) (p:=6) (v:= ?vo_) (w1:=(w13.setCell ⟨gb166,0,none⟩ v164)) ?hg ?ho ?hn ?hr ?_; (case ho=>rfl); (case hg=>rfl); (case hn=>rfl); (case hr=>(obtain ⟨Am_,cm_,em_⟩:=Kd.R_slice HO165.out; subst em_; first|(go_simp; done)|(go_simp; rfl))); intro wz_ hw_; subst hw_)|((with_reducible refine Am (N:=21) rfl ?_); refine Kd.R_make (Kd.int .i64) _ 3 rfl (N:=21) rfl 26 _ _ rfl A8 rfl rfl Try.underlying26 (.int .i64 0) 8 info3 rfl zX zD 0 (ok:=fun _=>True) (okp:=fun _=>True) rfl (fun _ hk=>hk) trivial (of_decide_eq_true zC) (Nat.le_trans (Nat.mul_le_mul_right _ (of_decide_eq_true zC:A8.toNat≤35184372088832)) zD) (Below.refl _ _) (Nat.le_refl _) ?_; intro v168 w17 ho18 hb hg_ hnew_; clear hg_ hnew_; (first|rw [←Ny167.out] at ho18|(simp only [Int.reduceToNat] at ho18; rw [←Ny167.out] at ho18)); have n0_:=Aside0.mk (Kd.R_below (by (with_reducible repeat (first|apply Kd.R_alloc|apply Kd.R_drewN|apply Kd.R_drew)); exact (Kd.R_mono (Kd.R_far (p:=⟨gb166,0,none⟩) (Kd.R_types HO162.out BK166.out zX) (fun _ hk=>hk.2) (v164)) (fun _ h_=>h_.1))) hb); have n1_:=Aside0.mk (Kd.R_below (by (with_reducible repeat (first|apply Kd.R_alloc|apply Kd.R_drewN|apply Kd.R_drew)); exact (Kd.R_mono (Kd.R_far (p:=⟨gb166,0,none⟩) (Kd.R_types HO165.out BK166.out zX) (fun _ hk=>hk.2) (v164)) (fun _ h_=>h_.1))) hb); have n2_:=Aside0.mk (Kd.R_lower ho18 (AP zA6)); have n3_:=Aside0.mk (AN (g:=gb159) (o:= .cells #[.int .i64 A8,.slice A0_1 l0_1.length c0_1] 34 (0,0)) (by (with_reducible repeat (first|refine AF ?_ _|refine AI ?_|refine AG ?_ _)); refine AV ?_ NB159_166.out _; (with_reducible repeat (first|refine AF ?_ _|refine AI ?_|refine AG ?_ _)); exact BK159.out) hb); have n4_:=Aside0.mk (AN (g:=gb166) (o:= .cells #[v164] 67 (0,0)) (by (with_reducible repeat (first|refine AF ?_ _|refine AI ?_|refine AG ?_ _)); refine At (cs:= #[.slice none 0 0]) ?_ 0 _ rfl; (with_reducible repeat (first|refine AF ?_ _|refine AI ?_|refine AG ?_ _)); exact BK166.out) hb); have n5_:=Aside0.mk (AO zA6 hb); clear HO162; clear HO165; clear BK159; clear BK166; clear HB; have HO162:=n0_; have HO165:=n1_; have HO169:=n2_; have BK159:=n3_; have BK166:=n4_; have HB:=n5_; clear n0_ n1_ n2_ n3_ n4_ n5_; clear hb ho18))
      go_loopg [24] k (fun kq v24 w'=>∃(x5_1:List (S47)) (x7_1:List Int) (x24_1:Int) (x76_1:List Bool),v24= .int .i64 x24_1∧Aside0 (AS.l0 kq l1 x5_1 x7_1 (l1.length:Int) x24_1 x76_1 A8 l0_1=some r)∧Aside0 (kq≤k)∧Aside0 (Kd.R k47 47 w' w.heap.size (fun _=>True) v161 x5_1)∧Aside0 (Kd.R (Kd.int .i64) 3 w' w.heap.size (fun _=>True) v168 x7_1)∧Aside0 (Kd.R Kd.bool 4 w' w.heap.size (fun _=>True) v164 x76_1)∧Aside0 (w'.heap[gb159]? =some (.cells #[.int .i64 A8,(.slice A0_1 l0_1.length c0_1)] 34 (0,0)))∧Aside0 (w'.heap[gb166]? =some (.cells #[v164] 67 (0,0)))∧Aside0 (Below w.heap.size w w'))
      case atStart=>exact ⟨(y160),(y167),(0),(y163),zH,H',⟨Nat.le_refl _⟩,⟨by (with_reducible repeat (first|apply Kd.R_alloc|apply Kd.R_drewN|apply Kd.R_drew)); exact HO162.out⟩,⟨by (with_reducible repeat (first|apply Kd.R_alloc|apply Kd.R_drewN|apply Kd.R_drew)); exact HO169.out⟩,⟨by (with_reducible repeat (first|apply Kd.R_alloc|apply Kd.R_drewN|apply Kd.R_drew)); exact HO165.out⟩,⟨by (with_reducible repeat (first|refine AF ?_ _|refine AI ?_|refine AG ?_ _)); exact BK159.out⟩,⟨by (with_reducible repeat (first|refine AF ?_ _|refine AI ?_|refine AG ?_ _)); exact BK166.out⟩,⟨by repeat (first|(with_reducible first|exact HB.out|apply AE|apply AC|apply AD|refine AH ?_ GE159.out|refine AH ?_ GE166.out)|exact HB.out)⟩⟩
      case round=>
       clear H'
       try clear c1
       try clear p2
       try clear c3
       try clear c3b0
       try clear c3b1
       try clear c4
       try clear c4b0
       try clear c4b1
       try clear c5
       try clear c5b0
       try clear c5b1
       try clear c6
       try clear c6b0
       try clear c6b1
       try clear c7
       try clear c7b0
       try clear c7b1
       try clear c14
       try clear hcz15_0
       try clear hcz16_0
       try clear hcz16_1
       try clear hfz15_0
       try clear hfz16_0
       try clear hfz16_1
       obtain ⟨x5_1,x7_1,x24_1,x76_1,rfl,HA,HK1,HO_5,HO_7,HO_76,BK159,BK166,HB⟩:=hrel
       cases gk with
       |zero=>exact absurd HA.out (by simp [AS.l0])
       | succ k1 =>
        have H:=HA.out
        clear HA
        simp only [AS.l0] at H
        by_cases c19:x24_1<(l1.length:Int)
        ·rw [if_pos c19] at H
         have c19b0:decide (x24_1<(l1.length:Int))=true:=decide_eq_true c19
         clear c19
         replace H:=Option.bind_eq_some_iff.mp H
         obtain ⟨t170,A200,H⟩:=H
         replace H:(if 0≤t170 then (if t170<(l1.length:Int) then ((B6.f x7_1).bind fun t172=>((AW.f k1 x7_1 t172).bind fun t173=>(if 0≤t173 then (if t173<(x7_1.length:Int) then (if 0≤(rd l1 t170) then (if (rd l1 t170)<(l0_1.length:Int) then (AS.l1 k1 l1 x5_1 x7_1 (rd l1 t170) t173 (rd x7_1 t173) (l1.length:Int) x24_1 ((AL l0_1 (rd l1 t170)).f3) (((AL l0_1 (rd l1 t170)).f3).length:Int) 0 x76_1 A8 l0_1) else (none)) else (none)) else (none)) else (none)))) else (none)) else (none))=some r:=H
         have A20:=Aside0.mk A200
         clear A200
         by_cases c21:0≤t170
         ·rw [if_pos c21] at H
          have c21b0:decide (0≤t170)=true:=decide_eq_true c21
          clear c21
          by_cases c22:t170<(l1.length:Int)
          ·rw [if_pos c22] at H
           have c22b0:decide (t170<(l1.length:Int))=true:=decide_eq_true c22
           clear c22
           replace H:=Option.bind_eq_some_iff.mp H
           obtain ⟨t172,A230,H⟩:=H
           replace H:((AW.f k1 x7_1 t172).bind fun t173=>(if 0≤t173 then (if t173<(x7_1.length:Int) then (if 0≤(rd l1 t170) then (if (rd l1 t170)<(l0_1.length:Int) then (AS.l1 k1 l1 x5_1 x7_1 (rd l1 t170) t173 (rd x7_1 t173) (l1.length:Int) x24_1 ((AL l0_1 (rd l1 t170)).f3) (((AL l0_1 (rd l1 t170)).f3).length:Int) 0 x76_1 A8 l0_1) else (none)) else (none)) else (none)) else (none)))=some r:=H
           have A23:=Aside0.mk A230
           clear A230
           replace H:=Option.bind_eq_some_iff.mp H
           obtain ⟨t173,A240,H⟩:=H
           replace H:(if 0≤t173 then (if t173<(x7_1.length:Int) then (if 0≤(rd l1 t170) then (if (rd l1 t170)<(l0_1.length:Int) then (AS.l1 k1 l1 x5_1 x7_1 (rd l1 t170) t173 (rd x7_1 t173) (l1.length:Int) x24_1 ((AL l0_1 (rd l1 t170)).f3) (((AL l0_1 (rd l1 t170)).f3).length:Int) 0 x76_1 A8 l0_1) else (none)) else (none)) else (none)) else (none))=some r:=H
           have A24:=Aside0.mk A240
           clear A240
           by_cases c25:0≤t173
           ·rw [if_pos c25] at H
            have c25b0:decide (0≤t173)=true:=decide_eq_true c25
            clear c25
            by_cases c26:t173<(x7_1.length:Int)
            ·rw [if_pos c26] at H
             have c26b0:decide (t173<(x7_1.length:Int))=true:=decide_eq_true c26
             clear c26
             by_cases c27:0≤(rd l1 t170)
             ·rw [if_pos c27] at H
              have c27b0:decide (0≤(rd l1 t170))=true:=decide_eq_true c27
              clear c27
              by_cases c28:(rd l1 t170)<(l0_1.length:Int)
              ·rw [if_pos c28] at H
               have c28b0:decide ((rd l1 t170)<(l0_1.length:Int))=true:=decide_eq_true c28
               clear c28
               have H':=Aside0.mk H
               clear H
               have hnb29:=NB159_166.out
               have hnc29:=NB166_159.out
               have hcz30_0:wr.cell? ⟨gb159,0,none⟩=some (.int .i64 A8):=(AK BK159.out 0).trans rfl
               have hcz30_1:wr.cell? ⟨gb159,1,none⟩=some (.slice A0_1 l0_1.length c0_1):=(AK BK159.out 1).trans rfl
               have hfz30_0:=AJ BK159.out 0
               have hfz30_1:=AJ BK159.out 1
               obtain ⟨Ao31,co31,eo31⟩:=Kd.R_slice HO_76.out
               subst eo31
               go_wp2_with (first|((with_reducible refine Ad (f:=50) rfl ?_); refine Ax (some 29) rfl rfl Try.func50 zF rfl #[.slice A1 l1.length c1,.func (.func 51) #[] #[.pointer (some ⟨gb166,0,none⟩),.pointer (some ⟨gb159,0,none⟩)]] rfl zB ?_; (with_reducible refine (Bq.calls _ _ l1 _ _ x76_1 A8 _ _ l0_1 t170 _ ?side1 ?side2 ?side3 ?side4 ?side5 ?side6 A20.out zA5 zT).mono ?_); (case side1=>repeat (first|exact (Kd.C_below HR1.out HB.out)|(with_reducible refine Kd.C_alloc ?_ _)|(with_reducible refine Kd.C_drewN ?_ _)|(with_reducible refine Kd.C_drew ?_))); (case side2=>exact HC1.out); (case side3=>repeat (first|exact (Kd.R_reads' HO_76.out).2.2|(with_reducible refine Kd.C_alloc ?_ _)|(with_reducible refine Kd.C_drewN ?_ _)|(with_reducible refine Kd.C_drew ?_))); (case side4=>exact (Kd.R_reads' HO_76.out).2.1); (case side5=>repeat (first|exact (Kd.C_below HR0_1.out HB.out)|(with_reducible refine Kd.C_alloc ?_ _)|(with_reducible refine Kd.C_drewN ?_ _)|(with_reducible refine Kd.C_drew ?_))); (case side6=>exact HC0_1.out); rintro e w32 ⟨rfl,hb⟩; refine ⟨_,rfl,?_⟩; have n0_:=Aside0.mk (Kd.R_below zB1 hb); have n1_:=Aside0.mk (Kd.R_below (by (with_reducible repeat (first|apply Kd.R_alloc|apply Kd.R_drewN|apply Kd.R_drew)); exact HO_7.out) hb); have n2_:=Aside0.mk (Kd.R_below (by (with_reducible repeat (first|apply Kd.R_alloc|apply Kd.R_drewN|apply Kd.R_drew)); exact HO_76.out) hb); have n3_:=Aside0.mk (AN (g:=gb159) (o:= .cells #[.int .i64 A8,.slice A0_1 l0_1.length c0_1] 34 (0,0)) zT hb); have n4_:=Aside0.mk (AN (g:=gb166) (o:= .cells #[.slice Ao31 x76_1.length co31] 67 (0,0)) zA5 hb); have n5_:=Aside0.mk (AO zA6 hb); clear HO_5; clear HO_7; clear HO_76; clear BK159; clear BK166; clear HB; have HO_5:=n0_; have HO_7:=n1_; have HO_76:=n2_; have BK159:=n3_; have BK166:=n4_; have HB:=n5_; clear n0_ n1_ n2_ n3_ n4_ n5_; (try clear hb); (try clear hb2); (try clear hk); (try clear hi); have p171:0≤(t170:Int):=of_decide_eq_true zC; have q171:t170<(l1.length:Int):=of_decide_eq_true zC; obtain ⟨ad171,e171,hx171_0⟩:=Kd.at_int HR1.out t170 p171 q171; cases e171; replace hx171_0:=(HB.out.cell (World.block_lt_of_cell? w _ hx171_0)).trans hx171_0; replace p171:=eq_true p171; replace q171:=eq_true q171; obtain ⟨Ao33,co33,eo33⟩:=Kd.R_slice HO_7.out; subst eo33)|((with_reducible refine Ad (f:=54) rfl ?_); refine Ax (some 34) rfl rfl Try.func54 zF rfl #[.slice Ao33 x7_1.length co33] rfl zB ?_; (with_reducible refine (B6.calls _ _ x7_1 t172 _ ?side1 ?side2 A23.out).mono ?_); (case side1=>repeat (first|exact (Kd.R_reads' HO_7.out).2.2|(with_reducible refine Kd.C_alloc ?_ _)|(with_reducible refine Kd.C_drewN ?_ _)|(with_reducible refine Kd.C_drew ?_))); (case side2=>exact (Kd.R_reads' HO_7.out).2.1); rintro e w' ⟨rfl,⟨nd,rfl⟩⟩; refine ⟨_,rfl,?_⟩)|((with_reducible refine Ad (f:=53) rfl ?_); refine Ax (some 35) rfl rfl Try.func53 zF rfl #[.slice Ao33 x7_1.length co33,.int .i64 t172] rfl zB ?_; (with_reducible refine (AW.calls k1 _ _ x7_1 t172 t173 _ ?side1 ?side2 A24.out).mono ?_); (case side1=>repeat (first|exact (Kd.R_reads' HO_7.out).2.2|(with_reducible refine Kd.C_alloc ?_ _)|(with_reducible refine Kd.C_drewN ?_ _)|(with_reducible refine Kd.C_drew ?_))); (case side2=>exact (Kd.R_reads' HO_7.out).2.1); rintro e w' ⟨rfl,⟨nd,rfl⟩⟩; refine ⟨_,rfl,?_⟩; have p174:0≤(t173:Int):=of_decide_eq_true zC; have q174:t173<(x7_1.length:Int):=of_decide_eq_true zC; obtain ⟨ad174,e174,hx174_0⟩:=Kd.at_int (Kd.R_reads' HO_7.out).2.2 t173 p174 q174; cases e174; replace p174:=eq_true p174; replace q174:=eq_true q174; have hcz34_0:w32.cell? ⟨gb159,0,none⟩=some (.int .i64 A8):=(AK BK159.out 0).trans rfl; have hcz34_1:w32.cell? ⟨gb159,1,none⟩=some (.slice A0_1 l0_1.length c0_1):=(AK BK159.out 1).trans rfl; have hfz34_0:=AJ BK159.out 0; have hfz34_1:=AJ BK159.out 1; have p175:0≤((rd l1 t170):Int):=of_decide_eq_true zC; have q175:(rd l1 t170)<(l0_1.length:Int):=of_decide_eq_true zC; obtain ⟨ad175,A175_3,c175_3,e175,hx175_0,hx175_1,hx175_2,hx175_3,hl175_3,hi175_3⟩:=Bi HR0_1.out (rd l1 t170) p175 q175; cases e175; replace hx175_0:=(HB.out.cell (World.block_lt_of_cell? w _ hx175_0)).trans hx175_0; replace hx175_1:=(HB.out.cell (World.block_lt_of_cell? w _ hx175_1)).trans hx175_1; replace hx175_2:=(HB.out.cell (World.block_lt_of_cell? w _ hx175_2)).trans hx175_2; replace hx175_3:=(HB.out.cell (World.block_lt_of_cell? w _ hx175_3)).trans hx175_3; have HR175_3:=Aside0.mk hi175_3; have HC175_3:=Aside0.mk hl175_3; clear hi175_3 hl175_3; replace p175:=eq_true p175; replace q175:=eq_true q175))
               go_loopg [10,47] k1 (fun kq v10 v47 w'=>∃(x10_2:Int) (x47_2:Int),v10= .int .i64 x10_2∧v47= .int .i64 x47_2∧Aside0 (AS.l1 kq l1 x5_1 x7_1 (rd l1 t170) t173 x10_2 (l1.length:Int) x24_1 ((AL l0_1 (rd l1 t170)).f3) (((AL l0_1 (rd l1 t170)).f3).length:Int) x47_2 x76_1 A8 l0_1=some r)∧Aside0 (kq≤k1)∧Aside0 (Kd.R k47 47 w' w.heap.size (fun _=>True) v161 x5_1)∧Aside0 (Kd.R (Kd.int .i64) 3 w' w.heap.size (fun _=>True) (.slice (some ad174) x7_1.length co33) x7_1)∧Aside0 (Kd.R Kd.bool 4 w' w.heap.size (fun _=>True) (.slice Ao31 x76_1.length co31) x76_1)∧Aside0 (w'.heap[gb159]? =some (.cells #[.int .i64 A8,(.slice (some ad175) l0_1.length c0_1)] 34 (0,0)))∧Aside0 (w'.heap[gb166]? =some (.cells #[.slice Ao31 x76_1.length co31] 67 (0,0)))∧Aside0 (Below w.heap.size w w'))
               case atStart=>exact ⟨(rd x7_1 t173),(0),zH,zH,H',⟨Nat.le_refl _⟩,⟨by (with_reducible repeat (first|apply Kd.R_alloc|apply Kd.R_drewN|apply Kd.R_drew)); exact HO_5.out⟩,⟨by (with_reducible repeat (first|apply Kd.R_alloc|apply Kd.R_drewN|apply Kd.R_drew)); exact HO_7.out⟩,⟨by (with_reducible repeat (first|apply Kd.R_alloc|apply Kd.R_drewN|apply Kd.R_drew)); exact HO_76.out⟩,⟨by (with_reducible repeat (first|refine AF ?_ _|refine AI ?_|refine AG ?_ _)); exact BK159.out⟩,⟨by (with_reducible repeat (first|refine AF ?_ _|refine AI ?_|refine AG ?_ _)); exact BK166.out⟩,⟨by repeat (first|(with_reducible first|exact HB.out|apply AE|apply AC|apply AD|refine AH ?_ GE159.out|refine AH ?_ GE166.out)|exact HB.out)⟩⟩
               case round=>
                clear H'
                try clear c1
                try clear p1
                try clear q1
                try clear hx1
                try clear c2
                try clear p2
                try clear c3
                try clear c3b0
                try clear c3b1
                try clear c4
                try clear c4b0
                try clear c4b1
                try clear c5
                try clear c5b0
                try clear c5b1
                try clear c6
                try clear c6b0
                try clear c6b1
                try clear c7
                try clear c7b0
                try clear c7b1
                try clear c9
                try clear c14
                try clear c17
                try clear p17
                try clear q17
                try clear hx17
                try clear c19
                try clear c19b0
                try clear c21
                try clear c21b0
                try clear c22
                try clear c22b0
                try clear c25
                try clear c25b0
                try clear c26
                try clear c26b0
                try clear c27
                try clear c27b0
                try clear c28
                try clear c28b0
                try clear c29
                try clear c31
                try clear hcz15_0
                try clear hcz16_0
                try clear hcz16_1
                try clear hcz30_0
                try clear hcz30_1
                try clear hcz34_0
                try clear hcz34_1
                try clear hfz15_0
                try clear hfz16_0
                try clear hfz16_1
                try clear hfz30_0
                try clear hfz30_1
                try clear hfz34_0
                try clear hfz34_1
                try clear hx171_0
                try clear hx174_0
                try clear hx175_0
                try clear hx175_1
                try clear hx175_2
                try clear hx175_3
                try clear p171
                try clear p174
                try clear p175
                try clear p2
                try clear q171
                try clear q174
                try clear q175
                obtain ⟨x10_2,x47_2,rfl,rfl,HA,HK2,HO_5,HO_7,HO_76,BK159,BK166,HB⟩:=hrel
                cases gk with
                |zero=>exact absurd HA.out (by simp [AS.l1])
                | succ k2 =>
                 have H:=HA.out
                 clear HA
                 simp only [AS.l1] at H
                 by_cases c35:x47_2<(((AL l0_1 (rd l1 t170)).f3).length:Int)
                 ·rw [if_pos c35] at H
                  have c35b0:decide (x47_2<(((AL l0_1 (rd l1 t170)).f3).length:Int))=true:=decide_eq_true c35
                  clear c35
                  by_cases c36:0≤x47_2
                  ·rw [if_pos c36] at H
                   have c36b0:decide (0≤x47_2)=true:=decide_eq_true c36
                   clear c36
                   by_cases c37:x47_2<(((AL l0_1 (rd l1 t170)).f3).length:Int)
                   ·rw [if_pos c37] at H
                    have c37b0:decide (x47_2<(((AL l0_1 (rd l1 t170)).f3).length:Int))=true:=decide_eq_true c37
                    clear c37
                    replace H:=Option.bind_eq_some_iff.mp H
                    obtain ⟨t177,A380,H⟩:=H
                    replace H:(AS.l1 k2 l1 x5_1 x7_1 (rd l1 t170) t173 (mx x10_2 t177) (l1.length:Int) x24_1 ((AL l0_1 (rd l1 t170)).f3) (((AL l0_1 (rd l1 t170)).f3).length:Int) (wrap64 (x47_2+1)) x76_1 A8 l0_1)=some r:=H
                    have A38:=Aside0.mk A380
                    clear A380
                    obtain ⟨ji39,hji39⟩:∃j_:Int,(mx x10_2 t177)=j_:=⟨_,rfl⟩
                    replace H:(AS.l1 k2 l1 x5_1 x7_1 (rd l1 t170) t173 ji39 (l1.length:Int) x24_1 ((AL l0_1 (rd l1 t170)).f3) (((AL l0_1 (rd l1 t170)).f3).length:Int) (wrap64 (x47_2+1)) x76_1 A8 l0_1)=some r:=by first|(rw [hji39] at H; exact H)|(simp only [hji39] at H ⊢; exact H)
                    (try rw [hji39] at A38)
                    have hji39_:(if x10_2<t177 then t177 else x10_2)=ji39:=hji39
                    have H':=Aside0.mk H
                    clear H
                    have p176:0≤(x47_2:Int):=of_decide_eq_true zC
                    have q176:x47_2<(((AL l0_1 (rd l1 t170)).f3).length:Int):=of_decide_eq_true zC
                    obtain ⟨ad176,e176,hx176_0⟩:=Kd.at_int HR175_3.out x47_2 p176 q176
                    cases e176
                    replace hx176_0:=(HB.out.cell (World.block_lt_of_cell? w _ hx176_0)).trans hx176_0
                    replace p176:=eq_true p176
                    replace q176:=eq_true q176
                    have hnb40:=NB159_166.out
                    have hnc40:=NB166_159.out
                    have hcz41_0:wr.cell? ⟨gb159,0,none⟩=some (.int .i64 A8):=(AK BK159.out 0).trans rfl
                    have hcz41_1:wr.cell? ⟨gb159,1,none⟩=some (.slice (some ad175) l0_1.length c0_1):=(AK BK159.out 1).trans rfl
                    have hfz41_0:=AJ BK159.out 0
                    have hfz41_1:=AJ BK159.out 1
                    obtain ⟨Ao42,co42,eo42⟩:=Kd.R_slice HO_5.out
                    subst eo42
                    go_wp2_with (first|((with_reducible refine Ad (f:=30) rfl ?_); refine Ax (some 55) rfl rfl Try.func30 zF rfl #[.agg #[.int .i64 A8,.slice (some ad175) l0_1.length c0_1],.slice Ao42 x5_1.length co42,.int .i64 (rd ((AL l0_1 (rd l1 t170)).f3) x47_2)] rfl zB ?_; (with_reducible refine (Au.calls A8 _ _ l0_1 _ _ x5_1 (rd ((AL l0_1 (rd l1 t170)).f3) x47_2) t177 _ ?side1 ?side2 ?side3 ?side4 A38.out).mono ?_); (case side1=>repeat (first|exact (Kd.C_below HR0_1.out HB.out)|(with_reducible refine Kd.C_alloc ?_ _)|(with_reducible refine Kd.C_drewN ?_ _)|(with_reducible refine Kd.C_drew ?_))); (case side2=>exact HC0_1.out); (case side3=>repeat (first|exact (Kd.R_reads' HO_5.out).2.2|(with_reducible refine Kd.C_alloc ?_ _)|(with_reducible refine Kd.C_drewN ?_ _)|(with_reducible refine Kd.C_drew ?_))); (case side4=>exact (Kd.R_reads' HO_5.out).2.1); rintro e w43 ⟨rfl,hb⟩; refine ⟨_,rfl,?_⟩; have n0_:=Aside0.mk (Kd.R_below zB1 hb); have n1_:=Aside0.mk (Kd.R_below (by (with_reducible repeat (first|apply Kd.R_alloc|apply Kd.R_drewN|apply Kd.R_drew)); exact HO_7.out) hb); have n2_:=Aside0.mk (Kd.R_below (by (with_reducible repeat (first|apply Kd.R_alloc|apply Kd.R_drewN|apply Kd.R_drew)); exact HO_76.out) hb); have n3_:=Aside0.mk (AN (g:=gb159) (o:= .cells #[.int .i64 A8,.slice (some ad175) l0_1.length c0_1] 34 (0,0)) zT hb); have n4_:=Aside0.mk (AN (g:=gb166) (o:= .cells #[.slice Ao31 x76_1.length co31] 67 (0,0)) zA5 hb); have n5_:=Aside0.mk (AO zA6 hb); clear HO_5; clear HO_7; clear HO_76; clear BK159; clear BK166; clear HB; have HO_5:=n0_; have HO_7:=n1_; have HO_76:=n2_; have BK159:=n3_; have BK166:=n4_; have HB:=n5_; clear n0_ n1_ n2_ n3_ n4_ n5_; (try clear hb); (try clear hb2); (try clear hk); (try clear hi)))
                    go_roundg k2
                    case measure=>have:=HK1.out; have:=HK2.out; omega
                    case rel=>exact ⟨(ji39),(wrap64 (x47_2+1)),(by first|rfl|(simp; done)|(simp only [←hji39]<;>(first|rfl|simp))|(simp [*]; done)),zH,H',⟨by have:=HK1.out; have:=HK2.out; omega⟩,⟨by (with_reducible repeat (first|apply Kd.R_alloc|apply Kd.R_drewN|apply Kd.R_drew)); exact HO_5.out⟩,⟨by (with_reducible repeat (first|apply Kd.R_alloc|apply Kd.R_drewN|apply Kd.R_drew)); exact HO_7.out⟩,⟨by (with_reducible repeat (first|apply Kd.R_alloc|apply Kd.R_drewN|apply Kd.R_drew)); exact HO_76.out⟩,⟨by (with_reducible repeat (first|refine AF ?_ _|refine AI ?_|refine AG ?_ _)); exact BK159.out⟩,⟨by (with_reducible repeat (first|refine AF ?_ _|refine AI ?_|refine AG ?_ _)); exact BK166.out⟩,⟨by repeat (first|(with_reducible first|exact HB.out|apply AE|apply AC|apply AD|refine AH ?_ GE159.out|refine AH ?_ GE166.out)|exact HB.out)⟩⟩
                   ·rw [if_neg c37] at H
                    exact absurd H zA1
                  ·rw [if_neg c36] at H
                   exact absurd H zA1
                 ·rw [if_neg c35] at H
                  have c35b0:decide (x47_2<(((AL l0_1 (rd l1 t170)).f3).length:Int))=false:=decide_eq_false c35
                  clear c35
                  by_cases c44:0≤(rd l1 t170)
                  ·rw [if_pos c44] at H
                   have c44b0:decide (0≤(rd l1 t170))=true:=decide_eq_true c44
                   clear c44
                   by_cases c45:(rd l1 t170)<(x5_1.length:Int)
                   ·rw [if_pos c45] at H
                    have c45b0:decide ((rd l1 t170)<(x5_1.length:Int))=true:=decide_eq_true c45
                    clear c45
                    obtain ⟨y178,hy178⟩:∃y_:List (S47),y_=(x5_1.set ((rd l1 t170):Int).toNat (⟨t173,x10_2⟩:S47)):=⟨_,rfl⟩
                    replace H:(if (rd l1 t170)<(x76_1.length:Int) then ((Au.f A8 l0_1 y178 (rd l1 t170)).bind fun t180=>(if 0≤t173 then (if t173<(x7_1.length:Int) then (AS.l0 k2 l1 y178 (x7_1.set (t173:Int).toNat t180) (l1.length:Int) (wrap64 (x24_1+1)) (x76_1.set ((rd l1 t170):Int).toNat true) A8 l0_1) else (none)) else (none))) else (none))=some r:=by first|(rw [hy178]; with_reducible exact H)|(have H2_:=(Option.bind_some _ _).symm.trans H; rw [hy178]; with_reducible exact H2_)|(have H2_:=(Option.bind_some _ _).symm.trans H; with_reducible exact H2_)|with_reducible exact H|(rw [hy178]; exact H)|exact H
                    have Ny178:=Aside0.mk hy178
                    clear hy178
                    by_cases c47:(rd l1 t170)<(x76_1.length:Int)
                    ·rw [if_pos c47] at H
                     have c47b0:decide ((rd l1 t170)<(x76_1.length:Int))=true:=decide_eq_true c47
                     clear c47
                     obtain ⟨y179,hy179⟩:∃y_:List Bool,y_=(x76_1.set ((rd l1 t170):Int).toNat true):=⟨_,rfl⟩
                     replace H:((Au.f A8 l0_1 y178 (rd l1 t170)).bind fun t180=>(if 0≤t173 then (if t173<(x7_1.length:Int) then (AS.l0 k2 l1 y178 (x7_1.set (t173:Int).toNat t180) (l1.length:Int) (wrap64 (x24_1+1)) y179 A8 l0_1) else (none)) else (none)))=some r:=by first|(rw [hy179]; with_reducible exact H)|(have H2_:=(Option.bind_some _ _).symm.trans H; rw [hy179]; with_reducible exact H2_)|(have H2_:=(Option.bind_some _ _).symm.trans H; with_reducible exact H2_)|with_reducible exact H|(rw [hy179]; exact H)|exact H
                     have Ny179:=Aside0.mk hy179
                     clear hy179
                     replace H:=Option.bind_eq_some_iff.mp H
                     obtain ⟨t180,A490,H⟩:=H
                     replace H:(if 0≤t173 then (if t173<(x7_1.length:Int) then (AS.l0 k2 l1 y178 (x7_1.set (t173:Int).toNat t180) (l1.length:Int) (wrap64 (x24_1+1)) y179 A8 l0_1) else (none)) else (none))=some r:=H
                     have A49:=Aside0.mk A490
                     clear A490
                     by_cases c50:0≤t173
                     ·rw [if_pos c50] at H
                      have c50b0:decide (0≤t173)=true:=decide_eq_true c50
                      clear c50
                      by_cases c51:t173<(x7_1.length:Int)
                      ·rw [if_pos c51] at H
                       have c51b0:decide (t173<(x7_1.length:Int))=true:=decide_eq_true c51
                       clear c51
                       obtain ⟨y181,hy181⟩:∃y_:List Int,y_=(x7_1.set (t173:Int).toNat t180):=⟨_,rfl⟩
                       replace H:(AS.l0 k2 l1 y178 y181 (l1.length:Int) (wrap64 (x24_1+1)) y179 A8 l0_1)=some r:=by first|(rw [hy181]; with_reducible exact H)|(have H2_:=(Option.bind_some _ _).symm.trans H; rw [hy181]; with_reducible exact H2_)|(have H2_:=(Option.bind_some _ _).symm.trans H; with_reducible exact H2_)|with_reducible exact H|(rw [hy181]; exact H)|exact H
                       have Ny181:=Aside0.mk hy181
                       clear hy181
                       have H':=Aside0.mk H
                       clear H
                       try go_wp2
                       have n0_:=Aside0.mk (Kd.R_drew HO_5.out)
                       have n1_:=Aside0.mk (Kd.R_drew HO_7.out)
                       have n2_:=Aside0.mk (Kd.R_drew HO_76.out)
                       have n3_:=Aside0.mk (AI BK159.out)
                       have n4_:=Aside0.mk (AI BK166.out)
                       have n5_:=Aside0.mk (AD HB.out)
                       clear HO_5 HO_7 HO_76 BK159 BK166 HB
                       have HO_5:=n0_
                       have HO_7:=n1_
                       have HO_76:=n2_
                       have BK159:=n3_
                       have BK166:=n4_
                       have HB:=n5_
                       clear n0_ n1_ n2_ n3_ n4_ n5_
                       have hS14:wr.drew.cell? ⟨gb166,0,none⟩=some (.slice Ao31 x76_1.length co31):=(AK BK166.out 0).trans rfl
                       refine Bv (n:=11) (S:=fun w'=>w'.cell? ⟨gb166,0,none⟩=some (.slice Ao31 x76_1.length co31)) (ds:=[]) #[false,false,false,false,false,false,false,false,false,false,false] zF rfl rfl hS14 (fun hHeld=> ?_); refine Bj AS.tab14 AS.bits14 (fun HT_ HW_=> ?_)
                       clear hS14
                       generalize wr.drew=wd at HO_5 HO_7 HO_76 BK159 BK166 HB hHeld ⊢
                       have p46:0≤((rd l1 t170):Int):=of_decide_eq_true zC
                       have q46:((rd l1 t170):Int)<((x5_1.length:Int):Int):=of_decide_eq_true zC
                       obtain ⟨go46,co46,eo46,gb46,gl46,cl46,HG46⟩:=Kd.R_form HO_5.out zD
                       (first|cases eo46|(injection eo46 with ea_ en_ ec_; (first|subst ea_|(injection ea_ with ea_; subst ea_)); subst ec_; clear en_))
                       have GB46:=Aside0.mk gb46
                       have GG46:=Aside0.mk HG46
                       clear gb46 gl46 HG46
                       obtain ⟨ce46,hcl46,hM46,hcc46,hfr46⟩:=Kd.R_elem HO_5.out z47 ((rd l1 t170):Int) p46 q46
                       obtain rfl:=DZ hM46
                       have hx46_0:wd.cell? ⟨go46,((rd l1 t170):Int).toNat*2,none⟩=some (.int .i64 ((Ae x5_1 (rd l1 t170)).f0)):=hcc46 0 _ rfl
                       have hx46_1:wd.cell? ⟨go46,((rd l1 t170):Int).toNat*2+1,none⟩=some (.int .i64 ((Ae x5_1 (rd l1 t170)).f1)):=hcc46 1 _ rfl
                       have hf46_0:wd.frozen? ⟨go46,((rd l1 t170):Int).toNat*2,none⟩=false:=hfr46 0
                       have hf46_1:wd.frozen? ⟨go46,((rd l1 t170):Int).toNat*2+1,none⟩=false:=hfr46 1
                       clear hcl46 hcc46 hfr46 hM46
                       replace p46:=eq_true p46
                       replace q46:=eq_true q46
                       have HX53:=Aside0.mk (show Kd.R k47 47 wd w.heap.size (fun _=>True) (.slice (some ⟨go46,0,none⟩) x5_1.length co46) x5_1 from zB1)
                       obtain ⟨ce53,hcl53,hM53,hcc53,hfr53⟩:=Kd.R_elem HX53.out z47 ((rd l1 t170):Int) (of_decide_eq_true zC) (by have h_:((rd l1 t170):Int)<((x5_1.length:Int):Int):=of_decide_eq_true zC; first|exact h_|(have e_:=(Kd.R_reads' HO_5.out).1; omega)|simpa using h_)
                       obtain rfl:=DZ hM53
                       have HP53:=Kd.R_seg HX53.out ((rd l1 t170):Int) (of_decide_eq_true zC) (by have h_:((rd l1 t170):Int)<((x5_1.length:Int):Int):=of_decide_eq_true zC; first|exact h_|(have e_:=(Kd.R_reads' HO_5.out).1; omega)|simpa using h_) (seg:=[.int .i64 t173,.int .i64 x10_2]) (j:=0) hcl53 hcc53 (show 2≤2 from by decide) (x':=(⟨t173,x10_2⟩:S47)) (Dl _ _ _ (⟨t173,x10_2⟩:S47)) (fun _ hk=>hk)
                       have hx53_0:=hcc53 0 _ rfl
                       (try simp only [show (k47).sz=2 from rfl,Nat.mul_one,Nat.add_zero] at hx53_0)
                       have hf53_0:=hfr53 0
                       (try simp only [show (k47).sz=2 from rfl,Nat.mul_one,Nat.add_zero] at hf53_0)
                       have hx53_1:=hcc53 1 _ rfl
                       (try simp only [show (k47).sz=2 from rfl,Nat.mul_one,Nat.add_zero] at hx53_1)
                       have hf53_1:=hfr53 1
                       (try simp only [show (k47).sz=2 from rfl,Nat.mul_one,Nat.add_zero] at hf53_1)
                       clear hcl53 hcc53 hfr53 hM53
                       refine Ah (i:=0) (N:=some 58) (v:= ?_) (a':= ?_) #[true,false,false,false,false,false,false,false,false,false,false] rfl rfl (Ab HT_.out zF) (fun _ _ _ h=>h) (Or.inl ⟨by rfl,?_⟩) ?_ ?_
                       rotate_left
                       ·intro w'
                        go_simp
                        with_reducible rfl
                       rotate_left
                       ·simp only [Act.put,List.setIfInBounds_toArray,List.set_cons_zero,List.set_cons_succ,AZ,Aa]
                        rfl
                       refine Ah (i:=1) (N:=some 59) (v:= ?_) (a':= ?_) #[true,true,false,false,false,false,false,false,false,false,false] rfl rfl (Ab HT_.out zF) (fun _ _ _ h=>h) (Or.inl ⟨by rfl,?_⟩) ?_ ?_
                       rotate_left
                       ·intro w'
                        go_simp
                        with_reducible rfl
                       rotate_left
                       ·simp only [Act.put,List.setIfInBounds_toArray,List.set_cons_zero,List.set_cons_succ,AZ,Aa]
                        rfl
                       refine Ah (i:=4) (N:=some 62) (v:= ?_) (a':= ?_) #[true,true,false,false,true,false,false,false,false,false,false] rfl rfl (Ab HT_.out zF) (fun _ _ _ h=>h) (Or.inl ⟨by rfl,?_⟩) ?_ ?_
                       rotate_left
                       ·intro w'
                        go_simp
                        with_reducible rfl
                       rotate_left
                       ·simp only [Act.put,List.setIfInBounds_toArray,List.set_cons_zero,List.set_cons_succ,AZ,Aa]
                        rfl
                       refine Ah (i:=5) (N:=some 63) (v:= ?_) (a':= ?_) #[true,true,false,false,true,true,false,false,false,false,false] rfl rfl (Ab HT_.out zF) (fun _ _ _ h=>h) (Or.inl ⟨by rfl,?_⟩) ?_ ?_
                       rotate_left
                       ·intro w'
                        go_simp
                        with_reducible rfl
                       rotate_left
                       ·simp only [Act.put,List.setIfInBounds_toArray,List.set_cons_zero,List.set_cons_succ,AZ,Aa]
                        rfl
                       refine Ah (i:=6) (N:=some 64) (v:= ?_) (a':= ?_) #[true,true,false,false,true,true,true,false,false,false,false] rfl rfl (Ab HT_.out zF) (fun _ _ _ h=>h) (Or.inl ⟨by rfl,?_⟩) ?_ ?_
                       rotate_left
                       ·intro w'
                        go_simp
                        with_reducible rfl
                       rotate_left
                       ·simp only [Act.put,List.setIfInBounds_toArray,List.set_cons_zero,List.set_cons_succ,AZ,Aa]
                        rfl
                       refine Ah (i:=3) (N:=some 61) (v:= ?_) (a':= ?_) #[true,true,false,true,true,true,true,false,false,false,false] rfl rfl (Ab HT_.out zF) (fun _ _ _ h=>h) (Or.inl ⟨by rfl,?_⟩) ?_ ?_
                       rotate_left
                       ·intro w'
                        go_simp
                        with_reducible rfl
                       rotate_left
                       ·simp only [Act.put,List.setIfInBounds_toArray,List.set_cons_zero,List.set_cons_succ,AZ,Aa]
                        rfl
                       refine BE (i:=2) (N:=some 60) (v:= ?_) (a':= ?_) #[true,true,true,true,true,true,true,false,false,false,false] rfl rfl (B5 HT_.out HW_.out zF) (fun _ _ _ h=>h) (Or.inl ⟨by rfl,?_⟩) hHeld ?_ ?_
                       rotate_left
                       ·rintro w' s0
                        go_simp
                        with_reducible rfl
                       rotate_left
                       ·simp only [Act.put,List.setIfInBounds_toArray,List.set_cons_zero,List.set_cons_succ,AZ,Aa]
                        rfl
                       refine Ah (i:=7) (N:=some 65) (v:= ?_) (a':= ?_) #[true,true,true,true,true,true,true,true,false,false,false] rfl rfl (Ab HT_.out zF) (fun _ _ _ h=>h) (Or.inl ⟨by rfl,?_⟩) ?_ ?_
                       rotate_left
                       ·intro w'
                        go_simp
                        with_reducible rfl
                       rotate_left
                       ·simp only [Act.put,List.setIfInBounds_toArray,List.set_cons_zero,List.set_cons_succ,AZ,Aa]
                        rfl
                       refine one_ (i:=8) (N:=none) #[true,true,true,true,true,true,true,true,true,false,false] rfl rfl (C1 HT_.out zF) zX (fun K hK=> ?_)
                       refine Eq (w1:=((wd.setCell ⟨go46,((rd l1 t170):Int).toNat*2,none⟩ (.int .i64 t173)).setCell ⟨go46,((rd l1 t170):Int).toNat*2+1,none⟩ (.int .i64 x10_2))) (by rfl) rfl ?_ ?_
                       ·first|(go_simp; done)|(go_simp; rfl)
                       obtain ⟨w54,hw⟩:∃w_,w_=((wd.setCell ⟨go46,((rd l1 t170):Int).toNat*2,none⟩ (.int .i64 t173)).setCell ⟨go46,((rd l1 t170):Int).toNat*2+1,none⟩ (.int .i64 x10_2)):=⟨_,rfl⟩
                       rw [←hw]
                       have hg:wd.grownBy w54 (some go46):=(by rw [hw]; exact HP53.2); have hp_:Kd.R k47 47 w54 w.heap.size (fun _=>True) (.slice (some ⟨go46,0,none⟩) x5_1.length co46) y178:=(by rw [hw,Ny178.out]; exact HP53.1); clear HP53; have n0_:=Aside0.mk (hp_); have n1_:=Aside0.mk (Kd.R_over' (v:=(.slice (some ⟨go46,0,none⟩) x5_1.length co46)) (by (with_reducible repeat (first|apply Kd.R_alloc|apply Kd.R_drewN|apply Kd.R_drew)); exact HO_7.out) (Kd.R_typed HO_5.out) zX hg); have n2_:=Aside0.mk (Kd.R_over' (v:=(.slice (some ⟨go46,0,none⟩) x5_1.length co46)) (by (with_reducible repeat (first|apply Kd.R_alloc|apply Kd.R_drewN|apply Kd.R_drew)); exact HO_76.out) (Kd.R_typed HO_5.out) zX hg); have n3_:=Aside0.mk (BC (g:=gb159) (o:= .cells #[.int .i64 A8,.slice (some ad175) l0_1.length c0_1] 34 (0,0)) zT hg (Kd.R_ne HO_5.out BK159.out zX)); have n4_:=Aside0.mk (BC (g:=gb166) (o:= .cells #[.slice Ao31 x76_1.length co31] 67 (0,0)) zA5 hg (Kd.R_ne HO_5.out BK166.out zX)); have n5_:=Aside0.mk ((by rw [hw]; exact AH (AH (HB.out) GB46.out) GB46.out:Below w.heap.size w w54)); clear HO_5; clear HO_7; clear HO_76; clear BK159; clear BK166; clear HB; have HO_5:=n0_; have HO_7:=n1_; have HO_76:=n2_; have BK159:=n3_; have BK166:=n4_; have HB:=n5_; clear n0_ n1_ n2_ n3_ n4_ n5_; clear hg hp_; have p48:0≤((rd l1 t170):Int):=of_decide_eq_true zC; have q48:((rd l1 t170):Int)<((x76_1.length:Int):Int):=of_decide_eq_true zC; obtain ⟨go48,co48,eo48,gb48,gl48,cl48,HG48⟩:=Kd.R_form HO_76.out zD; (first|cases eo48|(injection eo48 with ea_ en_ ec_; (first|subst ea_|(injection ea_ with ea_; subst ea_)); subst ec_; clear en_)); have GB48:=Aside0.mk gb48; have GG48:=Aside0.mk HG48; clear gb48 gl48 HG48; obtain ⟨hx48_0,hf48_0⟩:=Kd.R_celln false HO_76.out ((rd l1 t170):Int) p48 q48; replace p48:=eq_true p48; replace q48:=eq_true q48; obtain ⟨hy55_,hz55_⟩:=Kd.R_celln false HO_76.out ((rd l1 t170):Int) (of_decide_eq_true zC) (of_decide_eq_true zC); have HP55:=Kd.R_putg HO_76.out ((rd l1 t170):Int) true
                       refine hK.out _ _ ((AK BK166.out 0).trans rfl) (fun hHeld=> ?_)
                       clear hK K
                       try clear hw
                       refine Ah (i:=9) (N:=some 66) (v:= ?_) (a':= ?_) #[true,true,true,true,true,true,true,true,true,true,false] rfl rfl (Ab HT_.out zF) (fun _ _ _ h=>h) (Or.inl ⟨by rfl,?_⟩) ?_ ?_
                       rotate_left
                       ·intro w'
                        go_simp
                        with_reducible rfl
                       rotate_left
                       ·simp only [Act.put,List.setIfInBounds_toArray,List.set_cons_zero,List.set_cons_succ,AZ,Aa]
                        rfl
                       refine one_ (i:=10) (N:=none) #[true,true,true,true,true,true,true,true,true,true,true] rfl rfl (C1 HT_.out zF) zX (fun K hK=> ?_)
                       refine Eq (w1:=(w54.setCell ⟨go48,((rd l1 t170):Int).toNat,none⟩ (.bool true))) (by rfl) rfl ?_ ?_
                       ·first|(go_simp; done)|(go_simp; rfl)
                       obtain ⟨w56,hw⟩:∃w_,w_=(w54.setCell ⟨go48,((rd l1 t170):Int).toNat,none⟩ (.bool true)):=⟨_,rfl⟩
                       rw [←hw]
                       have hg:w54.grownBy w56 (some go48):=(by rw [hw]; exact HP55.2); have hp_:Kd.R Kd.bool 4 w56 w.heap.size (fun _=>True) (.slice (some ⟨go48,0,none⟩) x76_1.length co31) y179:=(by rw [hw,Ny179.out]; exact HP55.1); clear HP55; have n0_:=Aside0.mk (Kd.R_over' (v:=(.slice (some ⟨go48,0,none⟩) x76_1.length co31)) zB1 (Kd.R_typed HO_76.out) zX hg); have n1_:=Aside0.mk (Kd.R_over' (v:=(.slice (some ⟨go48,0,none⟩) x76_1.length co31)) (by (with_reducible repeat (first|apply Kd.R_alloc|apply Kd.R_drewN|apply Kd.R_drew)); exact HO_7.out) (Kd.R_typed HO_76.out) zX hg); have n2_:=Aside0.mk (hp_); have n3_:=Aside0.mk (BC (g:=gb159) (o:= .cells #[.int .i64 A8,.slice (some ad175) l0_1.length c0_1] 34 (0,0)) zT hg (Kd.R_ne HO_76.out BK159.out zX)); have n4_:=Aside0.mk (BC (g:=gb166) (o:= .cells #[.slice (some ⟨go48,0,none⟩) x76_1.length co31] 67 (0,0)) zA5 hg (Kd.R_ne HO_76.out BK166.out zX)); have n5_:=Aside0.mk ((by rw [hw]; exact AH (HB.out) GB48.out:Below w.heap.size w w56)); clear HO_5; clear HO_7; clear HO_76; clear BK159; clear BK166; clear HB; have HO_5:=n0_; have HO_7:=n1_; have HO_76:=n2_; have BK159:=n3_; have BK166:=n4_; have HB:=n5_; clear n0_ n1_ n2_ n3_ n4_ n5_; clear hg hp_; have hnb57:=NB159_166.out; have hnc57:=NB166_159.out; have hcz58_0:w56.cell? ⟨gb159,0,none⟩=some (.int .i64 A8):=(AK BK159.out 0).trans rfl; have hcz58_1:w56.cell? ⟨gb159,1,none⟩=some (.slice (some ad175) l0_1.length c0_1):=(AK BK159.out 1).trans rfl; have hfz58_0:=AJ BK159.out 0; have hfz58_1:=AJ BK159.out 1
                       refine hK.out _ _ ((AK BK166.out 0).trans rfl) (fun hHeld=> ?_)
                       clear hK K
                       try clear hw
                       refine CJ (C0 HT_.out zF) ?_
                       go_wp2_with (first|((with_reducible refine Ad (f:=30) rfl ?_); refine Ax (some 72) rfl rfl Try.func30 zF rfl #[.agg #[.int .i64 A8,.slice (some ad175) l0_1.length c0_1],.slice (some ⟨go46,0,none⟩) y178.length co46,.int .i64 (rd l1 t170)] rfl (by (try simp only [List.map_toArray,List.map_cons,List.map_nil]); first|done|(rw [show y178.length=x5_1.length from (Kd.R_reads' HO_5.out).1.symm]<;>rfl)|rfl|(simp only [List.length_drop,List.length_take]; rfl)) ?_; (with_reducible refine (Au.calls A8 _ _ l0_1 _ _ y178 (rd l1 t170) t180 _ ?side1 ?side2 ?side3 ?side4 A49.out).mono ?_); (case side1=>repeat (first|exact (Kd.C_below HR0_1.out HB.out)|(with_reducible refine Kd.C_alloc ?_ _)|(with_reducible refine Kd.C_drewN ?_ _)|(with_reducible refine Kd.C_drew ?_))); (case side2=>exact HC0_1.out); (case side3=>repeat (first|exact (Kd.R_reads' HO_5.out).2.2|(with_reducible refine Kd.C_alloc ?_ _)|(with_reducible refine Kd.C_drewN ?_ _)|(with_reducible refine Kd.C_drew ?_))); (case side4=>rw [show y178.length=x5_1.length from (Kd.R_reads' HO_5.out).1.symm]; exact (Kd.R_reads' HO_5.out).2.1); rintro e w59 ⟨rfl,hb⟩; refine ⟨_,rfl,?_⟩; have n0_:=Aside0.mk (Kd.R_below zB1 hb); have n1_:=Aside0.mk (Kd.R_below (by (with_reducible repeat (first|apply Kd.R_alloc|apply Kd.R_drewN|apply Kd.R_drew)); exact HO_7.out) hb); have n2_:=Aside0.mk (Kd.R_below (by (with_reducible repeat (first|apply Kd.R_alloc|apply Kd.R_drewN|apply Kd.R_drew)); exact HO_76.out) hb); have n3_:=Aside0.mk (AN (g:=gb159) (o:= .cells #[.int .i64 A8,.slice (some ad175) l0_1.length c0_1] 34 (0,0)) zT hb); have n4_:=Aside0.mk (AN (g:=gb166) (o:= .cells #[.slice (some ⟨go48,0,none⟩) x76_1.length co31] 67 (0,0)) zA5 hb); have n5_:=Aside0.mk (AO zA6 hb); clear HO_5; clear HO_7; clear HO_76; clear BK159; clear BK166; clear HB; have HO_5:=n0_; have HO_7:=n1_; have HO_76:=n2_; have BK159:=n3_; have BK166:=n4_; have HB:=n5_; clear n0_ n1_ n2_ n3_ n4_ n5_; (try clear hb); (try clear hb2); (try clear hk); (try clear hi); have p52:0≤(t173:Int):=of_decide_eq_true zC; have q52:(t173:Int)<((x7_1.length:Int):Int):=of_decide_eq_true zC; obtain ⟨go52,co52,eo52,gb52,gl52,cl52,HG52⟩:=Kd.R_form HO_7.out zD; (first|cases eo52|(injection eo52 with ea_ en_ ec_; (first|subst ea_|(injection ea_ with ea_; subst ea_)); subst ec_; clear en_)); have GB52:=Aside0.mk gb52; have GG52:=Aside0.mk HG52; clear gb52 gl52 HG52; (first|simp only [C9] at hx174_0|skip); obtain ⟨hx52_0,hf52_0⟩:=Kd.R_celln 0 HO_7.out (t173:Int) p52 q52; replace p52:=eq_true p52; replace q52:=eq_true q52; obtain ⟨hy60_,hz60_⟩:=Kd.R_celln 0 HO_7.out (t173:Int) (of_decide_eq_true zC) (of_decide_eq_true zC); have HP60:=Kd.R_putg HO_7.out (t173:Int) t180)|((with_reducible refine Bg (t:=3) (p:=73) rfl ?_); refine Bc (t:=3) (p:=73) (v:= ?vo_w61) (w1:=(w59.setCell ⟨go52,(t173:Int).toNat,none⟩ (.int .i64 t180))) ?hg ?ho ?hn ?hr ?_; (case ho=>rfl); (case hg=>rfl); (case hn=>rfl); (case hr=>first|(go_simp; done)|(go_simp; rfl)); intro w61 hw; have hg:w59.grownBy w61 (some go52):=(by rw [hw]; exact HP60.2); have hp_:Kd.R (Kd.int .i64) 3 w61 w.heap.size (fun _=>True) (.slice (some ⟨go52,0,none⟩) x7_1.length co33) y181:=(by rw [hw,Ny181.out]; exact HP60.1); clear HP60; have n0_:=Aside0.mk (Kd.R_over' (v:=(.slice (some ⟨go52,0,none⟩) x7_1.length co33)) zB1 (Kd.R_typed HO_7.out) zX hg); have n1_:=Aside0.mk (hp_); have n2_:=Aside0.mk (Kd.R_over' (v:=(.slice (some ⟨go52,0,none⟩) x7_1.length co33)) (by (with_reducible repeat (first|apply Kd.R_alloc|apply Kd.R_drewN|apply Kd.R_drew)); exact HO_76.out) (Kd.R_typed HO_7.out) zX hg); have n3_:=Aside0.mk (BC (g:=gb159) (o:= .cells #[.int .i64 A8,.slice (some ad175) l0_1.length c0_1] 34 (0,0)) zT hg (Kd.R_ne HO_7.out BK159.out zX)); have n4_:=Aside0.mk (BC (g:=gb166) (o:= .cells #[.slice (some ⟨go48,0,none⟩) x76_1.length co31] 67 (0,0)) zA5 hg (Kd.R_ne HO_7.out BK166.out zX)); have n5_:=Aside0.mk ((by rw [hw]; exact AH (HB.out) GB52.out:Below w.heap.size w w61)); clear HO_5; clear HO_7; clear HO_76; clear BK159; clear BK166; clear HB; have HO_5:=n0_; have HO_7:=n1_; have HO_76:=n2_; have BK159:=n3_; have BK166:=n4_; have HB:=n5_; clear n0_ n1_ n2_ n3_ n4_ n5_; clear hg hw hp_))
                       go_roundg k2
                       case measure=>have:=HK1.out; have:=HK2.out; omega
                       case rel=>exact ⟨(y178),(y181),(wrap64 (x24_1+1)),(y179),zH,H',⟨by have:=HK1.out; have:=HK2.out; omega⟩,⟨by (with_reducible repeat (first|apply Kd.R_alloc|apply Kd.R_drewN|apply Kd.R_drew)); exact HO_5.out⟩,⟨by (with_reducible repeat (first|apply Kd.R_alloc|apply Kd.R_drewN|apply Kd.R_drew)); exact HO_7.out⟩,⟨by (with_reducible repeat (first|apply Kd.R_alloc|apply Kd.R_drewN|apply Kd.R_drew)); exact HO_76.out⟩,⟨by (with_reducible repeat (first|refine AF ?_ _|refine AI ?_|refine AG ?_ _)); exact BK159.out⟩,⟨by (with_reducible repeat (first|refine AF ?_ _|refine AI ?_|refine AG ?_ _)); exact BK166.out⟩,⟨by repeat (first|(with_reducible first|exact HB.out|apply AE|apply AC|apply AD|refine AH ?_ GE159.out|refine AH ?_ GE166.out)|exact HB.out)⟩⟩
                      ·rw [if_neg c51] at H
                       exact absurd H zA1
                     ·rw [if_neg c50] at H
                      exact absurd H zA1
                    ·rw [if_neg c47] at H
                     exact absurd H zA1
                   ·rw [if_neg c45] at H
                    exact absurd H zA1
                  ·rw [if_neg c44] at H
                   exact absurd H zA1
              ·rw [if_neg c28] at H
               exact absurd H zA1
             ·rw [if_neg c27] at H
              exact absurd H zA1
            ·rw [if_neg c26] at H
             exact absurd H zA1
           ·rw [if_neg c25] at H
            exact absurd H zA1
          ·rw [if_neg c22] at H
           exact absurd H zA1
         ·rw [if_neg c21] at H
          exact absurd H zA1
        ·rw [if_neg c19] at H
         have c19b0:decide (x24_1<(l1.length:Int))=false:=decide_eq_false c19
         clear c19
         obtain rfl:=Option.some.inj H
         go_wp2
         go_ret
         exact ⟨_,by first|rfl|(simp [AY,AX]<;>rfl)|(simp [*,AY,AX]<;>rfl),by (with_reducible repeat (first|apply Kd.R_alloc|apply Kd.R_drewN|apply Kd.R_drew)); exact HO_5.out,by repeat (first|(with_reducible first|exact HB.out|apply AE|apply AC|apply AD|refine AH ?_ GE159.out|refine AH ?_ GE166.out)|exact HB.out)⟩
     ·rw [if_neg c7] at H
      exact absurd H zA1
    ·rw [if_neg c6] at H
     exact absurd H zA1
   ·rw [if_neg c5] at H
    exact absurd H zA1
  ·rw [if_neg c4] at H
   exact absurd H zA1
 ·rw [if_neg c3] at H
  exact absurd H zA1
mutual
def AU.j0:Nat→List Int→Bool→Int→List (S64)→Option ((List (S47))×Int)
 |0,_,_,_,_=>none
 |k+1,x1,x19,x183000,x183001=>if x19=true then (some (([]:List (S47)),1)) else (if 0≤(x1.length:Int) then (if ((x1.length:Int):Int).toNat≤281474976710656 then (AU.l0 k x1 (List.replicate ((x1.length:Int):Int).toNat false) x1 (x1.length:Int) 0 x183000 x183001) else (none)) else (none))
def AU.l0:Nat→List Int→List Bool→List Int→Int→Int→Int→List (S64)→Option ((List (S47))×Int)
 |0,_,_,_,_,_,_,_=>none
 |k+1,x1,x6,x23,x24,x25,x183000,x183001=>if x25<x24 then (if 0≤x25 then (if x25<(x23.length:Int) then (if (rd x23 x25)<0 then (some (([]:List (S47)),1)) else (if (rd x23 x25)≥(x1.length:Int) then (some (([]:List (S47)),1)) else (if 0≤(rd x23 x25) then (if (rd x23 x25)<(x6.length:Int) then (if rdOf false x6 (rd x23 x25)=true then (some (([]:List (S47)),1)) else (AU.l0 k x1 (x6.set ((rd x23 x25):Int).toNat true) x23 x24 (wrap64 (x25+1)) x183000 x183001)) else (none)) else (none)))) else (none)) else (none)) else ((AS.f k x183000 x183001 x1).bind fun t190=>(some (t190,0)))
end
def AU.f (k:Nat) (A8:Int) (l0_1:List (S64)) (l1:List Int):Option ((List (S47))×Int):=(AM.f k A8 l0_1).bind fun t183=>(if t183=true then (AU.j0 k l1 ((l1.length:Int) !=(l0_1.length:Int)) A8 l0_1) else (AU.j0 k l1 true A8 l0_1))
theorem AU.mono_l:∀k,(∀y0 y1 y2 y3,LeO (AU.j0 k y0 y1 y2 y3) (AU.j0 (k+1) y0 y1 y2 y3))∧(∀y0 y1 y2 y3 y4 y5 y6,LeO (AU.l0 k y0 y1 y2 y3 y4 y5 y6) (AU.l0 (k+1) y0 y1 y2 y3 y4 y5 y6))
 |0=>⟨fun _ _ _ _ r h=>by simp [AU.j0] at h,fun _ _ _ _ _ _ _ r h=>by simp [AU.l0] at h⟩
 | k +1=>by
  obtain ⟨ih0,ih1⟩:=AU.mono_l k
  refine ⟨?_,?_⟩
  ·intro y0 y1 y2 y3
   unfold AU.j0
   repeat' first
   |(with_reducible exact ih0 _ _ _ _)
   |(with_reducible exact ih1 _ _ _ _ _ _ _)
   |(with_reducible exact AM.mono _ _ _)
   |(with_reducible exact AS.mono _ _ _ _)
   |(with_reducible exact LeO.refl _)
   |(with_reducible exact LeO.none _)
   |(with_reducible refine LeO.ite ?_ ?_)
   |(with_reducible refine LeO.bind ?_ (fun _=> ?_))
   |exact ih0 _ _ _ _
   |exact ih1 _ _ _ _ _ _ _
   |exact AM.mono _ _ _
   |exact AS.mono _ _ _ _
   |exact LeO.none _
   |refine LeO.ite ?_ ?_
   |refine LeO.bind ?_ (fun _=> ?_)
  ·intro y0 y1 y2 y3 y4 y5 y6
   unfold AU.l0
   repeat' first
   |(with_reducible exact ih0 _ _ _ _)
   |(with_reducible exact ih1 _ _ _ _ _ _ _)
   |(with_reducible exact AM.mono _ _ _)
   |(with_reducible exact AS.mono _ _ _ _)
   |(with_reducible exact LeO.refl _)
   |(with_reducible exact LeO.none _)
   |(with_reducible refine LeO.ite ?_ ?_)
   |(with_reducible refine LeO.bind ?_ (fun _=> ?_))
   |exact ih0 _ _ _ _
   |exact ih1 _ _ _ _ _ _ _
   |exact AM.mono _ _ _
   |exact AS.mono _ _ _ _
   |exact LeO.none _
   |refine LeO.ite ?_ ?_
   |refine LeO.bind ?_ (fun _=> ?_)
theorem AU.mono:∀a0 a1 a2 k,LeO (AU.f k a0 a1 a2) (AU.f (k+1) a0 a1 a2):=by
 intro a0 a1 a2 k
 obtain ⟨ih0,ih1⟩:=AU.mono_l k
 unfold AU.f
 repeat' first
  |(with_reducible exact ih0 _ _ _ _)
  |(with_reducible exact ih1 _ _ _ _ _ _ _)
  |(with_reducible exact AM.mono _ _ _)
  |(with_reducible exact AS.mono _ _ _ _)
  |(with_reducible exact LeO.refl _)
  |(with_reducible exact LeO.none _)
  |(with_reducible refine LeO.ite ?_ ?_)
  |(with_reducible refine LeO.bind ?_ (fun _=> ?_))
  |exact ih0 _ _ _ _
  |exact ih1 _ _ _ _ _ _ _
  |exact AM.mono _ _ _
  |exact AS.mono _ _ _ _
  |exact LeO.none _
  |refine LeO.ite ?_ ?_
  |refine LeO.bind ?_ (fun _=> ?_)
set_option maxHeartbeats 8000000 in
theorem AU.calls (k:Nat) (A8:Int) (A0_1:Option Addr) (c0_1:Nat) (l0_1:List (S64)) (A1:Option Addr) (c1:Nat) (l1:List Int) (r1:List (S47)) (r2:Int) (w:World) (hr0_1:Kd.C k64 w A0_1 l0_1.length l0_1) (hc0_1:l0_1.length≤c0_1) (hr1:Kd.C (Kd.int .i64) w A1 l1.length l1) (hc1:l1.length≤c1) (h:AU.f k A8 l0_1 l1=some (r1,r2)):
  Calls Try.prog 15 #[.agg #[.int .i64 A8,.slice A0_1 l0_1.length c0_1],.slice A1 l1.length c1] w fun e w'=>∃v0_:Value,e= .returned (.tuple #[v0_,.int .i64 r2])∧Kd.R k47 47 w' w.heap.size (fun _=>True) v0_ r1∧Below w.heap.size w w':=by
 have hu34:=Try.underlying34
 have HR0_1:=Aside0.mk hr0_1
 have HC0_1:=Aside0.mk hc0_1
 clear hr0_1 hc0_1
 have HR1:=Aside0.mk hr1
 have HC1:=Aside0.mk hc1
 clear hr1 hc1
 have HB:=Aside0.mk (Below.refl w.heap.size w)
 have H:((AM.f k A8 l0_1).bind fun t183=>(if t183=true then (AU.j0 k l1 ((l1.length:Int) !=(l0_1.length:Int)) A8 l0_1) else (AU.j0 k l1 true A8 l0_1)))=some (r1,r2):=h
 clear h
 have HC3:=Aside0.mk H
 clear H
 go_enter Try.func15,Try.ntmps15
 go_upto_region 1 with (first|((with_reducible refine Am (N:=2) rfl ?_); (try (refine B9 (by rfl) ?_; dsimp only)); refine Ak ?hg (N:=2) ?hd (cs:= #[.int .i64 A8,.slice A0_1 l0_1.length c0_1]) (t:=34) ?hr ?_; (case hd=>rfl); (case hg=>rfl); (case hr=>first|(go_simp; done)|(go_simp; rfl)); intro gb182 hg w4 hbox hb; have n0_:=Aside0.mk (AO zA hb); have n1_:=Aside0.mk (hbox); have n2_:=Aside0.mk ((by rw [hg]; exact (AP zA):w.heap.size≤gb182)); have n3_:=Aside0.mk ((by rw [hg]; exact (AP zA):w.heap.size≤gb182)); clear HB; have HB:=n0_; have BK182:=n1_; have GW182:=n2_; have GE182:=n3_; clear n0_ n1_ n2_ n3_; clear hb hbox hg))
 (try simp only [Act.put,List.setIfInBounds_toArray,List.set_cons_zero,List.set_cons_succ])
 go_cut [19] (fun v19 wc=>∃(kq:Nat) (x19_2:Bool),v19= .bool x19_2∧Aside0 (AU.j0 kq l1 x19_2 A8 l0_1=some (r1,r2))∧Aside0 (kq≤k)∧Aside0 (wc.heap[gb182]? =some (.cells #[.int .i64 A8,(.slice A0_1 l0_1.length c0_1)] 34 (0,0)))∧Aside0 (Below w.heap.size w wc))
 case first=>
  have H:=HC3.out
  clear HC3
  replace H:=Option.bind_eq_some_iff.mp H
  obtain ⟨t183,A50,H⟩:=H
  replace H:(if t183=true then (AU.j0 k l1 ((l1.length:Int) !=(l0_1.length:Int)) A8 l0_1) else (AU.j0 k l1 true A8 l0_1))=some (r1,r2):=H
  have A5:=Aside0.mk A50
  clear A50
  by_cases c6:t183=true
  ·subst c6
   have H1:(AU.j0 k l1 ((l1.length:Int) !=(l0_1.length:Int)) A8 l0_1)=some (r1,r2):=by rw [if_pos rfl] at H; exact H
   clear H
   have H:=H1
   clear H1
   have H':=Aside0.mk H
   clear H
   have hcz7_0:w4.cell? ⟨gb182,0,none⟩=some (.int .i64 A8):=(AK BK182.out 0).trans rfl
   have hcz7_1:w4.cell? ⟨gb182,1,none⟩=some (.slice A0_1 l0_1.length c0_1):=(AK BK182.out 1).trans rfl
   have hfz7_0:=AJ BK182.out 0
   have hfz7_1:=AJ BK182.out 1
   go_wp2_with (first|((with_reducible refine Ad (f:=29) rfl ?_); refine Ax (some 10) rfl rfl Try.func29 zF rfl #[.agg #[.int .i64 A8,.slice A0_1 l0_1.length c0_1]] rfl zB ?_; (with_reducible refine (AM.calls k A8 _ _ l0_1 true _ ?side1 ?side2 A5.out).mono ?_); (case side1=>repeat (first|exact (Kd.C_below HR0_1.out HB.out)|(with_reducible refine Kd.C_alloc ?_ _)|(with_reducible refine Kd.C_drewN ?_ _)|(with_reducible refine Kd.C_drew ?_))); (case side2=>exact HC0_1.out); rintro e w8 ⟨rfl,hb⟩; refine ⟨_,rfl,?_⟩; have n0_:=Aside0.mk (AN (g:=gb182) (o:= .cells #[.int .i64 A8,.slice A0_1 l0_1.length c0_1] 34 (0,0)) (by (with_reducible repeat (first|refine AF ?_ _|refine AI ?_|refine AG ?_ _)); exact BK182.out) hb); have n1_:=Aside0.mk (AO zA4 hb); clear BK182; clear HB; have BK182:=n0_; have HB:=n1_; clear n0_ n1_; (try clear hb); (try clear hb2); (try clear hk); (try clear hi); have hcz9_0:w8.cell? ⟨gb182,0,none⟩=some (.int .i64 A8):=(AK BK182.out 0).trans rfl; have hcz9_1:w8.cell? ⟨gb182,1,none⟩=some (.slice A0_1 l0_1.length c0_1):=(AK BK182.out 1).trans rfl; have hfz9_0:=AJ BK182.out 0; have hfz9_1:=AJ BK182.out 1))
   go_meet
   case rel=>exact ⟨_,(((l1.length:Int) !=(l0_1.length:Int))),zH,H',⟨by first|omega|exact Nat.le_refl _⟩,⟨by (with_reducible repeat (first|refine AF ?_ _|refine AI ?_|refine AG ?_ _)); exact BK182.out⟩,⟨by repeat (first|(with_reducible first|exact HB.out|apply AE|apply AC|apply AD|refine AH ?_ GE182.out)|exact HB.out)⟩⟩
  ·replace c6:=Bool.eq_false_iff.mpr c6
   subst c6
   have H1:(AU.j0 k l1 true A8 l0_1)=some (r1,r2):=by rw [if_neg (show ¬(false=true) by decide)] at H; exact H
   clear H
   have H:=H1
   clear H1
   have H':=Aside0.mk H
   clear H
   have hcz10_0:w4.cell? ⟨gb182,0,none⟩=some (.int .i64 A8):=(AK BK182.out 0).trans rfl
   have hcz10_1:w4.cell? ⟨gb182,1,none⟩=some (.slice A0_1 l0_1.length c0_1):=(AK BK182.out 1).trans rfl
   have hfz10_0:=AJ BK182.out 0
   have hfz10_1:=AJ BK182.out 1
   go_wp2_with (first|((with_reducible refine Ad (f:=29) rfl ?_); refine Ax (some 10) rfl rfl Try.func29 zF rfl #[.agg #[.int .i64 A8,.slice A0_1 l0_1.length c0_1]] rfl zB ?_; (with_reducible refine (AM.calls k A8 _ _ l0_1 false _ ?side1 ?side2 A5.out).mono ?_); (case side1=>repeat (first|exact (Kd.C_below HR0_1.out HB.out)|(with_reducible refine Kd.C_alloc ?_ _)|(with_reducible refine Kd.C_drewN ?_ _)|(with_reducible refine Kd.C_drew ?_))); (case side2=>exact HC0_1.out); rintro e w11 ⟨rfl,hb⟩; refine ⟨_,rfl,?_⟩; have n0_:=Aside0.mk (AN (g:=gb182) (o:= .cells #[.int .i64 A8,.slice A0_1 l0_1.length c0_1] 34 (0,0)) (by (with_reducible repeat (first|refine AF ?_ _|refine AI ?_|refine AG ?_ _)); exact BK182.out) hb); have n1_:=Aside0.mk (AO zA4 hb); clear BK182; clear HB; have BK182:=n0_; have HB:=n1_; clear n0_ n1_; (try clear hb); (try clear hb2); (try clear hk); (try clear hi)))
   go_meet
   case rel=>exact ⟨_,(true),zH,H',⟨by first|omega|exact Nat.le_refl _⟩,⟨by (with_reducible repeat (first|refine AF ?_ _|refine AI ?_|refine AG ?_ _)); exact BK182.out⟩,⟨by repeat (first|(with_reducible first|exact HB.out|apply AE|apply AC|apply AD|refine AH ?_ GE182.out)|exact HB.out)⟩⟩
 case rest =>
  clear HC3
  try clear c1
  try clear c2
  try clear p2
  try clear c6
  try clear hcz10_0
  try clear hcz10_1
  try clear hcz7_0
  try clear hcz7_1
  try clear hcz9_0
  try clear hcz9_1
  try clear hfz10_0
  try clear hfz10_1
  try clear hfz7_0
  try clear hfz7_1
  try clear hfz9_0
  try clear hfz9_1
  obtain ⟨kq,x19_2,rfl,HA,HJ2,BK182,HB⟩:=hcut
  cases kq with
  |zero=>exact absurd HA.out (by simp [AU.j0])
  | succ kj2=>
   have H:=HA.out
   clear HA
   simp only [AU.j0] at H
   by_cases c12:x19_2=true
   ·subst c12
    have H1:(some (([]:List (S47)),1))=some (r1,r2):=by rw [if_pos rfl] at H; exact H
    clear H
    have H:=H1
    clear H1
    simp only [Option.some.injEq,Prod.mk.injEq] at H
    obtain ⟨rfl,rfl⟩:=H
    go_wp2
    go_ret2
    exact ⟨_,by first|rfl|(simp [AY,AX]<;>rfl)|(simp [*,AY,AX]<;>rfl),by first|exact Kd.R_nil _ _ _ _ _|exact Kd.N_nil _ _ _ _ _|exact Kd.V_nil _ _ _ _ _|exact Kd.Q_nil _ _ _ _ _|exact Kd.S_nil _ _ _ _ _,by repeat (first|(with_reducible first|exact HB.out|apply AE|apply AC|apply AD|refine AH ?_ GE182.out)|exact HB.out)⟩
   ·replace c12 :=Bool.eq_false_iff.mpr c12
    subst c12
    have H1:(if 0≤(l1.length:Int) then (if ((l1.length:Int):Int).toNat≤281474976710656 then (AU.l0 kj2 l1 (List.replicate ((l1.length:Int):Int).toNat false) l1 (l1.length:Int) 0 A8 l0_1) else (none)) else (none))=some (r1,r2):=by rw [if_neg (show ¬(false=true) by decide)] at H; exact H
    clear H
    have H:=H1
    clear H1
    by_cases c13:0≤(l1.length:Int)
    ·rw [if_pos c13] at H
     have c13b0:=eq_true c13
     have c13b1:decide (0≤(l1.length:Int))=true:=decide_eq_true c13
     clear c13
     by_cases c14:((l1.length:Int):Int).toNat≤281474976710656
     ·rw [if_pos c14] at H
      have c14b0:=eq_true c14
      have c14b1:decide (((l1.length:Int):Int).toNat≤281474976710656)=true:=decide_eq_true c14
      clear c14
      obtain ⟨y184,hy184⟩:∃y_:List Bool,y_=(List.replicate ((l1.length:Int):Int).toNat false):=⟨_,rfl⟩
      replace H:(AU.l0 kj2 l1 y184 l1 (l1.length:Int) 0 A8 l0_1)=some (r1,r2):=by first|(rw [hy184]; with_reducible exact H)|(have H2_:=(Option.bind_some _ _).symm.trans H; rw [hy184]; with_reducible exact H2_)|(have H2_:=(Option.bind_some _ _).symm.trans H; with_reducible exact H2_)|with_reducible exact H|(rw [hy184]; exact H)|exact H
      have Ny184:=Aside0.mk hy184
      clear hy184
      have H':=Aside0.mk H
      clear H
      go_wp2_with (first|((with_reducible refine Am (N:=22) rfl ?_); (try (refine B9 (by rfl) ?_; dsimp only)); refine Kd.R_make Kd.bool _ 4 rfl (N:=22) rfl 67 _ _ rfl (l1.length:Int) rfl rfl Try.underlying67 (.bool false) 1 info4 rfl zX zD false (ok:=fun _=>True) (okp:=fun _=>True) rfl (fun _ hk=>hk) trivial (of_decide_eq_true zC) (Nat.le_trans (Nat.mul_le_mul_right _ (of_decide_eq_true zC:(l1.length:Int).toNat≤281474976710656)) zD) (Below.refl _ _) (Nat.le_refl _) ?_; intro v185 w15 ho16 hb hg_ hnew_; clear hg_ hnew_; (first|rw [←Ny184.out] at ho16|(simp only [Int.reduceToNat] at ho16; rw [←Ny184.out] at ho16)); have n0_:=Aside0.mk (Kd.R_lower ho16 (AP zA4)); have n1_:=Aside0.mk (AN (g:=gb182) (o:= .cells #[.int .i64 A8,.slice A0_1 l0_1.length c0_1] 34 (0,0)) (by (with_reducible repeat (first|refine AF ?_ _|refine AI ?_|refine AG ?_ _)); exact BK182.out) hb); have n2_:=Aside0.mk (AO zA4 hb); clear BK182; clear HB; have HO186:=n0_; have BK182:=n1_; have HB:=n2_; clear n0_ n1_ n2_; clear hb ho16))
      go_loopg [25] kj2 (fun kq v25 w'=>∃(x6_2:List Bool) (x25_2:Int),v25= .int .i64 x25_2∧Aside0 (AU.l0 kq l1 x6_2 l1 (l1.length:Int) x25_2 A8 l0_1=some (r1,r2))∧Aside0 (kq≤kj2)∧Aside0 (Kd.R Kd.bool 4 w' w.heap.size (fun _=>True) v185 x6_2)∧Aside0 (w'.heap[gb182]? =some (.cells #[.int .i64 A8,(.slice A0_1 l0_1.length c0_1)] 34 (0,0)))∧Aside0 (Below w.heap.size w w'))
      case atStart=>exact ⟨(y184),(0),zH,H',⟨Nat.le_refl _⟩,⟨by (with_reducible repeat (first|apply Kd.R_alloc|apply Kd.R_drewN|apply Kd.R_drew)); exact HO186.out⟩,⟨by (with_reducible repeat (first|refine AF ?_ _|refine AI ?_|refine AG ?_ _)); exact BK182.out⟩,⟨by repeat (first|(with_reducible first|exact HB.out|apply AE|apply AC|apply AD|refine AH ?_ GE182.out)|exact HB.out)⟩⟩
      case round=>
       clear H'
       try clear c1
       try clear c2
       try clear p2
       try clear c6
       try clear c12
       try clear c13
       try clear c13b0
       try clear c13b1
       try clear c14
       try clear c14b0
       try clear c14b1
       try clear c15
       try clear hcz10_0
       try clear hcz10_1
       try clear hcz7_0
       try clear hcz7_1
       try clear hcz9_0
       try clear hcz9_1
       try clear hfz10_0
       try clear hfz10_1
       try clear hfz7_0
       try clear hfz7_1
       try clear hfz9_0
       try clear hfz9_1
       try clear p2
       obtain ⟨x6_2,x25_2,rfl,HA,HK2,HO_6,BK182,HB⟩:=hrel
       cases gk with
       |zero=>exact absurd HA.out (by simp [AU.l0])
       | succ k2 =>
        have H:=HA.out
        clear HA
        simp only [AU.l0] at H
        by_cases c17:x25_2<(l1.length:Int)
        ·rw [if_pos c17] at H
         have c17b0:decide (x25_2<(l1.length:Int))=true:=decide_eq_true c17
         clear c17
         by_cases c18:0≤x25_2
         ·rw [if_pos c18] at H
          have c18b0:decide (0≤x25_2)=true:=decide_eq_true c18
          clear c18
          by_cases c19:x25_2<(l1.length:Int)
          ·rw [if_pos c19] at H
           have c19b0:decide (x25_2<(l1.length:Int))=true:=decide_eq_true c19
           clear c19
           by_cases c20:(rd l1 x25_2)<0
           ·rw [if_pos c20] at H
            have c20b0:decide ((rd l1 x25_2)<0)=true:=decide_eq_true c20
            clear c20
            simp only [Option.some.injEq,Prod.mk.injEq] at H
            obtain ⟨rfl,rfl⟩:=H
            have p187:0≤(x25_2:Int):=of_decide_eq_true zC
            have q187:x25_2<(l1.length:Int):=of_decide_eq_true zC
            obtain ⟨ad187,e187,hx187_0⟩:=Kd.at_int HR1.out x25_2 p187 q187
            cases e187
            replace hx187_0:=(HB.out.cell (World.block_lt_of_cell? w _ hx187_0)).trans hx187_0
            replace p187:=eq_true p187
            replace q187:=eq_true q187
            go_wp2
            go_ret2
            exact ⟨_,by first|rfl|(simp [AY,AX]<;>rfl)|(simp [*,AY,AX]<;>rfl),by first|exact Kd.R_nil _ _ _ _ _|exact Kd.N_nil _ _ _ _ _|exact Kd.V_nil _ _ _ _ _|exact Kd.Q_nil _ _ _ _ _|exact Kd.S_nil _ _ _ _ _,by repeat (first|(with_reducible first|exact HB.out|apply AE|apply AC|apply AD|refine AH ?_ GE182.out)|exact HB.out)⟩
           ·rw [if_neg c20] at H
            have c20b0:decide ((rd l1 x25_2)<0)=false:=decide_eq_false c20
            clear c20
            by_cases c21:(rd l1 x25_2)≥(l1.length:Int)
            ·rw [if_pos c21] at H
             have c21b0:decide ((l1.length:Int)≤(rd l1 x25_2))=true:=decide_eq_true c21
             clear c21
             simp only [Option.some.injEq,Prod.mk.injEq] at H
             obtain ⟨rfl,rfl⟩:=H
             have p187:0≤(x25_2:Int):=of_decide_eq_true zC
             have q187:x25_2<(l1.length:Int):=of_decide_eq_true zC
             obtain ⟨ad187,e187,hx187_0⟩:=Kd.at_int HR1.out x25_2 p187 q187
             cases e187
             replace hx187_0:=(HB.out.cell (World.block_lt_of_cell? w _ hx187_0)).trans hx187_0
             replace p187:=eq_true p187
             replace q187:=eq_true q187
             go_wp2
             go_ret2
             exact ⟨_,by first|rfl|(simp [AY,AX]<;>rfl)|(simp [*,AY,AX]<;>rfl),by first|exact Kd.R_nil _ _ _ _ _|exact Kd.N_nil _ _ _ _ _|exact Kd.V_nil _ _ _ _ _|exact Kd.Q_nil _ _ _ _ _|exact Kd.S_nil _ _ _ _ _,by repeat (first|(with_reducible first|exact HB.out|apply AE|apply AC|apply AD|refine AH ?_ GE182.out)|exact HB.out)⟩
            ·rw [if_neg c21] at H
             have c21b0:decide ((l1.length:Int)≤(rd l1 x25_2))=false:=decide_eq_false c21
             clear c21
             by_cases c22:0≤(rd l1 x25_2)
             ·rw [if_pos c22] at H
              have c22b0:decide (0≤(rd l1 x25_2))=true:=decide_eq_true c22
              clear c22
              by_cases c23:(rd l1 x25_2)<(x6_2.length:Int)
              ·rw [if_pos c23] at H
               have c23b0:decide ((rd l1 x25_2)<(x6_2.length:Int))=true:=decide_eq_true c23
               clear c23
               obtain ⟨bq24,hbq24⟩:∃b_:Bool,b_=(rdOf false x6_2 (rd l1 x25_2)):=⟨_,rfl⟩
               replace H:(if bq24=true then (some (([]:List (S47)),1)) else (AU.l0 k2 l1 (x6_2.set ((rd l1 x25_2):Int).toNat true) l1 (l1.length:Int) (wrap64 (x25_2+1)) A8 l0_1))=some (r1,r2):=by rw [←hbq24] at H; exact H
               have Nbq24:=Aside0.mk hbq24
               clear hbq24
               by_cases c25:bq24=true
               ·subst c25
                have H1:(some (([]:List (S47)),1))=some (r1,r2):=by rw [if_pos rfl] at H; exact H
                clear H
                have H:=H1
                clear H1
                simp only [Option.some.injEq,Prod.mk.injEq] at H
                obtain ⟨rfl,rfl⟩:=H
                have p187:0≤(x25_2:Int):=of_decide_eq_true zC
                have q187:x25_2<(l1.length:Int):=of_decide_eq_true zC
                obtain ⟨ad187,e187,hx187_0⟩:=Kd.at_int HR1.out x25_2 p187 q187
                cases e187
                replace hx187_0:=(HB.out.cell (World.block_lt_of_cell? w _ hx187_0)).trans hx187_0
                replace p187:=eq_true p187
                replace q187:=eq_true q187
                obtain ⟨Ao26,co26,eo26⟩:=Kd.R_slice HO_6.out
                subst eo26
                have p188:0≤((rd l1 x25_2):Int):=of_decide_eq_true zC
                have q188:(rd l1 x25_2)<(x6_2.length:Int):=of_decide_eq_true zC
                obtain ⟨ad188,e188,hx188_0⟩:=Kd.at_bool (Kd.R_reads' HO_6.out).2.2 (rd l1 x25_2) p188 q188
                (try rw [←Nbq24.out] at hx188_0)
                cases e188
                replace p188:=eq_true p188
                replace q188:=eq_true q188
                go_wp2
                go_ret2
                exact ⟨_,by first|rfl|(simp [AY,AX]<;>rfl)|(simp [*,AY,AX]<;>rfl),by first|exact Kd.R_nil _ _ _ _ _|exact Kd.N_nil _ _ _ _ _|exact Kd.V_nil _ _ _ _ _|exact Kd.Q_nil _ _ _ _ _|exact Kd.S_nil _ _ _ _ _,by repeat (first|(with_reducible first|exact HB.out|apply AE|apply AC|apply AD|refine AH ?_ GE182.out)|exact HB.out)⟩
               ·replace c25:=Bool.eq_false_iff.mpr c25
                subst c25
                have H1:(AU.l0 k2 l1 (x6_2.set ((rd l1 x25_2):Int).toNat true) l1 (l1.length:Int) (wrap64 (x25_2+1)) A8 l0_1)=some (r1,r2):=by rw [if_neg (show ¬(false=true) by decide)] at H; exact H
                clear H
                have H:=H1
                clear H1
                obtain ⟨y189,hy189⟩:∃y_:List Bool,y_=(x6_2.set ((rd l1 x25_2):Int).toNat true):=⟨_,rfl⟩
                replace H:(AU.l0 k2 l1 y189 l1 (l1.length:Int) (wrap64 (x25_2+1)) A8 l0_1)=some (r1,r2):=by first|(rw [hy189]; with_reducible exact H)|(have H2_:=(Option.bind_some _ _).symm.trans H; rw [hy189]; with_reducible exact H2_)|(have H2_:=(Option.bind_some _ _).symm.trans H; with_reducible exact H2_)|with_reducible exact H|(rw [hy189]; exact H)|exact H
                have Ny189:=Aside0.mk hy189
                clear hy189
                have H':=Aside0.mk H
                clear H
                have p187:0≤(x25_2:Int):=of_decide_eq_true zC
                have q187:x25_2<(l1.length:Int):=of_decide_eq_true zC
                obtain ⟨ad187,e187,hx187_0⟩:=Kd.at_int HR1.out x25_2 p187 q187
                cases e187
                replace hx187_0:=(HB.out.cell (World.block_lt_of_cell? w _ hx187_0)).trans hx187_0
                replace p187:=eq_true p187
                replace q187:=eq_true q187
                obtain ⟨Ao28,co28,eo28⟩:=Kd.R_slice HO_6.out
                subst eo28
                have p188:0≤((rd l1 x25_2):Int):=of_decide_eq_true zC
                have q188:(rd l1 x25_2)<(x6_2.length:Int):=of_decide_eq_true zC
                obtain ⟨ad188,e188,hx188_0⟩:=Kd.at_bool (Kd.R_reads' HO_6.out).2.2 (rd l1 x25_2) p188 q188
                (try rw [←Nbq24.out] at hx188_0)
                cases e188
                replace p188:=eq_true p188
                replace q188:=eq_true q188
                have p27:0≤((rd l1 x25_2):Int):=of_decide_eq_true zC
                have q27:((rd l1 x25_2):Int)<((x6_2.length:Int):Int):=of_decide_eq_true zC
                obtain ⟨go27,co27,eo27,gb27,gl27,cl27,HG27⟩:=Kd.R_form HO_6.out zD
                (first|cases eo27|(injection eo27 with ea_ en_ ec_; (first|subst ea_|(injection ea_ with ea_; subst ea_)); subst ec_; clear en_))
                have GB27:=Aside0.mk gb27
                have GG27:=Aside0.mk HG27
                clear gb27 gl27 HG27
                (first|simp only [C9] at hx188_0|skip)
                obtain ⟨hx27_0,hf27_0⟩:=Kd.R_celln false HO_6.out ((rd l1 x25_2):Int) p27 q27
                replace p27:=eq_true p27
                replace q27:=eq_true q27
                have HP29:=Kd.R_putg HO_6.out ((rd l1 x25_2):Int) true
                go_wp2_with (first|((with_reducible refine Bg (t:=4) (p:=45) rfl ?_); refine Bc (t:=4) (p:=45) (v:= ?vo_w30) (w1:=(wr.setCell ⟨go27,((rd l1 x25_2):Int).toNat,none⟩ (.bool true))) ?hg ?ho ?hn ?hr ?_; (case ho=>rfl); (case hg=>rfl); (case hn=>rfl); (case hr=>first|(go_simp; done)|(go_simp; rfl)); intro w30 hw; have hg:wr.grownBy w30 (some go27):=(by rw [hw]; exact HP29.2); have hp_:Kd.R Kd.bool 4 w30 w.heap.size (fun _=>True) (.slice (some ⟨go27,0,none⟩) x6_2.length co28) y189:=(by rw [hw,Ny189.out]; exact HP29.1); clear HP29; have n0_:=Aside0.mk (hp_); have n1_:=Aside0.mk (BC (g:=gb182) (o:= .cells #[.int .i64 A8,.slice A0_1 l0_1.length c0_1] 34 (0,0)) (by (with_reducible repeat (first|refine AF ?_ _|refine AI ?_|refine AG ?_ _)); exact BK182.out) hg (Kd.R_ne HO_6.out BK182.out zX)); have n2_:=Aside0.mk ((by rw [hw]; exact AH (HB.out) GB27.out:Below w.heap.size w w30)); clear HO_6; clear BK182; clear HB; have HO_6:=n0_; have BK182:=n1_; have HB:=n2_; clear n0_ n1_ n2_; clear hg hw hp_))
                go_roundg k2
                case measure=>have:=HJ2.out; have:=HK2.out; omega
                case rel=>exact ⟨(y189),(wrap64 (x25_2+1)),zH,H',⟨by have:=HJ2.out; have:=HK2.out; omega⟩,⟨by (with_reducible repeat (first|apply Kd.R_alloc|apply Kd.R_drewN|apply Kd.R_drew)); exact HO_6.out⟩,⟨by (with_reducible repeat (first|refine AF ?_ _|refine AI ?_|refine AG ?_ _)); exact BK182.out⟩,⟨by repeat (first|(with_reducible first|exact HB.out|apply AE|apply AC|apply AD|refine AH ?_ GE182.out)|exact HB.out)⟩⟩
              ·rw [if_neg c23] at H
               exact absurd H zA1
             ·rw [if_neg c22] at H
              exact absurd H zA1
          ·rw [if_neg c19] at H
           exact absurd H zA1
         ·rw [if_neg c18] at H
          exact absurd H zA1
        ·rw [if_neg c17] at H
         have c17b0:decide (x25_2<(l1.length:Int))=false:=decide_eq_false c17
         clear c17
         replace H:=Option.bind_eq_some_iff.mp H
         obtain ⟨t190,A310,H⟩:=H
         replace H:(some (t190,0))=some (r1,r2):=H
         have A31:=Aside0.mk A310
         clear A310
         simp only [Option.some.injEq,Prod.mk.injEq] at H
         obtain ⟨rfl,rfl⟩:=H
         have hcz32_0:wr.cell? ⟨gb182,0,none⟩=some (.int .i64 A8):=(AK BK182.out 0).trans rfl
         have hcz32_1:wr.cell? ⟨gb182,1,none⟩=some (.slice A0_1 l0_1.length c0_1):=(AK BK182.out 1).trans rfl
         have hfz32_0:=AJ BK182.out 0
         have hfz32_1:=AJ BK182.out 1
         go_wp2_with (first|((with_reducible refine Ad (f:=31) rfl ?_); refine Ax (some 49) rfl rfl Try.func31 zF rfl #[.agg #[.int .i64 A8,.slice A0_1 l0_1.length c0_1],.slice A1 l1.length c1] rfl zB ?_; (with_reducible refine (AS.calls k2 A8 _ _ l0_1 _ _ l1 t190 _ ?side1 ?side2 ?side3 ?side4 A31.out).mono ?_); (case side1=>repeat (first|exact (Kd.C_below HR0_1.out HB.out)|(with_reducible refine Kd.C_alloc ?_ _)|(with_reducible refine Kd.C_drewN ?_ _)|(with_reducible refine Kd.C_drew ?_))); (case side2=>exact HC0_1.out); (case side3=>repeat (first|exact (Kd.C_below HR1.out HB.out)|(with_reducible refine Kd.C_alloc ?_ _)|(with_reducible refine Kd.C_drewN ?_ _)|(with_reducible refine Kd.C_drew ?_))); (case side4=>exact HC1.out); rintro e w33 ⟨v191,rfl,ho0,hb⟩; refine ⟨_,rfl,?_⟩; have n0_:=Aside0.mk (Kd.R_below (by (with_reducible repeat (first|apply Kd.R_alloc|apply Kd.R_drewN|apply Kd.R_drew)); exact HO_6.out) hb); have n1_:=Aside0.mk (Kd.R_lower ho0 (AP zA4)); have n2_:=Aside0.mk (AN (g:=gb182) (o:= .cells #[.int .i64 A8,.slice A0_1 l0_1.length c0_1] 34 (0,0)) (by (with_reducible repeat (first|refine AF ?_ _|refine AI ?_|refine AG ?_ _)); exact BK182.out) hb); have n3_:=Aside0.mk (AO zA4 hb); clear HO_6; clear BK182; clear HB; have HO_6:=n0_; have HO192:=n1_; have BK182:=n2_; have HB:=n3_; clear n0_ n1_ n2_ n3_; (try clear hb); (try clear hb2); (try clear hk); (try clear hi); (try clear ho0)))
         go_ret2
         exact ⟨_,by first|rfl|(simp [AY,AX]<;>rfl)|(simp [*,AY,AX]<;>rfl),by (with_reducible repeat (first|apply Kd.R_alloc|apply Kd.R_drewN|apply Kd.R_drew)); exact HO192.out,by repeat (first|(with_reducible first|exact HB.out|apply AE|apply AC|apply AD|refine AH ?_ GE182.out)|exact HB.out)⟩
     ·rw [if_neg c14] at H
      exact absurd H zA1
    ·rw [if_neg c13] at H
     exact absurd H zA1
end Go.Proofs.Ytdadecjefafflaa.PLst
end
