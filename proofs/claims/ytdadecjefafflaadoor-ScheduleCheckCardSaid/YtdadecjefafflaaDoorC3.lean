/- A part of what the law's proof leans on. PACKED BY pack.py of this repo. -/
import Derived.Test.YtdadecjefafflaaDoorC2
set_option linter.unusedVariables false
set_option linter.unusedSimpArgs false
set_option linter.defProp false
set_option linter.unusedSectionVars false
section
namespace Go.Proofs.YtdadecjefafflaaDoor.PChk
set_option maxRecDepth 100000
open Go.RowKit Go.Proofs.YtdadecjefafflaaDoorW.PrintWords Go.Proofs.YtdadecjefafflaaDoorW.PrintLast Go.Proofs.YtdadecjefafflaaDoorW.PrintMore
attribute [local go_sem] Ba BX Be Bd BS BR BZ BW
abbrev BSt:=List Int×Int×Bool
def Dw (k:Nat) (l:List Int) (ext:List Int→BSt→Option BSt):Nat→Nat→BSt→Option BSt
 |0,_,st=>some st
 |r+1,i,st=>(BD.f k l i).bind fun b=>if b=true then Dw k l ext r (i+1) st else (ext (l++[(i:Int)]) st).bind fun st'=>Dw k l ext r (i+1) st'
def bExt (k:Nat) (m:Int) (ts:List S49) (n:Int):Nat→List Int→BSt→Option BSt
 |0,_,_=>none
 | d+1,l,st=>if (l.length:Int)=n then (Ag.f k m ts l).bind fun s=>(Ae.f k m ts s).bind fun x=>if (!st.2.2||decide (x<st.2.1))=true then (BV.f l).bind fun y=>some (y,x,true) else some st
  else Dw k l (bExt k m ts n d) n.toNat 0 st
def DS (k:Nat) (m:Int) (ts:List S49) (n:Int) (d:Nat) (l:List Int) (i r:Nat) (st:BSt):Option BSt:=Dw k l (bExt k m ts n d) r i st
theorem Ci (k:Nat) (m:Int) (ts:List S49) (n:Int) (d:Nat) (l:List Int) (i:Nat) (st:BSt):DS k m ts n d l i 0 st=some st:=rfl
theorem Cj (k:Nat) (m:Int) (ts:List S49) (n:Int) (d:Nat) (l:List Int) (i r:Nat) (st:BSt):DS k m ts n d l i (r+1) st=(BD.f k l i).bind fun b=>if b=true then DS k m ts n d l (i+1) r st else (bExt k m ts n d (l++[(i:Int)]) st).bind fun st'=>DS k m ts n d l (i+1) r st':=rfl
structure BCtx where
 m:Int
 A:Option Addr
 c:Nat
 ts:List S49
 n:Int
 gn:Nat
 gp:Nat
 gf:Nat
 gl:Nat
 go:Nat
 ge:Nat
def BCtx.caps (X:BCtx):Array Value:= #[.pointer (some ⟨X.gn,0,none⟩),.pointer (some ⟨X.gp,0,none⟩),.pointer (some ⟨X.gf,0,none⟩),.pointer (some ⟨X.gl,0,none⟩),.pointer (some ⟨X.go,0,none⟩),.pointer (some ⟨X.ge,0,none⟩)]
structure BInv (X:BCtx) (w0 W:World) (st:BSt):Prop where
 n:W.heap[X.gn]? =some (.cells #[.int .i64 X.n] 3 (0,0))
 p:W.heap[X.gp]? =some (.cells #[.int .i64 X.m,.slice X.A X.ts.length X.c] 33 (0,0))
 f:W.heap[X.gf]? =some (.cells #[.bool st.2.2] 4 (0,0))
 l:W.heap[X.gl]? =some (.cells #[.int .i64 st.2.1] 3 (0,0))
 o:∃vo,W.heap[X.go]? =some (.cells #[vo] 47 (0,0))∧Kd.R (Kd.int .i64) 3 W w0.heap.size (fun k=>k≠X.gn∧k≠X.gl) vo st.1
 e:W.heap[X.ge]? =some (.cells #[.func (.func 40) #[] X.caps] 77 (0,0))
 b:Below w0.heap.size w0 W
 nl:X.gn≠X.gl
 bf:w0.heap.size≤X.gf
 bl:w0.heap.size≤X.gl
 bo:w0.heap.size≤X.go
 ts:Kd.C k49 w0 X.A X.ts.length X.ts
 tc:X.ts.length≤X.c
def BCtx.S (X:BCtx) (k:Nat):Prop:=k=X.gf∨k=X.gl∨k=X.go
theorem BInv.below {X:BCtx} {w0 W V:World} {st:BSt} (h:BInv X w0 W st) (hb:Below W.heap.size W V):BInv X w0 V st:=by
 obtain ⟨vo,ho1,ho2⟩:=h.o
 exact ⟨AP h.n hb,AP h.p hb,AP h.f hb,AP h.l hb,⟨vo,AP ho1 hb,Kd.R_below ho2 hb⟩,AP h.e hb,C5 h.b h.b.size hb,h.nl,h.bf,h.bl,h.bo,h.ts,h.tc⟩
structure BL (X:BCtx) (W:World) (A:Option Addr) (c:Nat) (l:List Int):Prop where
 r:Kd.C (Kd.int .i64) W A l.length l
 cc:l.length≤c
 z:l.length=0→A=none∧c=0
 k:∀ad,A=some ad→¬X.S ad.block
theorem BL.kept {X:BCtx} {W V:World} {A:Option Addr} {c:Nat} {l:List Int} (h:BL X W A c l) (hk:Kept W V X.S):BL X V A c l:=
 ⟨Kd.C_foot_neS (fun h=>h) h.r (fun ad he _=>h.k ad he) V hk,h.cc,h.z,h.k⟩
theorem CU {W:World} {a b:Nat} {ca cb:Array Value} {ta tb:TypeId} (h1:W.heap[a]? =some (.cells ca ta (0,0))) (h2:W.heap[b]? =some (.cells cb tb (0,0))) (ht:ta≠tb):a≠b:=fun e=>by
 subst e; rw [h1] at h2; injection h2 with h2; injection h2 with _ h3; exact ht h3
theorem BInv.ne {X:BCtx} {w0 W:World} {st:BSt} (h:BInv X w0 W st):X.gf≠X.go∧X.gf≠X.gl∧X.gl≠X.go:=by
 obtain ⟨vo,ho1,ho2⟩:=h.o
 exact ⟨CU h.f ho1 zA2,CU h.f h.l zA2,CU h.l ho1 zA2⟩
theorem BInv.put {X:BCtx} {w0 W:World} {st:BSt} (h:BInv X w0 W st) {vy:Value} {y:List Int} (x:Int) (hy:Kd.R (Kd.int .i64) 3 W w0.heap.size (fun k=>k≠X.gn∧k≠X.gl∧k≠X.gf∧k≠X.go) vy y):
  BInv X w0 (((W.setCell ⟨X.go,0,none⟩ vy).setCell ⟨X.gl,0,none⟩ (.int .i64 x)).setCell ⟨X.gf,0,none⟩ (.bool true)) (y,x,true)∧Kept W (((W.setCell ⟨X.go,0,none⟩ vy).setCell ⟨X.gl,0,none⟩ (.int .i64 x)).setCell ⟨X.gf,0,none⟩ (.bool true)) X.S:=by
 obtain ⟨vo,ho1,ho2⟩:=h.o
 have hne:∀ {a b:Nat} {ca cb:Array Value} {ta tb:TypeId},W.heap[a]? =some (.cells ca ta (0,0))→W.heap[b]? =some (.cells cb tb (0,0))→ta≠tb→a≠b:=fun h1 h2 ht e=>by
  subst e; rw [h1] at h2; injection h2 with h2; injection h2 with _ h3; exact ht h3
 have e1:=hne h.n h.f zA2; have e2:=hne h.n ho1 zA2; have e3:=h.nl
 have e4:=hne h.p h.f zA2; have e5:=hne h.p ho1 zA2; have e6:=hne h.p h.l zA2
 have e7:=hne h.e h.f zA2; have e8:=hne h.e ho1 zA2; have e9:=hne h.e h.l zA2
 have f1:=hne h.f ho1 zA2; have f2:=hne h.f h.l zA2; have f3:=hne h.l ho1 zA2
 refine ⟨⟨?_,?_,?_,?_,⟨vy,?_,?_⟩,?_,?_,h.nl,h.bf,h.bl,h.bo,h.ts,h.tc⟩,?_⟩
 ·exact Aa (Aa (Aa h.n e2 _) e3 _) e1 _
 ·exact Aa (Aa (Aa h.p e5 _) e6 _) e4 _
 ·exact Am (cs:= #[.bool st.2.2]) (Aa (Aa h.f f1 _) f2 _) 0 _ rfl
 ·exact Aa (Am (cs:= #[.int .i64 st.2.1]) (Aa h.l f3 _) 0 _ rfl) (fun e=>f2 e.symm) _
 ·exact Aa (Aa (Am (cs:= #[vo]) ho1 0 _ rfl) (fun e=>f3 e.symm) _) (fun e=>f1 e.symm) _
 ·exact Kd.R_mono (Kd.R_far (p:=⟨X.gf,0,none⟩) (Kd.R_far (p:=⟨X.gl,0,none⟩) (Kd.R_far (p:=⟨X.go,0,none⟩) hy (fun k hk=>hk.2.2.2) vy) (fun k hk=>hk.2.1) _) (fun k hk=>hk.2.2.1) _) (fun k hk=>⟨hk.1,hk.2.1⟩)
 ·exact Aa (Aa (Aa h.e e8 _) e9 _) e7 _
 ·exact AI (AI (AI h.b h.bo) h.bl) h.bf
 ·exact Kept.setCell (Kept.setCell (Kept.setCell (Kept.refl W _) (.inl (.inr (.inr rfl))) _) (.inl (.inr (.inl rfl))) _) (.inl (.inl rfl)) _
def bLeaf (k:Nat) (m:Int) (ts:List S49) (l:List Int) (st:BSt):Option BSt:=(Ag.f k m ts l).bind fun s=>(Ae.f k m ts s).bind fun x=>if (!st.2.2||decide (x<st.2.1))=true then (BV.f l).bind fun y=>some (y,x,true) else some st
set_option maxHeartbeats 8000000 in
theorem FJ (X:BCtx) (w0 W:World) (k:Nat) (l:List Int) (A:Option Addr) (c:Nat) (st st':BSt) (hI:BInv X w0 W st) (hL:BL X W A c l) (hn:(l.length:Int)=X.n) (h:bLeaf k X.m X.ts l st=some st'):
  Calls Tryd.prog 40 (#[.slice A l.length c]++X.caps) W fun e w'=>e= .returned (.tuple #[])∧BInv X w0 w' st'∧Kept W w' X.S:=by
 show Calls Tryd.prog 40 #[.slice A l.length c,.pointer (some ⟨X.gn,0,none⟩),.pointer (some ⟨X.gp,0,none⟩),.pointer (some ⟨X.gf,0,none⟩),.pointer (some ⟨X.gl,0,none⟩),.pointer (some ⟨X.go,0,none⟩),.pointer (some ⟨X.ge,0,none⟩)] W _
 unfold bLeaf at h
 rw [Option.bind_eq_some_iff] at h
 obtain ⟨s,hs,h⟩:=h
 rw [Option.bind_eq_some_iff] at h
 obtain ⟨x,hx,h⟩:=h
 have HI:=yA hI
 have HL:=yA hL
 have HS:=yA hs
 have HX:=yA hx
 have HH:=yA h
 have n0:W.cell? ⟨X.gn,0,none⟩=some (.int .i64 X.n):=(AK hI.n 0).trans rfl
 have c1:((l.length:Int)==X.n)=true:=beq_iff_eq.mpr hn
 clear hI hL hs hx h hn
 go_enter Tryd.func40,Tryd.ntmps40
 go_wp2
 refine Bp (n:=6) (S:=fun w'=>w'.cell? ⟨X.gp,0,none⟩=some (.int .i64 X.m)∧w'.cell? ⟨X.gp,1,none⟩=some (.slice X.A X.ts.length X.c)) (ds:=[]) #[false,false,false,false,false,false] zE rfl rfl ⟨(AK HI.out.p 0).trans rfl,(AK HI.out.p 1).trans rfl⟩ (fun hHeld=> ?_)
 have HI1:=yA (HI.out.below (AD (Below.refl _ _)))
 have HK:=yA (Kept.drew (Kept.refl W X.S))
 clear n0
 generalize W.drew=W1 at hHeld HI1 HK ⊢
 refine AX (i:=2) (N:=some 16) (v:= ?_) (a':= ?_) #[false,false,true,false,false,false] rfl rfl zE (fun _ _ _ h=>h) (Or.inl ⟨by rfl,?_⟩) ?_ ?_; rotate_left; intro w'; go_simp; with_reducible rfl; rotate_left; exact yB
 refine BK (i:=0) (N:=some 14) (v:= ?_) (a':= ?_) #[true,false,true,false,false,false] rfl rfl zE (fun _ _ _ h=>h) (Or.inl ⟨by rfl,?_⟩) hHeld ?_ ?_; rotate_left; rintro w' ⟨s0,s1⟩; go_simp; with_reducible rfl; rotate_left; exact yB
 refine BK (i:=1) (N:=some 15) (v:= ?_) (a':= ?_) #[true,true,true,false,false,false] rfl rfl zE (fun _ _ _ h=>h) (Or.inl ⟨by rfl,?_⟩) hHeld ?_ ?_; rotate_left; rintro w' ⟨s0,s1⟩; go_simp; with_reducible rfl; rotate_left; exact yB
 refine one_ (i:=3) (N:=some 17) #[true,true,true,true,false,false] rfl rfl zE zA2 (fun K hK=> ?_)
 refine C1 Tryd.func38 zE rfl #[.agg #[.int .i64 X.m,.slice X.A X.ts.length X.c],.slice A l.length c] (by rfl) rfl rfl (by (try simp only [List.map_toArray,List.map_cons,List.map_nil]); first|done|rfl) ?_
 refine (Ag.calls k X.m X.A X.c X.ts A c l s W1 (Kd.C_below HI.out.ts HI1.out.b) HI.out.tc (HL.out.kept HK.out).r HL.out.cc HS.out).mono ?_
 rintro e W2 ⟨v1,rfl,ho,hb⟩
 refine ⟨_,rfl,?_⟩
 have HI2:=yA (HI1.out.below hb)
 have HK2:=yA (HK.out.below hb)
 have HO:=yA ho
 clear hb ho
 refine hK.out _ _ ⟨(AK HI2.out.p 0).trans rfl,(AK HI2.out.p 1).trans rfl⟩ (fun hHeld=> ?_)
 clear hK K
 refine Bq (a':= ?_) ?_ ?_; rotate_left; show Act.put _ (some 17) _=_; exact yB
 obtain ⟨As,cs,es⟩:=Kd.R_slice HO.out
 subst es
 refine one_ (i:=4) (N:=some 18) #[true,true,true,true,true,false] rfl rfl zE zA2 (fun K hK=> ?_)
 refine C1 Tryd.func23 zE rfl #[.agg #[.int .i64 X.m,.slice X.A X.ts.length X.c],.slice As s.length cs] (by rfl) rfl rfl (by (try simp only [List.map_toArray,List.map_cons,List.map_nil]); first|done|rfl) ?_
 refine (Ae.calls k X.m X.A X.c X.ts As cs s x W2 (Kd.C_below HI.out.ts HI2.out.b) HI.out.tc (Kd.R_reads' HO.out).2.2 (Kd.R_reads' HO.out).2.1 HX.out).mono ?_
 rintro e W3 ⟨rfl,hb⟩
 refine ⟨_,rfl,?_⟩
 have HI3:=yA (HI2.out.below hb)
 have HK3:=yA (HK2.out.below hb)
 clear hb
 refine hK.out _ _ ⟨(AK HI3.out.p 0).trans rfl,(AK HI3.out.p 1).trans rfl⟩ (fun hHeld=> ?_)
 clear hK K
 refine Bq (a':= ?_) ?_ ?_; rotate_left; show Act.put _ (some 18) _=_; exact yB
 refine AX (i:=5) (N:=some 8) (v:= ?_) (a':= ?_) #[true,true,true,true,true,true] rfl rfl zE (fun _ _ _ h=>h) (Or.inl ⟨by rfl,?_⟩) ?_ ?_; rotate_left; intro w'; go_simp; with_reducible rfl; rotate_left; exact yB
 refine C7 zE ?_
 clear HI1 HI2 HK HK2 HO
 have f0:W3.cell? ⟨X.gf,0,none⟩=some (.bool st.2.2):=(AK HI3.out.f 0).trans rfl
 have l0:W3.cell? ⟨X.gl,0,none⟩=some (.int .i64 st.2.1):=(AK HI3.out.l 0).trans rfl
 have HI3':=HI3
 by_cases hf:(!st.2.2||decide (x<st.2.1))=true
 ·have hh:=HH.out
  rw [if_pos hf,Option.bind_eq_some_iff] at hh
  obtain ⟨y,hy,hst⟩:=hh
  cases hst
  have HY:=yA hy
  clear HH hy
  cases h1:st.2.2 with
  | false=>
   rw [h1] at f0
   clear hf
   go_wp2_with (first|(go_at_call 41; (refine (BV.calls A c l y _ (HL.out.kept HK3.out).r HL.out.cc HY.out (fun h=>(HL.out.z h).1)).mono ?_); rintro e W4 ⟨v2,rfl,ho,hb⟩; have HI4:=yA (HI3.out.below hb); have HK4:=yA (HK3.out.below hb); have HO:=yA ho; clear hb ho HI3 f0 l0; obtain ⟨Ay,cy,ey⟩:=Kd.R_slice HO.out; subst ey; obtain ⟨vo,ho1,ho2⟩:=HI4.out.o; have f1:W4.cell? ⟨X.gf,0,none⟩=some (.bool st.2.2):=(AK HI4.out.f 0).trans rfl; have l1:W4.cell? ⟨X.gl,0,none⟩=some (.int .i64 st.2.1):=(AK HI4.out.l 0).trans rfl; have o1:W4.cell? ⟨X.go,0,none⟩=some vo:=(AK ho1 0).trans rfl; have ff:=AJ HI4.out.f 0; have fl:=AJ HI4.out.l 0; have fo:=AJ ho1 0; obtain ⟨d1,d2,d3⟩:=HI4.out.ne; have d4:=d1.symm; have d5:=d2.symm; have d6:=d3.symm))
   refine bodyPost_ret (results_none rfl _ _ _) rfl ?_
   obtain ⟨vo3,ho3,_⟩:=HI3'.out.o
   have q1:=B0 HI3'.out.n; have q2:=B0 HI3'.out.l; have q3:=B0 HI3'.out.f; have q4:=B0 ho3
   obtain ⟨z1,z2⟩:=HI4.out.put (y:=y) x (Kd.R_lower (Kd.R_mono (Kd.R_bound HO.out) (fun k hk=>⟨by have:=hk.2.1; omega,by have:=hk.2.1; omega,by have:=hk.2.1; omega,by have:=hk.2.1; omega⟩)) HI3'.out.b.size)
   exact ⟨rfl,z1,HK4.out.then_ z2 (fun _ h=> .inl h)⟩
  | true=>
   rw [h1] at f0 hf
   have hf:decide (x<st.2.1)=true:=by simpa using hf
   go_wp2_with (first|(go_at_call 41; (refine (BV.calls A c l y _ (HL.out.kept HK3.out).r HL.out.cc HY.out (fun h=>(HL.out.z h).1)).mono ?_); rintro e W4 ⟨v2,rfl,ho,hb⟩; have HI4:=yA (HI3.out.below hb); have HK4:=yA (HK3.out.below hb); have HO:=yA ho; clear hb ho HI3 f0 l0; obtain ⟨Ay,cy,ey⟩:=Kd.R_slice HO.out; subst ey; obtain ⟨vo,ho1,ho2⟩:=HI4.out.o; have f1:W4.cell? ⟨X.gf,0,none⟩=some (.bool st.2.2):=(AK HI4.out.f 0).trans rfl; have l1:W4.cell? ⟨X.gl,0,none⟩=some (.int .i64 st.2.1):=(AK HI4.out.l 0).trans rfl; have o1:W4.cell? ⟨X.go,0,none⟩=some vo:=(AK ho1 0).trans rfl; have ff:=AJ HI4.out.f 0; have fl:=AJ HI4.out.l 0; have fo:=AJ ho1 0; obtain ⟨d1,d2,d3⟩:=HI4.out.ne; have d4:=d1.symm; have d5:=d2.symm; have d6:=d3.symm))
   refine bodyPost_ret (results_none rfl _ _ _) rfl ?_
   obtain ⟨vo3,ho3,_⟩:=HI3'.out.o
   have q1:=B0 HI3'.out.n; have q2:=B0 HI3'.out.l; have q3:=B0 HI3'.out.f; have q4:=B0 ho3
   obtain ⟨z1,z2⟩:=HI4.out.put (y:=y) x (Kd.R_lower (Kd.R_mono (Kd.R_bound HO.out) (fun k hk=>⟨by have:=hk.2.1; omega,by have:=hk.2.1; omega,by have:=hk.2.1; omega,by have:=hk.2.1; omega⟩)) HI3'.out.b.size)
   exact ⟨rfl,z1,HK4.out.then_ z2 (fun _ h=> .inl h)⟩
 ·have hh:=HH.out
  rw [if_neg hf] at hh
  cases hh
  clear HH
  have h1:st.2.2=true:=by
   cases h:st.2.2 with
   |true=>rfl
   |false=>exact absurd (by rw [h]; rfl) hf
  have h2:decide (x<st.2.1)=false:=by
   cases h:decide (x<st.2.1) with
   |false=>rfl
   |true=>exact absurd (by rw [h,Bool.or_true]) hf
  rw [h1] at f0
  clear hf
  go_wp2
  refine bodyPost_ret (results_none rfl _ _ _) rfl ?_
  exact ⟨rfl,HI3'.out,HK3.out⟩
section
variable {P:Program} {ops:Array Oper} {o:Oper} {a:Act} {Q:Exit→Act→World→Prop} {Kc:Act→World→Prop}
theorem Fh (l:List Int) (A:Option Addr) (W:World) (g:Nat) (i:Int) (hr:Kd.C (Kd.int .i64) W A l.length l) (hz:l.length=0→A=none) (s x:Operand)
  (hw:Region.wanted o (yielded ops a.tmps)=true) (ho:o.op= .call {callee:= .builtin .append,args:= #[s,x],argTypes:= #[47,47]})
  (hs:a.eval s= .slice A l.length l.length) (hx:a.eval x= .slice (some ⟨g,0,none⟩) 1 1) (hc:W.cell? ⟨g,0,none⟩=some (.int .i64 i)) (hm:l.length≤1000000)
  (h:∀v w',Kd.R (Kd.int .i64) 3 w' W.heap.size (fun _=>True) v (l++[i])→W.grownBy w' none→Kc (a.put o.dst v) w'):
  if Region.wanted o (yielded ops a.tmps)=true then Oper.wp Tryd.prog o a W Kc Q else Kc (a.put o.dst undef) W:=by
 obtain ⟨i0,hi0,hz0,hs0,hb0⟩:=info_parts info3
 have hnews:∀j u,([Value.int .i64 i]:List Value)[j]? =some u→W.cell? ((⟨g,0,none⟩:Addr).add j)=some u:=fun j u hj=>by
  cases j with
  |zero=>simp only [List.getElem?_cons_zero,Option.some.injEq] at hj; subst hj; rw [CO]; exact hc
  |succ j=>simp at hj
 have hfin:∀v w',w'.ownsRow W.heap.size 3 1 v (l.length+1) (nums .i64 l++[Value.int .i64 i])→Kd.R (Kd.int .i64) 3 w' W.heap.size (fun _=>True) v (l++[i]):=fun v w' hh=>
  Kd.R_of_own (by simpa [encs,nums] using hh) (fun _ _=>trivial)
 rcases Nat.eq_zero_or_pos l.length with h0|h0
 ·obtain rfl:=hz h0
  obtain rfl:l=[]:=List.eq_nil_of_length_eq_zero h0
  obtain ⟨v',w',hrun,r1,r2,_⟩:=run_append_own (P:=Tryd.prog) W W.heap.size 47 o.type 3 i0 (.int .i64 0) 1 8 Tryd.underlying47 hi0 hz0 hs0 hb0 rfl zA2 (.slice none 0 0) 0 [] (World.ownsRow_nil W _ 3 1) ⟨g,0,none⟩ 1 1 [.int .i64 i] rfl hnews (by intro u hu; simp only [List.mem_singleton] at hu; subst hu; rfl) zA2 zA2 (Nat.le_refl _)
  refine DQ hw (w1:=w') (v:=v') ?_ (h v' w' (hfin v' w' (by simpa [nums] using r1)) (by simpa [Value.ownBlock] using r2))
  have hs2:a.eval s= .slice none 0 0:=hs
  simp [execOp,ho,resolve,invoke,builtin,hs2,hx,hrun,Result.andThen]
 ·obtain ⟨ad,rfl,hcell⟩:=(Kd.reads_of_C (enc:=Value.int .i64) (d:=(0:Int)) (h1:=fun _=>rfl) hr).2.2 h0
  obtain ⟨v',w',hrun,r1,r2⟩:=run_append_arg_grows (P:=Tryd.prog) (w:=W) 47 o.type 3 i0 (.int .i64 0) 1 8 Tryd.underlying47 hi0 hz0 hs0 hb0 rfl zA2 ad l.length l.length (nums .i64 l) (by rw [D4,Nat.mul_one]) (fun j u hj=>by
   have hl:j<l.length:=by have:=(List.getElem?_eq_some_iff.1 hj).1; rwa [D4] at this
   rw [hcell j hl]; simpa [nums,List.getD_eq_getElem?_getD,hl] using hj) ⟨g,0,none⟩ 1 1 [.int .i64 i] rfl hnews zI (by simp only [maxLen]; omega) zI
  refine DQ hw (w1:=w') (v:=v') ?_ (h v' w' (hfin v' w' r1) r2)
  simp [execOp,ho,resolve,invoke,builtin,hs,hx,hrun,Result.andThen]
end
theorem BL.new {X:BCtx} {w0 W V:World} {st:BSt} {l:List Int} {x:Int} {A:Option Addr} {c:Nat} (h:BInv X w0 W st) (ho:Kd.R (Kd.int .i64) 3 V W.heap.size (fun _=>True) (.slice A (l++[x]).length c) (l++[x])):BL X V A c (l++[x]):=by
 have h1:=Kd.R_reads' ho
 refine ⟨h1.2.2,h1.2.1,fun h=>by simp at h,fun ad he=> ?_⟩
 subst he
 obtain ⟨g,cg,eg,gb,_⟩:=Kd.R_form ho zA6
 obtain ⟨vo,ho1,_⟩:=h.o
 have q1:=B0 h.f; have q2:=B0 h.l; have q3:=B0 ho1
 injection eg with e1 e2 e3
 injection e1 with e1
 subst e1
 rintro (h|h|h)<;>(simp only at h; omega)
set_option maxHeartbeats 8000000 in
theorem EG (X:BCtx) (w0:World) (k:Nat) (hn0:0≤X.n) (hn1:X.n≤1000):∀(d:Nat) (l:List Int) (A:Option Addr) (c:Nat) (st st':BSt) (W:World),BInv X w0 W st→BL X W A c l→l.length+d≤100000→bExt k X.m X.ts X.n d l st=some st'→
  Calls Tryd.prog 40 (#[.slice A l.length c]++X.caps) W fun e w'=>e= .returned (.tuple #[])∧BInv X w0 w' st'∧Kept W w' X.S
 |0,l,A,c,st,st',W,hI,hL,hm,h=>by simp [bExt] at h
 | d + 1, l, A,c,st,st',W,hI,hL,hm,h=>by
  have ih:=EG X w0 k hn0 hn1 d
  rw [bExt] at h
  by_cases hn:(l.length:Int)=X.n
  ·rw [if_pos hn] at h
   exact FJ X w0 W k l A c st st' hI hL hn h
  ·rw [if_neg hn] at h
   show Calls Tryd.prog 40 #[.slice A l.length c,.pointer (some ⟨X.gn,0,none⟩),.pointer (some ⟨X.gp,0,none⟩),.pointer (some ⟨X.gf,0,none⟩),.pointer (some ⟨X.gl,0,none⟩),.pointer (some ⟨X.go,0,none⟩),.pointer (some ⟨X.ge,0,none⟩)] W _
   have HI:=yA hI
   have HL:=yA hL
   have HM:=yA (show l.length≤1000000 by omega)
   have HM2:=yA (show (l.length+1)+d≤100000 by omega)
   have HH:=yA h
   have HN:=yA hn1
   have HN0:=yA hn0
   have n0:W.cell? ⟨X.gn,0,none⟩=some (.int .i64 X.n):=(AK hI.n 0).trans rfl
   have c1:((l.length:Int)==X.n)=false:=beq_eq_false_iff_ne.mpr hn
   clear hI hL hm h hn hn0 hn1
   go_enter Tryd.func40,Tryd.ntmps40
   go_wp2
   go_loopg [9,30] X.n.toNat (fun gg v9 v30 w'=>∃(i:Nat) (st1:BSt),v30= .int .i64 (i:Int)∧Aside0 (DS k X.m X.ts X.n d l i (X.n.toNat-i) st1=some st')∧Aside0 (i≤X.n.toNat)∧Aside0 (X.n.toNat-i≤gg)∧Aside0 (BInv X w0 w' st1)∧Aside0 (Kept W w' X.S))
   case atStart=>exact ⟨0,st,rfl,⟨HH.out⟩,⟨Nat.zero_le _⟩,⟨by omega⟩,⟨HI.out⟩,⟨Kept.refl _ _⟩⟩
   case round=>
    clear HI HH n0
    obtain ⟨i,st1,rfl,HA,H1,H2,HI,HK⟩:=hrel
    by_cases c2:(i:Int)<X.n
    ·have c2b:decide ((i:Int)<X.n)=true:=decide_eq_true c2
     have ha:=HA.out
     have hlt:i<X.n.toNat:=by omega
     rw [show X.n.toNat-i=(X.n.toNat-(i+1))+1 by omega,Cj,Option.bind_eq_some_iff] at ha
     obtain ⟨b,hb1,hb2⟩:=ha
     have HC:=yA hb1
     clear HA c2
     cases b with
     | true=>
      rw [if_pos rfl] at hb2
      have HA:=yA hb2
      clear hb1 hb2
      go_wp2_with (first|(go_at_call 42; (with_reducible refine (BD.calls k A c l i true _ (HL.out.kept HK.out).r HL.out.cc HC.out).mono ?_); rintro e w' ⟨rfl,hd⟩; have HI1:=yA (HI.out.below hd.below); have HK1:=yA (HK.out.below hd.below); clear hd))
      go_roundg (X.n.toNat-(i+1))
      case measure=>have:=H2.out; omega
      case rel=>exact ⟨i+1,st1,by have:=HN.out; rw [show wrap64 ((i:Int)+1)=((i+1:Nat):Int) from by unfold wrap64; omega],HA,⟨by omega⟩,⟨by omega⟩,HI1,HK1⟩
     | false=>
      rw [if_neg zA6,Option.bind_eq_some_iff] at hb2
      obtain ⟨st2,hr1,hr2⟩:=hb2
      have HR2:=yA hr1
      have HA:=yA hr2
      clear hb1 hr1 hr2
      go_wp2_with (first|(go_at_call 42; (with_reducible refine (BD.calls k A c l i false _ (HL.out.kept HK.out).r HL.out.cc HC.out).mono ?_); rintro e Wc ⟨rfl,hd⟩; have HI1:=yA (HI.out.below hd.below); have HK1:=yA (HK.out.below hd.below); clear hd HI HK))
      refine Bp (n:=11) (S:=fun w'=>w'.cell? ⟨X.ge,0,none⟩=some (.func (.func 40) #[] X.caps)) (ds:=[]) #[false,false,false,false,false,false,false,false,false,false,false] zE rfl rfl ((AK HI1.out.e 0).trans rfl) (fun hHeld=> ?_)
      have HI2:=yA (HI1.out.below (AD (Below.refl _ _)))
      have HK2:=yA (Kept.drew HK1.out)
      clear HI1 HK1
      generalize Wc.drew=W2 at hHeld HI2 HK2 ⊢
      refine AX (i:=1) (N:=some 38) (v:= ?_) (a':= ?_) #[false,true,false,false,false,false,false,false,false,false,false] rfl rfl zE (fun _ _ _ h=>h) (Or.inl ⟨by rfl,?_⟩) ?_ ?_; rotate_left; intro w'; go_simp; with_reducible rfl; rotate_left; exact yB
      refine AX (i:=2) (N:=some 39) (v:= ?_) (a':= ?_) #[false,true,true,false,false,false,false,false,false,false,false] rfl rfl zE (fun _ _ _ h=>h) (Or.inl ⟨by rfl,?_⟩) ?_ ?_; rotate_left; intro w'; go_simp; with_reducible rfl; rotate_left; exact yB
      refine AX (i:=4) (N:=some 41) (v:= ?_) (a':= ?_) #[false,true,true,false,true,false,false,false,false,false,false] rfl rfl zE (fun _ _ _ h=>h) (Or.inl ⟨by rfl,?_⟩) ?_ ?_; rotate_left; intro w'; go_simp; with_reducible rfl; rotate_left; exact yB
      refine AX (i:=7) (N:=some 44) (v:= ?_) (a':= ?_) #[false,true,true,false,true,false,false,true,false,false,false] rfl rfl zE (fun _ _ _ h=>h) (Or.inl ⟨by rfl,?_⟩) ?_ ?_; rotate_left; intro w'; go_simp; with_reducible rfl; rotate_left; exact yB
      refine AX (i:=3) (N:=some 40) (v:= ?_) (a':= ?_) #[false,true,true,true,true,false,false,true,false,false,false] rfl rfl zE (fun _ _ _ h=>h) (Or.inl ⟨by rfl,?_⟩) ?_ ?_; rotate_left; intro w'; go_simp; with_reducible rfl; rotate_left; exact yB
      refine AX (i:=5) (N:=some 42) (v:= ?_) (a':= ?_) #[false,true,true,true,true,true,false,true,false,false,false] rfl rfl zE (fun _ _ _ h=>h) (Or.inl ⟨by rfl,?_⟩) ?_ ?_; rotate_left; intro w'; go_simp; with_reducible rfl; rotate_left; exact yB
      refine BK (i:=0) (N:=some 37) (v:= ?_) (a':= ?_) #[true,true,true,true,true,true,false,true,false,false,false] rfl rfl zE (fun _ _ _ h=>h) (Or.inl ⟨by rfl,?_⟩) hHeld ?_ ?_; rotate_left; rintro w' s0; go_simp; with_reducible rfl; rotate_left; exact yB
      have hcc:=eq_true HL.out.cc
      have hA:Option.map (fun x:Addr=>x.add 0) A=A:=by cases A<;>simp [Addr.add]
      refine AX (i:=6) (N:=some 43) (v:= .slice A l.length l.length) (a':= ?_) #[true,true,true,true,true,true,true,true,false,false,false] rfl rfl zE (fun _ _ _ h=>h) (Or.inl ⟨by rfl,?_⟩) ?_ ?_
      ·intro w'
       go_simp
      rotate_left
      ·exact yB
      refine one_ (i:=8) (N:=some 45) #[true,true,true,true,true,true,true,true,true,false,false] rfl rfl zE zA2 (fun K hK=> ?_)
      refine FL (v:= .slice (some ⟨W2.heap.size,0,none⟩) 1 1) (w1:=W2.alloc (.cells #[.int .i64 (i:Int)] 3)) (by rfl) rfl ?_ ?_
      ·first|(go_simp; done)|(go_simp; rfl)
      have HI3:=yA (HI2.out.below (AE (Below.refl _ _) (.cells #[.int .i64 (i:Int)] 3)))
      have HK3:=yA (HK2.out.alloc (.cells #[.int .i64 (i:Int)] 3))
      have hcell:(W2.alloc (.cells #[.int .i64 (i:Int)] 3)).cell? ⟨W2.heap.size,0,none⟩=some (.int .i64 (i:Int)):=by simp
      refine hK.out _ _ ((AK HI3.out.e 0).trans rfl) (fun hHeld=> ?_)
      clear hK K HI2 HK2
      refine Bq (a':= ?_) ?_ ?_; rotate_left; show Act.put _ (some 45) _=_; exact yB
      generalize W2.alloc (.cells #[.int .i64 (i:Int)] 3)=W3 at hHeld HI3 HK3 hcell ⊢
      refine one_ (i:=9) (N:=some 46) #[true,true,true,true,true,true,true,true,true,true,false] rfl rfl zE zA2 (fun K hK=> ?_)
      refine Fh l A W3 _ i (HL.out.kept HK3.out).r (fun h=>(HL.out.z h).1) (.tmp 43) (.tmp 45) (by rfl) rfl rfl rfl hcell HM.out (fun v4 W4 ho hg=> ?_)
      have hb:Below W3.heap.size W3 W4:=⟨hg.os,hg.tape,hg.output,hg.size,fun j hj=>hg.block j hj zA6⟩
      have HI4:=yA (HI3.out.below hb)
      have HK4:=yA (HK3.out.below hb)
      have HO:=yA ho
      have HB4:=yA hb
      clear hb ho hg
      refine hK.out _ _ ((AK HI4.out.e 0).trans rfl) (fun hHeld=> ?_)
      clear hK K
      refine Bq (a':= ?_) ?_ ?_; rotate_left; show Act.put _ (some 46) _=_; exact yB
      obtain ⟨A4,c4,e4⟩:=Kd.R_slice HO.out
      subst e4
      refine one_ (i:=10) (N:=some 47) #[true,true,true,true,true,true,true,true,true,true,true] rfl rfl zE zA2 (fun K hK=> ?_)
      have hq:=ih (l++[(i:Int)]) A4 c4 st1 st2 W4 HI4.out (BL.new HI3.out HO.out) (by have:=HM2.out; simp only [List.length_append,List.length_cons,List.length_nil]; omega) HR2.out
      have he:=DC Tryd.func40 zE rfl (#[.slice A4 (l++[(i:Int)]).length c4]++X.caps) W4
      refine call_ 40 (#[.slice A4 (l++[(i:Int)]).length c4]++X.caps) (by rfl) rfl (by unfold execOp; simp [resolve,Deferred.ofValue,invoke,Act.eval,he]) ?_
      refine hq.mono ?_
      rintro e W5 ⟨rfl,hI5,hK5⟩
      refine ⟨_,rfl,?_⟩
      have HI5:=yA hI5
      have HK5:=yA (HK4.out.then_ hK5 (fun _ h=> .inl h))
      clear hI5 hK5 hq he
      refine hK.out _ _ ((AK HI5.out.e 0).trans rfl) (fun hHeld=> ?_)
      clear hK K
      refine Bq (a':= ?_) ?_ ?_; rotate_left; show Act.put _ (some 47) _=_; exact yB
      refine C7 zE ?_
      go_wp2
      go_roundg (X.n.toNat-(i+1))
      case measure=>have:=H2.out; omega
      case rel=>exact ⟨i+1,st2,by have:=HN.out; rw [show wrap64 ((i:Int)+1)=((i+1:Nat):Int) from by unfold wrap64; omega],HA,⟨by omega⟩,⟨by omega⟩,HI5,HK5⟩
    ·have c2b:decide ((i:Int)<X.n)=false:=decide_eq_false c2
     have ha:=HA.out
     rw [show X.n.toNat-i=0 by omega,Ci] at ha
     cases ha
     go_wp2
     exact bodyPost_end (results_none rfl _ _ _) rfl ⟨rfl,HI.out,HK.out⟩
theorem DH {P:Program} {w:World} {a:Addr} {m:Mode} (f:Fn) (x y:Array Value):(store a (.func f x y) m).run P w=stored P w a (.func f x y) m:=run_store P w a _ m rfl
attribute [local go_sem] DH
def BG.f (k:Nat) (A8:Int) (l0_1:List (S49)):Option (List Int×Int×Int):=(AN.f k A8 l0_1).bind fun v=>if v=true then (if (6:Int)<(l0_1.length:Int) then some ([],0,3) else (bExt k A8 l0_1 (l0_1.length:Int) 8 [] ([],0,false)).bind fun st=>some (st.1,st.2.1,0)) else some ([],0,1)
theorem Dl (k:Nat) (m:Int) (ts:List S49) (n:Int):∀(d:Nat) (l:List Int) (st:BSt),LeO (bExt k m ts n d l st) (bExt (k+1) m ts n d l st)
 |0,l,st=>by rw [bExt]; exact LeO.none _
 | d + 1,l,st=>by
  have hl:∀(r i:Nat) (st:BSt),LeO (DS k m ts n d l i r st) (DS (k+1) m ts n d l i r st):=fun r=>by
   induction r with
   |zero=>intro i st; rw [Ci,Ci]; exact LeO.refl _
   | succ r ih=>
    intro i st
    rw [Cj,Cj]
    exact LeO.bind (BD.mono _ _ _) fun b=>LeO.ite (ih _ _) (LeO.bind (Dl k m ts n d _ _) fun st'=>ih _ _)
  rw [bExt,bExt]
  exact LeO.ite (LeO.bind (Ag.mono _ _ _ _) fun s=>LeO.bind (Ae.mono _ _ _ _) fun x=>LeO.refl _) (hl _ _ _)
theorem BG.mono:∀a0 a1 k,LeO (BG.f k a0 a1) (BG.f (k+1) a0 a1):=by
 intro a0 a1 k
 unfold BG.f
 exact LeO.bind (AN.mono _ _ _) fun v=>LeO.ite (LeO.ite (LeO.refl _) (LeO.bind (Dl _ _ _ _ _ _ _) fun st=>LeO.refl _)) (LeO.refl _)
set_option maxHeartbeats 8000000 in
theorem BG.calls (k:Nat) (A8:Int) (A0_1:Option Addr) (c0_1:Nat) (l0_1:List (S49)) (r1:List Int) (r2:Int) (r3:Int) (w:World) (hr0_1:Kd.C k49 w A0_1 l0_1.length l0_1) (hc0_1:l0_1.length≤c0_1) (h:BG.f k A8 l0_1=some (r1,r2,r3)):
  Calls Tryd.prog 21 #[.agg #[.int .i64 A8,.slice A0_1 l0_1.length c0_1]] w fun e w'=>∃v0_:Value,e= .returned (.tuple #[v0_,.int .i64 r2,.int .i64 r3])∧Kd.R (Kd.int .i64) 3 w' w.heap.size (fun _=>True) v0_ r1∧Below w.heap.size w w':=by
 unfold BG.f at h
 rw [Option.bind_eq_some_iff] at h
 obtain ⟨v,hv,h⟩:=h
 have HR:=yA hr0_1
 have HC:=yA hc0_1
 have HV:=yA hv
 have HB:=yA (Below.refl w.heap.size w)
 have hu33:=Tryd.underlying33
 clear hr0_1 hc0_1 hv
 cases v with
 | false=>
  rw [if_neg zA6] at h
  cases h
  go_enter Tryd.func21,Tryd.ntmps21
  go_wp2_with (first|((with_reducible refine Ar (N:=1) rfl ?_); refine Ap ?hg (N:=1) ?hd (cs:= #[.int .i64 A8,.slice A0_1 l0_1.length c0_1]) (t:=33) ?hr ?_; (case hd=>rfl); (case hg=>rfl); (case hr=>first|(go_simp; done)|(go_simp; rfl)); intro g1 hg g1_w hbox hb; have nHB_:=yA (AO HB.out hb); have Gg1:=yA (show w.heap.size≤g1 by rw [hg]; exact HB.out.size); have Bg1:=yA hbox; clear HB; have HB:=nHB_; clear hb hbox hg nHB_)|((with_reducible refine Ar (N:=2) rfl ?_); refine Ap ?hg (N:=2) ?hd (cs:= #[.slice none 0 0]) (t:=47) ?hr ?_; (case hd=>rfl); (case hg=>rfl); (case hr=>first|(go_simp; done)|(go_simp; rfl)); intro g2 hg g2_w hbox hb; have ng1_:=yA (AP Bg1.out hb); have nHB_:=yA (AO HB.out hb); have Gg2:=yA (show w.heap.size≤g2 by rw [hg]; exact HB.out.size); have Bg2:=yA hbox; clear Bg1 HB; have Bg1:=ng1_; have HB:=nHB_; clear hb hbox hg ng1_ nHB_)|((with_reducible refine Ar (N:=3) rfl ?_); refine Ap ?hg (N:=3) ?hd (cs:= #[.int .i64 0]) (t:=3) ?hr ?_; (case hd=>rfl); (case hg=>rfl); (case hr=>first|(go_simp; done)|(go_simp; rfl)); intro g3 hg g3_w hbox hb; have ng1_:=yA (AP Bg1.out hb); have ng2_:=yA (AP Bg2.out hb); have nHB_:=yA (AO HB.out hb); have Gg3:=yA (show w.heap.size≤g3 by rw [hg]; exact HB.out.size); have Bg3:=yA hbox; clear Bg1 Bg2 HB; have Bg1:=ng1_; have Bg2:=ng2_; have HB:=nHB_; clear hb hbox hg ng1_ ng2_ nHB_; have y1:g3_w.cell? ⟨g1,0,none⟩=some (.int .i64 A8):=(AK Bg1.out 0).trans rfl; have y2:g3_w.cell? ⟨g1,1,none⟩=some (.slice A0_1 l0_1.length c0_1):=(AK Bg1.out 1).trans rfl)|((with_reducible refine Ah (f:=14) rfl ?_); refine BB (some 10) rfl rfl Tryd.func14 zE rfl #[.agg #[.int .i64 A8,.slice A0_1 l0_1.length c0_1]] rfl (by (try simp only [List.map_toArray,List.map_cons,List.map_nil]); first|done|rfl) ?_; (refine (AN.calls k A8 _ _ l0_1 false _ (Kd.C_below HR.out HB.out) HC.out HV.out).mono ?_); rintro e w5 ⟨rfl,hb⟩; refine ⟨_,rfl,?_⟩; have nHB_:=yA (AO HB.out hb); have n1_:=yA (AP Bg1.out hb); have n2_:=yA (AP Bg2.out hb); have n3_:=yA (AP Bg3.out hb); clear Bg1 Bg2 Bg3 HB hb y1 y2; have Bg1:=n1_; have Bg2:=n2_; have Bg3:=n3_; have HB:=nHB_; clear n1_ n2_ n3_ nHB_; have d1:g2≠g3:=CU Bg2.out Bg3.out zA2; have d2:=d1.symm; have y3:w5.cell? ⟨g1,1,none⟩=some (.slice A0_1 l0_1.length c0_1):=(AK Bg1.out 1).trans rfl; have z2:w5.cell? ⟨g2,0,none⟩=some (.slice none 0 0):=(AK Bg2.out 0).trans rfl; have z3:w5.cell? ⟨g3,0,none⟩=some (.int .i64 0):=(AK Bg3.out 0).trans rfl; have f2:=AJ Bg2.out 0; have f3:=AJ Bg3.out 0))
  refine bodyPost_ret (v:= .tuple #[.slice none 0 0,.int .i64 0,.int .i64 1]) ?_ rfl ?_
  ·show (results Tryd.f21 _).run Tryd.prog _=_
   rw [results,show Tryd.f21.results= #[.cell 2 47,.cell 3 3,.tmp 4] from rfl]
   go_simp
  ·exact ⟨_,rfl,Kd.R_nil _ _ _ _ _,AI (AI HB.out Gg2.out) Gg3.out⟩
 | true=>
  rw [if_pos rfl] at h
  by_cases c6:(6:Int)<(l0_1.length:Int)
  ·rw [if_pos c6] at h
   cases h
   have c6b:decide ((6:Int)<(l0_1.length:Int))=true:=decide_eq_true c6
   clear c6
   go_enter Tryd.func21,Tryd.ntmps21
   go_wp2_with (first|((with_reducible refine Ar (N:=1) rfl ?_); refine Ap ?hg (N:=1) ?hd (cs:= #[.int .i64 A8,.slice A0_1 l0_1.length c0_1]) (t:=33) ?hr ?_; (case hd=>rfl); (case hg=>rfl); (case hr=>first|(go_simp; done)|(go_simp; rfl)); intro g1 hg g1_w hbox hb; have nHB_:=yA (AO HB.out hb); have Gg1:=yA (show w.heap.size≤g1 by rw [hg]; exact HB.out.size); have Bg1:=yA hbox; clear HB; have HB:=nHB_; clear hb hbox hg nHB_)|((with_reducible refine Ar (N:=2) rfl ?_); refine Ap ?hg (N:=2) ?hd (cs:= #[.slice none 0 0]) (t:=47) ?hr ?_; (case hd=>rfl); (case hg=>rfl); (case hr=>first|(go_simp; done)|(go_simp; rfl)); intro g2 hg g2_w hbox hb; have ng1_:=yA (AP Bg1.out hb); have nHB_:=yA (AO HB.out hb); have Gg2:=yA (show w.heap.size≤g2 by rw [hg]; exact HB.out.size); have Bg2:=yA hbox; clear Bg1 HB; have Bg1:=ng1_; have HB:=nHB_; clear hb hbox hg ng1_ nHB_)|((with_reducible refine Ar (N:=3) rfl ?_); refine Ap ?hg (N:=3) ?hd (cs:= #[.int .i64 0]) (t:=3) ?hr ?_; (case hd=>rfl); (case hg=>rfl); (case hr=>first|(go_simp; done)|(go_simp; rfl)); intro g3 hg g3_w hbox hb; have ng1_:=yA (AP Bg1.out hb); have ng2_:=yA (AP Bg2.out hb); have nHB_:=yA (AO HB.out hb); have Gg3:=yA (show w.heap.size≤g3 by rw [hg]; exact HB.out.size); have Bg3:=yA hbox; clear Bg1 Bg2 HB; have Bg1:=ng1_; have Bg2:=ng2_; have HB:=nHB_; clear hb hbox hg ng1_ ng2_ nHB_; have y1:g3_w.cell? ⟨g1,0,none⟩=some (.int .i64 A8):=(AK Bg1.out 0).trans rfl; have y2:g3_w.cell? ⟨g1,1,none⟩=some (.slice A0_1 l0_1.length c0_1):=(AK Bg1.out 1).trans rfl)|((with_reducible refine Ah (f:=14) rfl ?_); refine BB (some 10) rfl rfl Tryd.func14 zE rfl #[.agg #[.int .i64 A8,.slice A0_1 l0_1.length c0_1]] rfl (by (try simp only [List.map_toArray,List.map_cons,List.map_nil]); first|done|rfl) ?_; (refine (AN.calls k A8 _ _ l0_1 true _ (Kd.C_below HR.out HB.out) HC.out HV.out).mono ?_); rintro e w5 ⟨rfl,hb⟩; refine ⟨_,rfl,?_⟩; have nHB_:=yA (AO HB.out hb); have n1_:=yA (AP Bg1.out hb); have n2_:=yA (AP Bg2.out hb); have n3_:=yA (AP Bg3.out hb); clear Bg1 Bg2 Bg3 HB hb y1 y2; have Bg1:=n1_; have Bg2:=n2_; have Bg3:=n3_; have HB:=nHB_; clear n1_ n2_ n3_ nHB_; have d1:g2≠g3:=CU Bg2.out Bg3.out zA2; have d2:=d1.symm; have y3:w5.cell? ⟨g1,1,none⟩=some (.slice A0_1 l0_1.length c0_1):=(AK Bg1.out 1).trans rfl; have z2:w5.cell? ⟨g2,0,none⟩=some (.slice none 0 0):=(AK Bg2.out 0).trans rfl; have z3:w5.cell? ⟨g3,0,none⟩=some (.int .i64 0):=(AK Bg3.out 0).trans rfl; have f2:=AJ Bg2.out 0; have f3:=AJ Bg3.out 0))
   refine bodyPost_ret (v:= .tuple #[.slice none 0 0,.int .i64 0,.int .i64 3]) ?_ rfl ?_
   ·show (results Tryd.f21 _).run Tryd.prog _=_
    rw [results,show Tryd.f21.results= #[.cell 2 47,.cell 3 3,.tmp 4] from rfl]
    go_simp
   ·exact ⟨_,rfl,Kd.R_nil _ _ _ _ _,AI (AI HB.out Gg2.out) Gg3.out⟩
  ·rw [if_neg c6] at h
   rw [Option.bind_eq_some_iff] at h
   obtain ⟨st,hst,h⟩:=h
   have HS:=yA (Option.some.inj h)
   have eg:∀args w,(callFunc 40 args).run Tryd.prog w= .ok (.enter 40 args) w:=fun args w=>DC Tryd.func40 zE rfl args w
   have c6b:decide ((6:Int)<(l0_1.length:Int))=false:=decide_eq_false c6
   have hl6:(l0_1.length:Int)≤6:=by omega
   have hext:∀ {g5 g1 g6 g3 g2 g7:Nat} (W:World) (hI:BInv ⟨A8,A0_1,c0_1,l0_1,(l0_1.length:Int),g5,g1,g6,g3,g2,g7⟩ w W ([],0,false)),Calls Tryd.prog 40 (#[.slice none 0 0]++ #[.pointer (some ⟨g5,0,none⟩),.pointer (some ⟨g1,0,none⟩),.pointer (some ⟨g6,0,none⟩),.pointer (some ⟨g3,0,none⟩),.pointer (some ⟨g2,0,none⟩),.pointer (some ⟨g7,0,none⟩)]) W fun e w'=>e= .returned (.tuple #[])∧BInv ⟨A8,A0_1,c0_1,l0_1,(l0_1.length:Int),g5,g1,g6,g3,g2,g7⟩ w w' st∧Kept W w' (BCtx.S ⟨A8,A0_1,c0_1,l0_1,(l0_1.length:Int),g5,g1,g6,g3,g2,g7⟩):=fun {g5 g1 g6 g3 g2 g7} W hI=>
    EG ⟨A8,A0_1,c0_1,l0_1,(l0_1.length:Int),g5,g1,g6,g3,g2,g7⟩ w k (by show (0:Int)≤(l0_1.length:Int); omega) (by show (l0_1.length:Int)≤1000; omega) 8 [] none 0 ([],0,false) st W hI ⟨Kd.C_nil _ _,by simp,fun _=>⟨rfl,rfl⟩,fun ad he=>by cases he⟩ zA6 hst
   clear h hst c6 hl6
   go_enter Tryd.func21,Tryd.ntmps21
   go_wp2_with (first|((with_reducible refine Ar (N:=1) rfl ?_); refine Ap ?hg (N:=1) ?hd (cs:= #[.int .i64 A8,.slice A0_1 l0_1.length c0_1]) (t:=33) ?hr ?_; (case hd=>rfl); (case hg=>rfl); (case hr=>first|(go_simp; done)|(go_simp; rfl)); intro g1 hg g1_w hbox hb; have nHB_:=yA (AO HB.out hb); have Gg1:=yA (show w.heap.size≤g1 by rw [hg]; exact HB.out.size); have Bg1:=yA hbox; clear HB; have HB:=nHB_; clear hb hbox hg nHB_)|((with_reducible refine Ar (N:=2) rfl ?_); refine Ap ?hg (N:=2) ?hd (cs:= #[.slice none 0 0]) (t:=47) ?hr ?_; (case hd=>rfl); (case hg=>rfl); (case hr=>first|(go_simp; done)|(go_simp; rfl)); intro g2 hg g2_w hbox hb; have ng1_:=yA (AP Bg1.out hb); have nHB_:=yA (AO HB.out hb); have Gg2:=yA (show w.heap.size≤g2 by rw [hg]; exact HB.out.size); have Bg2:=yA hbox; clear Bg1 HB; have Bg1:=ng1_; have HB:=nHB_; clear hb hbox hg ng1_ nHB_)|((with_reducible refine Ar (N:=3) rfl ?_); refine Ap ?hg (N:=3) ?hd (cs:= #[.int .i64 0]) (t:=3) ?hr ?_; (case hd=>rfl); (case hg=>rfl); (case hr=>first|(go_simp; done)|(go_simp; rfl)); intro g3 hg g3_w hbox hb; have ng1_:=yA (AP Bg1.out hb); have ng2_:=yA (AP Bg2.out hb); have nHB_:=yA (AO HB.out hb); have Gg3:=yA (show w.heap.size≤g3 by rw [hg]; exact HB.out.size); have Bg3:=yA hbox; clear Bg1 Bg2 HB; have Bg1:=ng1_; have Bg2:=ng2_; have HB:=nHB_; clear hb hbox hg ng1_ ng2_ nHB_; have y1:g3_w.cell? ⟨g1,0,none⟩=some (.int .i64 A8):=(AK Bg1.out 0).trans rfl; have y2:g3_w.cell? ⟨g1,1,none⟩=some (.slice A0_1 l0_1.length c0_1):=(AK Bg1.out 1).trans rfl)|((with_reducible refine Ah (f:=14) rfl ?_); refine BB (some 10) rfl rfl Tryd.func14 zE rfl #[.agg #[.int .i64 A8,.slice A0_1 l0_1.length c0_1]] rfl (by (try simp only [List.map_toArray,List.map_cons,List.map_nil]); first|done|rfl) ?_; (refine (AN.calls k A8 _ _ l0_1 true _ (Kd.C_below HR.out HB.out) HC.out HV.out).mono ?_); rintro e w5 ⟨rfl,hb⟩; refine ⟨_,rfl,?_⟩; have nHB_:=yA (AO HB.out hb); have n1_:=yA (AP Bg1.out hb); have n2_:=yA (AP Bg2.out hb); have n3_:=yA (AP Bg3.out hb); clear Bg1 Bg2 Bg3 HB hb y1 y2; have Bg1:=n1_; have Bg2:=n2_; have Bg3:=n3_; have HB:=nHB_; clear n1_ n2_ n3_ nHB_; have d1:g2≠g3:=CU Bg2.out Bg3.out zA2; have d2:=d1.symm; have y3:w5.cell? ⟨g1,1,none⟩=some (.slice A0_1 l0_1.length c0_1):=(AK Bg1.out 1).trans rfl; have z2:w5.cell? ⟨g2,0,none⟩=some (.slice none 0 0):=(AK Bg2.out 0).trans rfl; have z3:w5.cell? ⟨g3,0,none⟩=some (.int .i64 0):=(AK Bg3.out 0).trans rfl; have f2:=AJ Bg2.out 0; have f3:=AJ Bg3.out 0)|((with_reducible refine Ar (N:=5) rfl ?_); refine Ap ?hg (N:=5) ?hd (cs:= #[.int .i64 0]) (t:=3) ?hr ?_; (case hd=>rfl); (case hg=>rfl); (case hr=>first|(go_simp; done)|(go_simp; rfl)); intro g5 hg g5_w hbox hb; have Eg1g5:g1≠g5:=(by rw [hg]; exact Nat.ne_of_lt (B0 Bg1.out)); have Eg5g1:=Eg1g5.symm; have Eg2g5:g2≠g5:=(by rw [hg]; exact Nat.ne_of_lt (B0 Bg2.out)); have Eg5g2:=Eg2g5.symm; have Eg3g5:g3≠g5:=(by rw [hg]; exact Nat.ne_of_lt (B0 Bg3.out)); have Eg5g3:=Eg3g5.symm; have ng1_:=yA (AP Bg1.out hb); have ng2_:=yA (AP Bg2.out hb); have ng3_:=yA (AP Bg3.out hb); have nHB_:=yA (AO HB.out hb); have Gg5:=yA (show w.heap.size≤g5 by rw [hg]; exact HB.out.size); have Bg5:=yA hbox; clear Bg1 Bg2 Bg3 HB; have Bg1:=ng1_; have Bg2:=ng2_; have Bg3:=ng3_; have HB:=nHB_; clear hb hbox hg ng1_ ng2_ ng3_ nHB_; have kg5:=AJ Bg5.out 0; have qg5:g5_w.cell? ⟨g5,0,none⟩=some (.int .i64 0):=(AK Bg5.out 0).trans rfl)|((with_reducible refine C3 (t:=3) (p:=5) rfl ?_); refine Bx (t:=3) (p:=5) (v:= ?vo_g5) (w1:=(g5_w.setCell ⟨g5,0,none⟩ (.int .i64 (l0_1.length:Int)))) ?hg ?ho ?hn ?hr ?_; (case ho=>rfl); (case hg=>rfl); (case hn=>rfl); (case hr=>first|(go_simp; done)|(go_simp; rfl)); intro sg5_w hw; have ng1_:Aside0 (sg5_w.heap[g1]? =some (.cells #[.int .i64 A8,.slice A0_1 l0_1.length c0_1] 33 (0,0))):=⟨(by rw [hw]; exact Aa Bg1.out Eg1g5 _)⟩; have ng2_:Aside0 (sg5_w.heap[g2]? =some (.cells #[.slice none 0 0] 47 (0,0))):=⟨(by rw [hw]; exact Aa Bg2.out Eg2g5 _)⟩; have ng3_:Aside0 (sg5_w.heap[g3]? =some (.cells #[.int .i64 0] 3 (0,0))):=⟨(by rw [hw]; exact Aa Bg3.out Eg3g5 _)⟩; have ng5_:Aside0 (sg5_w.heap[g5]? =some (.cells #[.int .i64 (l0_1.length:Int)] 3 (0,0))):=⟨(by rw [hw]; exact Am (cs:= #[.int .i64 0]) Bg5.out 0 _ rfl)⟩; have nHB_:Aside0 (Below w.heap.size w sg5_w):=⟨(by rw [hw]; exact AI HB.out Gg5.out)⟩; clear Bg1 Bg2 Bg3 Bg5 HB kg5 qg5; have Bg1:=ng1_; have Bg2:=ng2_; have Bg3:=ng3_; have Bg5:=ng5_; have HB:=nHB_; clear hw ng1_ ng2_ ng3_ ng5_ nHB_)|((with_reducible refine Ar (N:=6) rfl ?_); refine Ap ?hg (N:=6) ?hd (cs:= #[.bool false]) (t:=4) ?hr ?_; (case hd=>rfl); (case hg=>rfl); (case hr=>first|(go_simp; done)|(go_simp; rfl)); intro g6 hg g6_w hbox hb; have Eg1g6:g1≠g6:=(by rw [hg]; exact Nat.ne_of_lt (B0 Bg1.out)); have Eg6g1:=Eg1g6.symm; have Eg2g6:g2≠g6:=(by rw [hg]; exact Nat.ne_of_lt (B0 Bg2.out)); have Eg6g2:=Eg2g6.symm; have Eg3g6:g3≠g6:=(by rw [hg]; exact Nat.ne_of_lt (B0 Bg3.out)); have Eg6g3:=Eg3g6.symm; have Eg5g6:g5≠g6:=(by rw [hg]; exact Nat.ne_of_lt (B0 Bg5.out)); have Eg6g5:=Eg5g6.symm; have ng1_:=yA (AP Bg1.out hb); have ng2_:=yA (AP Bg2.out hb); have ng3_:=yA (AP Bg3.out hb); have ng5_:=yA (AP Bg5.out hb); have nHB_:=yA (AO HB.out hb); have Gg6:=yA (show w.heap.size≤g6 by rw [hg]; exact HB.out.size); have Bg6:=yA hbox; clear Bg1 Bg2 Bg3 Bg5 HB; have Bg1:=ng1_; have Bg2:=ng2_; have Bg3:=ng3_; have Bg5:=ng5_; have HB:=nHB_; clear hb hbox hg ng1_ ng2_ ng3_ ng5_ nHB_; have kg6:=AJ Bg6.out 0; have qg6:g6_w.cell? ⟨g6,0,none⟩=some (.bool false):=(AK Bg6.out 0).trans rfl)|((with_reducible refine C3 (t:=4) (p:=6) rfl ?_); refine Bx (t:=4) (p:=6) (v:= ?vo_g6) (w1:=(g6_w.setCell ⟨g6,0,none⟩ (.bool false))) ?hg ?ho ?hn ?hr ?_; (case ho=>rfl); (case hg=>rfl); (case hn=>rfl); (case hr=>first|(go_simp; done)|(go_simp; rfl)); intro sg6_w hw; have ng1_:Aside0 (sg6_w.heap[g1]? =some (.cells #[.int .i64 A8,.slice A0_1 l0_1.length c0_1] 33 (0,0))):=⟨(by rw [hw]; exact Aa Bg1.out Eg1g6 _)⟩; have ng2_:Aside0 (sg6_w.heap[g2]? =some (.cells #[.slice none 0 0] 47 (0,0))):=⟨(by rw [hw]; exact Aa Bg2.out Eg2g6 _)⟩; have ng3_:Aside0 (sg6_w.heap[g3]? =some (.cells #[.int .i64 0] 3 (0,0))):=⟨(by rw [hw]; exact Aa Bg3.out Eg3g6 _)⟩; have ng5_:Aside0 (sg6_w.heap[g5]? =some (.cells #[.int .i64 (l0_1.length:Int)] 3 (0,0))):=⟨(by rw [hw]; exact Aa Bg5.out Eg5g6 _)⟩; have ng6_:Aside0 (sg6_w.heap[g6]? =some (.cells #[.bool false] 4 (0,0))):=⟨(by rw [hw]; exact Am (cs:= #[.bool false]) Bg6.out 0 _ rfl)⟩; have nHB_:Aside0 (Below w.heap.size w sg6_w):=⟨(by rw [hw]; exact AI HB.out Gg6.out)⟩; clear Bg1 Bg2 Bg3 Bg5 Bg6 HB kg6 qg6; have Bg1:=ng1_; have Bg2:=ng2_; have Bg3:=ng3_; have Bg5:=ng5_; have Bg6:=ng6_; have HB:=nHB_; clear hw ng1_ ng2_ ng3_ ng5_ ng6_ nHB_)|((with_reducible refine Ar (N:=7) rfl ?_); refine Ap ?hg (N:=7) ?hd (cs:= #[.nilFunc]) (t:=77) ?hr ?_; (case hd=>rfl); (case hg=>rfl); (case hr=>first|(go_simp; done)|(go_simp; rfl)); intro g7 hg g7_w hbox hb; have Eg1g7:g1≠g7:=(by rw [hg]; exact Nat.ne_of_lt (B0 Bg1.out)); have Eg7g1:=Eg1g7.symm; have Eg2g7:g2≠g7:=(by rw [hg]; exact Nat.ne_of_lt (B0 Bg2.out)); have Eg7g2:=Eg2g7.symm; have Eg3g7:g3≠g7:=(by rw [hg]; exact Nat.ne_of_lt (B0 Bg3.out)); have Eg7g3:=Eg3g7.symm; have Eg5g7:g5≠g7:=(by rw [hg]; exact Nat.ne_of_lt (B0 Bg5.out)); have Eg7g5:=Eg5g7.symm; have Eg6g7:g6≠g7:=(by rw [hg]; exact Nat.ne_of_lt (B0 Bg6.out)); have Eg7g6:=Eg6g7.symm; have ng1_:=yA (AP Bg1.out hb); have ng2_:=yA (AP Bg2.out hb); have ng3_:=yA (AP Bg3.out hb); have ng5_:=yA (AP Bg5.out hb); have ng6_:=yA (AP Bg6.out hb); have nHB_:=yA (AO HB.out hb); have Gg7:=yA (show w.heap.size≤g7 by rw [hg]; exact HB.out.size); have Bg7:=yA hbox; clear Bg1 Bg2 Bg3 Bg5 Bg6 HB; have Bg1:=ng1_; have Bg2:=ng2_; have Bg3:=ng3_; have Bg5:=ng5_; have Bg6:=ng6_; have HB:=nHB_; clear hb hbox hg ng1_ ng2_ ng3_ ng5_ ng6_ nHB_; have kg7:=AJ Bg7.out 0; have qg7:g7_w.cell? ⟨g7,0,none⟩=some (.nilFunc):=(AK Bg7.out 0).trans rfl)|((with_reducible refine C3 (t:=77) (p:=7) rfl ?_); refine Bx (t:=77) (p:=7) (v:= ?vo_g7) (w1:=(g7_w.setCell ⟨g7,0,none⟩ (.func (.func 40) #[] #[.pointer (some ⟨g5,0,none⟩),.pointer (some ⟨g1,0,none⟩),.pointer (some ⟨g6,0,none⟩),.pointer (some ⟨g3,0,none⟩),.pointer (some ⟨g2,0,none⟩),.pointer (some ⟨g7,0,none⟩)]))) ?hg ?ho ?hn ?hr ?_; (case ho=>rfl); (case hg=>rfl); (case hn=>rfl); (case hr=>first|(go_simp; done)|(go_simp; rfl)); intro sg7_w hw; have ng1_:Aside0 (sg7_w.heap[g1]? =some (.cells #[.int .i64 A8,.slice A0_1 l0_1.length c0_1] 33 (0,0))):=⟨(by rw [hw]; exact Aa Bg1.out Eg1g7 _)⟩; have ng2_:Aside0 (sg7_w.heap[g2]? =some (.cells #[.slice none 0 0] 47 (0,0))):=⟨(by rw [hw]; exact Aa Bg2.out Eg2g7 _)⟩; have ng3_:Aside0 (sg7_w.heap[g3]? =some (.cells #[.int .i64 0] 3 (0,0))):=⟨(by rw [hw]; exact Aa Bg3.out Eg3g7 _)⟩; have ng5_:Aside0 (sg7_w.heap[g5]? =some (.cells #[.int .i64 (l0_1.length:Int)] 3 (0,0))):=⟨(by rw [hw]; exact Aa Bg5.out Eg5g7 _)⟩; have ng6_:Aside0 (sg7_w.heap[g6]? =some (.cells #[.bool false] 4 (0,0))):=⟨(by rw [hw]; exact Aa Bg6.out Eg6g7 _)⟩; have ng7_:Aside0 (sg7_w.heap[g7]? =some (.cells #[.func (.func 40) #[] #[.pointer (some ⟨g5,0,none⟩),.pointer (some ⟨g1,0,none⟩),.pointer (some ⟨g6,0,none⟩),.pointer (some ⟨g3,0,none⟩),.pointer (some ⟨g2,0,none⟩),.pointer (some ⟨g7,0,none⟩)]] 77 (0,0))):=⟨(by rw [hw]; exact Am (cs:= #[.nilFunc]) Bg7.out 0 _ rfl)⟩; have nHB_:Aside0 (Below w.heap.size w sg7_w):=⟨(by rw [hw]; exact AI HB.out Gg7.out)⟩; clear Bg1 Bg2 Bg3 Bg5 Bg6 Bg7 HB kg7 qg7; have Bg1:=ng1_; have Bg2:=ng2_; have Bg3:=ng3_; have Bg5:=ng5_; have Bg6:=ng6_; have Bg7:=ng7_; have HB:=nHB_; clear hw ng1_ ng2_ ng3_ ng5_ ng6_ ng7_ nHB_; have qe:sg7_w.cell? ⟨g7,0,none⟩=some (.func (.func 40) #[] #[.pointer (some ⟨g5,0,none⟩),.pointer (some ⟨g1,0,none⟩),.pointer (some ⟨g6,0,none⟩),.pointer (some ⟨g3,0,none⟩),.pointer (some ⟨g2,0,none⟩),.pointer (some ⟨g7,0,none⟩)]):=(AK Bg7.out 0).trans rfl; have HI:=yA (show BInv ⟨A8,A0_1,c0_1,l0_1,(l0_1.length:Int),g5,g1,g6,g3,g2,g7⟩ w sg7_w ([],0,false) from ⟨Bg5.out,Bg1.out,Bg6.out,Bg3.out,⟨_,Bg2.out,Kd.R_nil _ _ _ _ _⟩,Bg7.out,HB.out,Eg5g3,Gg6.out,Gg3.out,Gg2.out,HR.out,HC.out⟩))|(go_at_fn 40; refine (hext sg7_w HI.out).mono ?_; rintro e w9 ⟨rfl,hI9,hK9⟩; have HI9:=yA hI9; clear hI9 hK9 HI qe))
   obtain ⟨vo,ho1,ho2⟩:=HI9.out.o
   obtain ⟨Ao,co,eo⟩:=Kd.R_slice ho2
   subst eo
   have Bo:=yA (show w9.drew.heap[g2]? =some (.cells #[.slice Ao st.1.length co] 47 (0,0)) from ho1)
   have Bl:=yA (show w9.drew.heap[g3]? =some (.cells #[.int .i64 st.2.1] 3 (0,0)) from HI9.out.l)
   have HO:=yA (Kd.R_drew ho2)
   have HB9:=yA (AD HI9.out.b)
   refine Bp (n:=5) (S:=fun w'=>w'.cell? ⟨g2,0,none⟩=some (.slice Ao st.1.length co)∧w'.cell? ⟨g3,0,none⟩=some (.int .i64 st.2.1)) (ds:=[]) #[false,false,false,false,false] zE rfl rfl ⟨(AK Bo.out 0).trans rfl,(AK Bl.out 0).trans rfl⟩ (fun hHeld=> ?_)
   clear HI9 ho1 ho2 HB Bg1 Bg2 Bg3 Bg5 Bg6 Bg7
   have hne:g2≠g3:=CU Bo.out Bl.out zA2
   have hne':=hne.symm
   generalize w9.drew=wd at hHeld Bo Bl HO HB9 ⊢
   have fo:=AJ Bo.out 0
   have fl:=AJ Bl.out 0
   refine BK (i:=0) (N:=some 23) (v:= ?_) (a':= ?_) #[true,false,false,false,false] rfl rfl zE (fun _ _ _ h=>h) (Or.inl ⟨by rfl,?_⟩) hHeld ?_ ?_; rotate_left; rintro w' ⟨s0,s1⟩; go_simp; with_reducible rfl; rotate_left; exact yB
   refine BK (i:=1) (N:=some 24) (v:= ?_) (a':= ?_) #[true,true,false,false,false] rfl rfl zE (fun _ _ _ h=>h) (Or.inl ⟨by rfl,?_⟩) hHeld ?_ ?_; rotate_left; rintro w' ⟨s0,s1⟩; go_simp; with_reducible rfl; rotate_left; exact yB
   refine one_ (i:=2) (N:=none) #[true,true,true,false,false] rfl rfl zE zA2 (fun K hK=> ?_)
   have hc0:=hHeld.1
   refine Ef (w1:=wd.setCell ⟨g2,0,none⟩ (.slice Ao st.1.length co)) (by rfl) rfl ?_ ?_
   ·first|(go_simp; done)|(go_simp; rfl)
   have Bo2:=yA (show (wd.setCell ⟨g2,0,none⟩ (.slice Ao st.1.length co)).heap[g2]? =some (.cells #[.slice Ao st.1.length co] 47 (0,0)) from Am (cs:= #[.slice Ao st.1.length co]) Bo.out 0 _ rfl)
   have Bl2:=yA (Aa Bl.out hne' (.slice Ao st.1.length co):(wd.setCell ⟨g2,0,none⟩ (.slice Ao st.1.length co)).heap[g3]? =_)
   have HO2:=yA (Kd.R_set HO.out Bo.out zA2 0 (.slice Ao st.1.length co))
   have HB10:=yA (AI (j:=0) (v:= .slice Ao st.1.length co) HB9.out Gg2.out)
   refine hK.out _ _ ⟨(AK Bo2.out 0).trans rfl,(AK Bl2.out 0).trans rfl⟩ (fun hHeld=> ?_)
   clear hK K hc0 Bo Bl HO HB9 fo fl
   generalize wd.setCell ⟨g2,0,none⟩ (.slice Ao st.1.length co)=we at hHeld Bo2 Bl2 HO2 HB10 ⊢
   have fo:=AJ Bo2.out 0
   have fl:=AJ Bl2.out 0
   refine one_ (i:=3) (N:=none) #[true,true,true,true,false] rfl rfl zE zA2 (fun K hK=> ?_)
   have hc0:=hHeld.2
   refine Ef (w1:=we.setCell ⟨g3,0,none⟩ (.int .i64 st.2.1)) (by rfl) rfl ?_ ?_
   ·first|(go_simp; done)|(go_simp; rfl)
   have Bl3:=yA (show (we.setCell ⟨g3,0,none⟩ (.int .i64 st.2.1)).heap[g3]? =some (.cells #[.int .i64 st.2.1] 3 (0,0)) from Am (cs:= #[.int .i64 st.2.1]) Bl2.out 0 _ rfl)
   have Bo3:=yA (Aa Bo2.out hne (.int .i64 st.2.1):(we.setCell ⟨g3,0,none⟩ (.int .i64 st.2.1)).heap[g2]? =_)
   have HO3:=yA (Kd.R_mono (Kd.R_far (p:=⟨g3,0,none⟩) HO2.out (fun k hk=>hk.2) (.int .i64 st.2.1)) (fun _ _=>trivial):Kd.R (Kd.int .i64) 3 _ w.heap.size (fun _=>True) _ _)
   have HB11:=yA (AI (j:=0) (v:= .int .i64 st.2.1) HB10.out Gg3.out)
   refine hK.out _ _ ⟨(AK Bo3.out 0).trans rfl,(AK Bl3.out 0).trans rfl⟩ (fun hHeld=> ?_)
   clear hK K hc0 Bo2 Bl2 HO2 HB10 fo fl
   generalize we.setCell ⟨g3,0,none⟩ (.int .i64 st.2.1)=wf at hHeld Bo3 Bl3 HO3 HB11 ⊢
   refine AX (i:=4) (N:=some 4) (v:= ?_) (a':= ?_) #[true,true,true,true,true] rfl rfl zE (fun _ _ _ h=>h) (Or.inl ⟨by rfl,?_⟩) ?_ ?_; rotate_left; intro w'; go_simp; with_reducible rfl; rotate_left; exact yB
   refine C7 zE ?_
   go_wp2
   have z2:=hHeld.1
   have z3:=hHeld.2
   have hs:=HS.out
   cases hs
   refine bodyPost_ret (v:= .tuple #[.slice Ao st.1.length co,.int .i64 st.2.1,.int .i64 0]) ?_ rfl ?_
   ·show (results Tryd.f21 _).run Tryd.prog _=_
    rw [results,show Tryd.f21.results= #[.cell 2 47,.cell 3 3,.tmp 4] from rfl]
    go_simp
   ·exact ⟨_,rfl,HO3.out,HB11.out⟩
def B2.f (k:Nat):Option (Bool):=(some (([(⟨(⟨#[97]⟩:ByteArray),2,5,([]:List Int)⟩:S49),(⟨(⟨#[98]⟩:ByteArray),2,5,([]:List Int)⟩:S49),(⟨(⟨#[99]⟩:ByteArray),3,4,([]:List Int)⟩:S49)]:List (S49)):List (S49))).bind fun y205=>((At.f k 2 y205 (([0,1,2]:List Int))).bind fun bt212=>((Au.f k 2 y205 bt212.1).bind fun bt216=>((Ax.f k 2 y205).bind fun bt218=>((BG.f k 2 y205).bind fun bt220=>(if bt212.2=0 then (if bt216.2=0 then (if bt218.2=0 then (if bt220.2.2=0 then (if (bt212.1.length:Int)=3 then (if 2<(bt212.1.length:Int) then (if ((An bt212.1 2).f1)=2 then (if bt216.1=5 then (if bt218.1=4 then (if bt220.2.1=(-1) then ((AN.f k 2 y205).bind fun t226=>(some t226)) else (some false)) else (some false)) else (some false)) else (some false)) else (none)) else (some false)) else (some false)) else (some false)) else (some false)) else (some false))))))
theorem B2.mono:∀k,LeO (B2.f k) (B2.f (k+1)):=by
 intro k
 unfold B2.f
 repeat' first
  |(with_reducible exact BG.mono _ _ _)
  |(with_reducible exact Ax.mono _ _ _)
  |(with_reducible exact Au.mono _ _ _ _)
  |(with_reducible exact At.mono _ _ _ _)
  |(with_reducible exact AN.mono _ _ _)
  |(with_reducible exact LeO.refl _)
  |(with_reducible exact LeO.none _)
  |(with_reducible refine LeO.ite ?_ ?_)
  |(with_reducible refine LeO.bind ?_ (fun _=> ?_))
  |exact BG.mono _ _ _
  |exact Ax.mono _ _ _
  |exact Au.mono _ _ _ _
  |exact At.mono _ _ _ _
  |exact AN.mono _ _ _
  |exact LeO.none _
  |refine LeO.ite ?_ ?_
  |refine LeO.bind ?_ (fun _=> ?_)
section
set_option maxRecDepth 100000
def exT:List S49:=[(⟨(⟨#[97]⟩:ByteArray),2,5,([]:List Int)⟩:S49),(⟨(⟨#[98]⟩:ByteArray),2,5,([]:List Int)⟩:S49),(⟨(⟨#[99]⟩:ByteArray),3,4,([]:List Int)⟩:S49)]
theorem nm (c:UInt8) (h:Bv (c.toNat:Int)=true):BN.f ⟨#[c]⟩=some true:=by
 have hb:bt ⟨#[c]⟩ 0=(c.toNat:Int):=rfl
 have hg:C6 ⟨#[c]⟩ (ByteArray.size ⟨#[c]⟩) 0=1:=by
  show C6 ⟨#[c]⟩ 1 0=1
  rw [C6,if_pos,C6]
  show CQ (bt ⟨#[c]⟩ 0)=true
  rw [hb]; unfold CQ; rw [h]; rfl
 have hl:ByteArray.toList ⟨#[c]⟩=[c]:=ByteArray.toList_eq _
 have hr:BQ.f ⟨#[c]⟩=some false:=by
  unfold BQ.f
  rw [hl]
  simp
 have hs:ByteArray.size ⟨#[c]⟩=1:=rfl
 unfold BN.f
 rw [hl,if_neg zA6,if_pos (by rw [hs]; decide),Bj.f,if_pos (by rw [hs]; decide),hb,if_pos h,hg,Option.bind_some,if_pos (by rw [hs]),hr]
 rfl
theorem tl (c:UInt8):ByteArray.toList ⟨#[c]⟩=[c]:=ByteArray.toList_eq _
theorem exV:AN.f 60 2 exT=some true:=by
 have na:=nm 97 zA2; have nb:=nm 98 zA2; have nc:=nm 99 zA2
 simp [exT,AN.f,AN.j0,AN.l0,AN.j2,AN.l1,AM,na,nb,nc,Bt.f,wrap64,tl]
theorem awake60:B2.f 60=some true:=by
 unfold B2.f
 simp only [Option.bind_some,At.f,Au.f,Ab.f,Ax.f,Aq.f,BG.f,show ([(⟨(⟨#[97]⟩:ByteArray),2,5,([]:List Int)⟩:S49),(⟨(⟨#[98]⟩:ByteArray),2,5,([]:List Int)⟩:S49),(⟨(⟨#[99]⟩:ByteArray),3,4,([]:List Int)⟩:S49)]:List S49)=exT from rfl,exV]
 decide+kernel
theorem EX {k:Nat} {r:Bool} (h:B2.f k=some r):r=true:=by
 have h1:=D1 (fun k=>B2.mono k) (Nat.le_max_left k 60) h
 have h2:=D1 (fun k=>B2.mono k) (Nat.le_max_right k 60) awake60
 rw [h1] at h2
 exact Option.some.inj h2
end
set_option maxHeartbeats 8000000 in
theorem B2.calls0 (k:Nat) (r:Bool) (w:World) (h:B2.f k=some r) (HRT:Aside0 (r=true)):
  Calls Tryd.prog 4 #[] w fun e w'=>e= .returned (.bool r)∧Below w.heap.size w w':=by
 have hu49:=Tryd.underlying49
 have hu33:=Tryd.underlying33
 have HB:=yA (Below.refl w.heap.size w)
 have H:((some (([(⟨(⟨#[97]⟩:ByteArray),2,5,([]:List Int)⟩:S49),(⟨(⟨#[98]⟩:ByteArray),2,5,([]:List Int)⟩:S49),(⟨(⟨#[99]⟩:ByteArray),3,4,([]:List Int)⟩:S49)]:List (S49)):List (S49))).bind fun y205=>((At.f k 2 y205 (([0,1,2]:List Int))).bind fun bt212=>((Au.f k 2 y205 bt212.1).bind fun bt216=>((Ax.f k 2 y205).bind fun bt218=>((BG.f k 2 y205).bind fun bt220=>(if bt212.2=0 then (if bt216.2=0 then (if bt218.2=0 then (if bt220.2.2=0 then (if (bt212.1.length:Int)=3 then (if 2<(bt212.1.length:Int) then (if ((An bt212.1 2).f1)=2 then (if bt216.1=5 then (if bt218.1=4 then (if bt220.2.1=(-1) then ((AN.f k 2 y205).bind fun t226=>(some t226)) else (some false)) else (some false)) else (some false)) else (some false)) else (none)) else (some false)) else (some false)) else (some false)) else (some false)) else (some false)))))))=some r:=h
 clear h
 obtain ⟨y205,hy205⟩:∃y_:List (S49),y_=(([(⟨(⟨#[97]⟩:ByteArray),2,5,([]:List Int)⟩:S49),(⟨(⟨#[98]⟩:ByteArray),2,5,([]:List Int)⟩:S49),(⟨(⟨#[99]⟩:ByteArray),3,4,([]:List Int)⟩:S49)]:List (S49))):=⟨_,rfl⟩
 replace H:((At.f k 2 y205 (([0,1,2]:List Int))).bind fun bt212=>((Au.f k 2 y205 bt212.1).bind fun bt216=>((Ax.f k 2 y205).bind fun bt218=>((BG.f k 2 y205).bind fun bt220=>(if bt212.2=0 then (if bt216.2=0 then (if bt218.2=0 then (if bt220.2.2=0 then (if (bt212.1.length:Int)=3 then (if 2<(bt212.1.length:Int) then (if ((An bt212.1 2).f1)=2 then (if bt216.1=5 then (if bt218.1=4 then (if bt220.2.1=(-1) then ((AN.f k 2 y205).bind fun t226=>(some t226)) else (some false)) else (some false)) else (some false)) else (some false)) else (none)) else (some false)) else (some false)) else (some false)) else (some false)) else (some false))))))=some r:=by first|(rw [hy205]; with_reducible exact H)|(have H2_:=(Option.bind_some _ _).symm.trans H; rw [hy205]; with_reducible exact H2_)|(have H2_:=(Option.bind_some _ _).symm.trans H; with_reducible exact H2_)|with_reducible exact H|(rw [hy205]; exact H)|exact H
 have Ny205:=yA hy205
 clear hy205
 obtain ⟨y209,hy209⟩:∃y_:List Int,y_=(([0,1,2]:List Int)):=⟨_,rfl⟩
 replace H:((At.f k 2 y205 y209).bind fun bt212=>((Au.f k 2 y205 bt212.1).bind fun bt216=>((Ax.f k 2 y205).bind fun bt218=>((BG.f k 2 y205).bind fun bt220=>(if bt212.2=0 then (if bt216.2=0 then (if bt218.2=0 then (if bt220.2.2=0 then (if (bt212.1.length:Int)=3 then (if 2<(bt212.1.length:Int) then (if ((An bt212.1 2).f1)=2 then (if bt216.1=5 then (if bt218.1=4 then (if bt220.2.1=(-1) then ((AN.f k 2 y205).bind fun t226=>(some t226)) else (some false)) else (some false)) else (some false)) else (some false)) else (none)) else (some false)) else (some false)) else (some false)) else (some false)) else (some false))))))=some r:=by first|(rw [hy209]; with_reducible exact H)|(have H2_:=(Option.bind_some _ _).symm.trans H; rw [hy209]; with_reducible exact H2_)|(have H2_:=(Option.bind_some _ _).symm.trans H; with_reducible exact H2_)|with_reducible exact H|(rw [hy209]; exact H)|exact H
 have Ny209:=yA hy209
 clear hy209
 replace H:=Option.bind_eq_some_iff.mp H
 obtain ⟨⟨t212,t215⟩,A10,H⟩:=H
 replace H:((Au.f k 2 y205 t212).bind fun bt216=>((Ax.f k 2 y205).bind fun bt218=>((BG.f k 2 y205).bind fun bt220=>(if t215=0 then (if bt216.2=0 then (if bt218.2=0 then (if bt220.2.2=0 then (if (t212.length:Int)=3 then (if 2<(t212.length:Int) then (if ((An t212 2).f1)=2 then (if bt216.1=5 then (if bt218.1=4 then (if bt220.2.1=(-1) then ((AN.f k 2 y205).bind fun t226=>(some t226)) else (some false)) else (some false)) else (some false)) else (some false)) else (none)) else (some false)) else (some false)) else (some false)) else (some false)) else (some false)))))=some r:=H
 have A1:=yA A10
 clear A10
 replace H:=Option.bind_eq_some_iff.mp H
 obtain ⟨⟨t216,t217⟩,A20,H⟩:=H
 replace H:((Ax.f k 2 y205).bind fun bt218=>((BG.f k 2 y205).bind fun bt220=>(if t215=0 then (if t217=0 then (if bt218.2=0 then (if bt220.2.2=0 then (if (t212.length:Int)=3 then (if 2<(t212.length:Int) then (if ((An t212 2).f1)=2 then (if t216=5 then (if bt218.1=4 then (if bt220.2.1=(-1) then ((AN.f k 2 y205).bind fun t226=>(some t226)) else (some false)) else (some false)) else (some false)) else (some false)) else (none)) else (some false)) else (some false)) else (some false)) else (some false)) else (some false))))=some r:=H
 have A2:=yA A20
 clear A20
 replace H:=Option.bind_eq_some_iff.mp H
 obtain ⟨⟨t218,t219⟩,A30,H⟩:=H
 replace H:((BG.f k 2 y205).bind fun bt220=>(if t215=0 then (if t217=0 then (if t219=0 then (if bt220.2.2=0 then (if (t212.length:Int)=3 then (if 2<(t212.length:Int) then (if ((An t212 2).f1)=2 then (if t216=5 then (if t218=4 then (if bt220.2.1=(-1) then ((AN.f k 2 y205).bind fun t226=>(some t226)) else (some false)) else (some false)) else (some false)) else (some false)) else (none)) else (some false)) else (some false)) else (some false)) else (some false)) else (some false)))=some r:=H
 have A3:=yA A30
 clear A30
 replace H:=Option.bind_eq_some_iff.mp H
 obtain ⟨⟨t220,t223,t224⟩,A40,H⟩:=H
 replace H:(if t215=0 then (if t217=0 then (if t219=0 then (if t224=0 then (if (t212.length:Int)=3 then (if 2<(t212.length:Int) then (if ((An t212 2).f1)=2 then (if t216=5 then (if t218=4 then (if t223=(-1) then ((AN.f k 2 y205).bind fun t226=>(some t226)) else (some false)) else (some false)) else (some false)) else (some false)) else (none)) else (some false)) else (some false)) else (some false)) else (some false)) else (some false))=some r:=H
 have A4:=yA A40
 clear A40
 by_cases c5:t215=0
 ·rw [if_pos c5] at H
  have c5b0:(t215==0)=true:=beq_iff_eq.mpr c5
  have c5b1:(t215 !=0)=false:=bne_eq_false_iff_eq.mpr c5
  clear c5
  by_cases c6:t217=0
  ·rw [if_pos c6] at H
   have c6b0:(t217==0)=true:=beq_iff_eq.mpr c6
   have c6b1:(t217 !=0)=false:=bne_eq_false_iff_eq.mpr c6
   clear c6
   by_cases c7:t219=0
   ·rw [if_pos c7] at H
    have c7b0:(t219==0)=true:=beq_iff_eq.mpr c7
    have c7b1:(t219 !=0)=false:=bne_eq_false_iff_eq.mpr c7
    clear c7
    by_cases c8:t224=0
    ·rw [if_pos c8] at H
     have c8b0:(t224==0)=true:=beq_iff_eq.mpr c8
     have c8b1:(t224 !=0)=false:=bne_eq_false_iff_eq.mpr c8
     clear c8
     by_cases c9:(t212.length:Int)=3
     ·rw [if_pos c9] at H
      have c9b0:((t212.length:Int)==3)=true:=beq_iff_eq.mpr c9
      have c9b1:((t212.length:Int) !=3)=false:=bne_eq_false_iff_eq.mpr c9
      clear c9
      by_cases c10:2<(t212.length:Int)
      ·rw [if_pos c10] at H
       have c10b0:decide (2<(t212.length:Int))=true:=decide_eq_true c10
       have c10b1:decide (2<t212.length)=true:=decide_eq_true zI
       clear c10
       by_cases c11:((An t212 2).f1)=2
       ·rw [if_pos c11] at H
        have c11b0:(((An t212 2).f1)==2)=true:=beq_iff_eq.mpr c11
        have c11b1:(((An t212 2).f1) !=2)=false:=bne_eq_false_iff_eq.mpr c11
        clear c11
        by_cases c12:t216=5
        ·rw [if_pos c12] at H
         have c12b0:(t216==5)=true:=beq_iff_eq.mpr c12
         have c12b1:(t216 !=5)=false:=bne_eq_false_iff_eq.mpr c12
         clear c12
         by_cases c13:t218=4
         ·rw [if_pos c13] at H
          have c13b0:(t218==4)=true:=beq_iff_eq.mpr c13
          have c13b1:(t218 !=4)=false:=bne_eq_false_iff_eq.mpr c13
          clear c13
          by_cases c14:t223=(-1)
          ·rw [if_pos c14] at H
           have c14b0:(t223==(-1))=true:=beq_iff_eq.mpr c14
           have c14b1:(t223 !=(-1))=false:=bne_eq_false_iff_eq.mpr c14
           clear c14
           replace H:=Option.bind_eq_some_iff.mp H
           obtain ⟨t226,A150,H⟩:=H
           replace H:(some t226)=some r:=H
           have A15:=yA A150
           clear A150
           obtain rfl:=Option.some.inj H
           go_enter Tryd.func4,Tryd.ntmps4
           go_wp2_with (first|((with_reducible refine Ar (N:=14) rfl ?_); (try (refine BI (by rfl) ?_; dsimp only)); refine Kd.S_lit k49 _ 49 ?hg (N:=14) ?hd (xs:=([(⟨(⟨#[97]⟩:ByteArray),2,5,([]:List Int)⟩:S49),(⟨(⟨#[98]⟩:ByteArray),2,5,([]:List Int)⟩:S49),(⟨(⟨#[99]⟩:ByteArray),3,4,([]:List Int)⟩:S49)]:List (S49))) (inner:=[.string (⟨#[97]⟩:ByteArray),.int .i64 2,.int .i64 5,.slice none 0 0,.string (⟨#[98]⟩:ByteArray),.int .i64 2,.int .i64 5,.slice none 0 0,.string (⟨#[99]⟩:ByteArray),.int .i64 3,.int .i64 4,.slice none 0 0]) (ok:=fun _=>True) (okp:=fun _=>True) ?hr ?hp (fun _ hk=>hk) trivial (Below.refl _ _) (Nat.le_refl _) zA6 ?_; (case hd=>rfl); (case hg=>rfl); (case hr=>first|(go_simp; done)|(go_simp; rfl)); (case hp=>exact (Reps.c4 (show Kd.M k49 _ _ _ (⟨(⟨#[97]⟩:ByteArray),2,5,([]:List Int)⟩:S49) [.string (⟨#[97]⟩:ByteArray),.int .i64 2,.int .i64 5,.slice none 0 0] from (Dt _ _ _ (⟨(⟨#[97]⟩:ByteArray),2,5,([]:List Int)⟩:S49) (Kd.R_nil _ _ _ _ _))) (Reps.c4 (show Kd.M k49 _ _ _ (⟨(⟨#[98]⟩:ByteArray),2,5,([]:List Int)⟩:S49) [.string (⟨#[98]⟩:ByteArray),.int .i64 2,.int .i64 5,.slice none 0 0] from (Dt _ _ _ (⟨(⟨#[98]⟩:ByteArray),2,5,([]:List Int)⟩:S49) (Kd.R_nil _ _ _ _ _))) (Reps.c4 (show Kd.M k49 _ _ _ (⟨(⟨#[99]⟩:ByteArray),3,4,([]:List Int)⟩:S49) [.string (⟨#[99]⟩:ByteArray),.int .i64 3,.int .i64 4,.slice none 0 0] from (Dt _ _ _ (⟨(⟨#[99]⟩:ByteArray),3,4,([]:List Int)⟩:S49) (Kd.R_nil _ _ _ _ _))) (Reps.none _ _))))); intro v206 w16 ho17 hb hg_ hnew_; clear hg_ hnew_; (first|rw [←Ny205.out] at ho17|(simp only [Int.reduceToNat] at ho17; rw [←Ny205.out] at ho17)); have n0_:=yA (Kd.S_lower ho17 (AT zB)); have n1_:=yA (AO zB hb); clear HB; have HO207:=n0_; have HB:=n1_; clear n0_ n1_; clear hb ho17; obtain ⟨Ao18,co18,eo18⟩:=Kd.S_slice HO207.out; subst eo18)|((with_reducible refine Ar (N:=1) rfl ?_); (try (refine BI (by rfl) ?_; dsimp only)); refine Ap ?hg (N:=1) ?hd (cs:= #[.int .i64 0,.slice none 0 0]) (t:=33) ?hr ?_; (case hd=>rfl); (case hg=>rfl); (case hr=>first|(go_simp; done)|(go_simp; rfl)); intro gb208 hg w19 hbox hb; have n0_:=yA (Kd.S_below zC7 hb); have n1_:=yA (AO zB hb); have n2_:=yA (hbox); have n3_:=yA ((by rw [hg]; exact (AT zB):w.heap.size≤gb208)); have n4_:=yA ((by rw [hg]; exact (AT zB):w.heap.size≤gb208)); clear HO207; clear HB; have HO207:=n0_; have HB:=n1_; have BK208:=n2_; have GW208:=n3_; have GE208:=n4_; clear n0_ n1_ n2_ n3_ n4_; clear hb hbox hg; have hcz20_0:w19.cell? ⟨gb208,0,none⟩=some (.int .i64 0):=(AK BK208.out 0).trans rfl; have hcz20_1:w19.cell? ⟨gb208,1,none⟩=some (.slice none 0 0):=(AK BK208.out 1).trans rfl; have hfz20_0:=AJ BK208.out 0; have hfz20_1:=AJ BK208.out 1)|((with_reducible refine Ar (N:=18) rfl ?_); (try (refine BI (by rfl) ?_; dsimp only)); refine Kd.R_lit (Kd.int .i64) _ 3 ?hg (N:=18) ?hd (xs:=([0,1,2]:List Int)) (inner:=[.int .i64 0,.int .i64 1,.int .i64 2]) (ok:=fun _=>True) (okp:=fun _=>True) ?hr ?hp (fun _ hk=>hk) trivial (Below.refl _ _) (Nat.le_refl _) zA6 ?_; (case hd=>rfl); (case hg=>rfl); (case hr=>first|(go_simp; done)|(go_simp; rfl)); (case hp=>exact (Reps.one (show Kd.M (Kd.int .i64) _ _ _ 0 [.int .i64 0] from rfl) (Reps.one (show Kd.M (Kd.int .i64) _ _ _ 1 [.int .i64 1] from rfl) (Reps.one (show Kd.M (Kd.int .i64) _ _ _ 2 [.int .i64 2] from rfl) (Reps.none _ _))))); intro v210 w21 ho22 hb hg_ hnew_; clear hg_ hnew_; (first|rw [←Ny209.out] at ho22|(simp only [Int.reduceToNat] at ho22; rw [←Ny209.out] at ho22)); have n0_:=yA (Kd.S_elder' (by (with_reducible repeat (first|apply Kd.S_alloc|apply Kd.S_drewN|apply Kd.S_drew)); exact (Kd.S_mono (Kd.S_far (p:=⟨gb208,1,none⟩) (Kd.S_far (p:=⟨gb208,0,none⟩) (Kd.S_types HO207.out BK208.out zA2) (fun _ hk=>hk.2) (.int .i64 2)) (fun _ hk=>hk.2) (.slice Ao18 y205.length co18)) (fun _ h_=>h_.1))) (Kd.R_base ho22) hb); have n1_:=yA (Kd.R_lower ho22 (AT zB0)); have n2_:=yA (AP (g:=gb208) (o:= .cells #[.int .i64 2,.slice Ao18 y205.length co18] 33 (0,0)) (by (with_reducible repeat (first|refine AG ?_ _|refine AH ?_|refine AF ?_ _)); refine Am (cs:= #[.int .i64 2,.slice none 0 0]) ?_ 1 _ rfl; (with_reducible repeat (first|refine AG ?_ _|refine AH ?_|refine AF ?_ _)); refine Am (cs:= #[.int .i64 0,.slice none 0 0]) ?_ 0 _ rfl; (with_reducible repeat (first|refine AG ?_ _|refine AH ?_|refine AF ?_ _)); exact BK208.out) hb); have n3_:=yA (AO zB0 hb); clear HO207; clear BK208; clear HB; have HO207:=n0_; have HO211:=n1_; have BK208:=n2_; have HB:=n3_; clear n0_ n1_ n2_ n3_; clear hb ho22; obtain ⟨Ao23,co23,eo23⟩:=Kd.R_slice HO211.out; subst eo23)|((with_reducible refine Ah (f:=19) rfl ?_); refine BB (some 19) rfl rfl Tryd.func19 zE rfl #[.agg #[.int .i64 2,.slice Ao18 y205.length co18],.slice Ao23 y209.length co23] rfl zD ?_; (with_reducible refine (At.calls k 2 _ _ y205 _ _ y209 t212 t215 _ ?side1 ?side2 ?side3 ?side4 A1.out).mono ?_); (case side1=>repeat (first|exact (Kd.S_reads' HO207.out).2.2|(with_reducible refine Kd.C_alloc ?_ _)|(with_reducible refine Kd.C_drewN ?_ _)|(with_reducible refine Kd.C_drew ?_))); (case side2=>exact (Kd.S_reads' HO207.out).2.1); (case side3=>repeat (first|exact (Kd.R_reads' HO211.out).2.2|(with_reducible refine Kd.C_alloc ?_ _)|(with_reducible refine Kd.C_drewN ?_ _)|(with_reducible refine Kd.C_drew ?_))); (case side4=>exact (Kd.R_reads' HO211.out).2.1); rintro e w24 ⟨v213,rfl,ho0,hb⟩; refine ⟨_,rfl,?_⟩; have n0_:=yA (Kd.S_below zC7 hb); have n1_:=yA (Kd.R_below zC8 hb); have n2_:=yA (Kd.R_lower ho0 (AT zB0)); have n3_:=yA (AP (g:=gb208) (o:= .cells #[.int .i64 2,.slice Ao18 y205.length co18] 33 (0,0)) (by (with_reducible repeat (first|refine AG ?_ _|refine AH ?_|refine AF ?_ _)); exact BK208.out) hb); have n4_:=yA (AO zB0 hb); clear HO207; clear HO211; clear BK208; clear HB; have HO207:=n0_; have HO211:=n1_; have HO214:=n2_; have BK208:=n3_; have HB:=n4_; clear n0_ n1_ n2_ n3_ n4_; (try clear hb); (try clear hb2); (try clear hk); (try clear hi); (try clear ho0); have hcz25_0:w24.cell? ⟨gb208,0,none⟩=some (.int .i64 2):=(AK BK208.out 0).trans rfl; have hcz25_1:w24.cell? ⟨gb208,1,none⟩=some (.slice Ao18 y205.length co18):=(AK BK208.out 1).trans rfl; have hfz25_0:=AJ BK208.out 0; have hfz25_1:=AJ BK208.out 1; obtain ⟨Ao26,co26,eo26⟩:=Kd.R_slice HO214.out; subst eo26)|((with_reducible refine Ah (f:=6) rfl ?_); refine BB (some 25) rfl rfl Tryd.func6 zE rfl #[.agg #[.int .i64 2,.slice Ao18 y205.length co18],.slice Ao26 t212.length co26] rfl zD ?_; (with_reducible refine (Au.calls k 2 _ _ y205 _ _ t212 t216 t217 _ ?side1 ?side2 ?side3 ?side4 A2.out).mono ?_); (case side1=>repeat (first|exact (Kd.S_reads' HO207.out).2.2|(with_reducible refine Kd.C_alloc ?_ _)|(with_reducible refine Kd.C_drewN ?_ _)|(with_reducible refine Kd.C_drew ?_))); (case side2=>exact (Kd.S_reads' HO207.out).2.1); (case side3=>repeat (first|exact (Kd.R_reads' HO214.out).2.2|(with_reducible refine Kd.C_alloc ?_ _)|(with_reducible refine Kd.C_drewN ?_ _)|(with_reducible refine Kd.C_drew ?_))); (case side4=>exact (Kd.R_reads' HO214.out).2.1); rintro e w27 ⟨rfl,hb⟩; refine ⟨_,rfl,?_⟩; have n0_:=yA (Kd.S_below zC7 hb); have n1_:=yA (Kd.R_below zC8 hb); have n2_:=yA (Kd.R_below (by (with_reducible repeat (first|apply Kd.R_alloc|apply Kd.R_drewN|apply Kd.R_drew)); exact HO214.out) hb); have n3_:=yA (AP (g:=gb208) (o:= .cells #[.int .i64 2,.slice Ao18 y205.length co18] 33 (0,0)) (by (with_reducible repeat (first|refine AG ?_ _|refine AH ?_|refine AF ?_ _)); exact BK208.out) hb); have n4_:=yA (AO zB0 hb); clear HO207; clear HO211; clear HO214; clear BK208; clear HB; have HO207:=n0_; have HO211:=n1_; have HO214:=n2_; have BK208:=n3_; have HB:=n4_; clear n0_ n1_ n2_ n3_ n4_; (try clear hb); (try clear hb2); (try clear hk); (try clear hi); have hcz28_0:w27.cell? ⟨gb208,0,none⟩=some (.int .i64 2):=(AK BK208.out 0).trans rfl; have hcz28_1:w27.cell? ⟨gb208,1,none⟩=some (.slice Ao18 y205.length co18):=(AK BK208.out 1).trans rfl; have hfz28_0:=AJ BK208.out 0; have hfz28_1:=AJ BK208.out 1)|((with_reducible refine Ah (f:=20) rfl ?_); refine BB (some 30) rfl rfl Tryd.func20 zE rfl #[.agg #[.int .i64 2,.slice Ao18 y205.length co18]] rfl zD ?_; (with_reducible refine (Ax.calls k 2 _ _ y205 t218 t219 _ ?side1 ?side2 A3.out).mono ?_); (case side1=>repeat (first|exact (Kd.S_reads' HO207.out).2.2|(with_reducible refine Kd.C_alloc ?_ _)|(with_reducible refine Kd.C_drewN ?_ _)|(with_reducible refine Kd.C_drew ?_))); (case side2=>exact (Kd.S_reads' HO207.out).2.1); rintro e w29 ⟨rfl,hb⟩; refine ⟨_,rfl,?_⟩; have n0_:=yA (Kd.S_below zC7 hb); have n1_:=yA (Kd.R_below zC8 hb); have n2_:=yA (Kd.R_below (by (with_reducible repeat (first|apply Kd.R_alloc|apply Kd.R_drewN|apply Kd.R_drew)); exact HO214.out) hb); have n3_:=yA (AP (g:=gb208) (o:= .cells #[.int .i64 2,.slice Ao18 y205.length co18] 33 (0,0)) (by (with_reducible repeat (first|refine AG ?_ _|refine AH ?_|refine AF ?_ _)); exact BK208.out) hb); have n4_:=yA (AO zB0 hb); clear HO207; clear HO211; clear HO214; clear BK208; clear HB; have HO207:=n0_; have HO211:=n1_; have HO214:=n2_; have BK208:=n3_; have HB:=n4_; clear n0_ n1_ n2_ n3_ n4_; (try clear hb); (try clear hb2); (try clear hk); (try clear hi); have hcz30_0:w29.cell? ⟨gb208,0,none⟩=some (.int .i64 2):=(AK BK208.out 0).trans rfl; have hcz30_1:w29.cell? ⟨gb208,1,none⟩=some (.slice Ao18 y205.length co18):=(AK BK208.out 1).trans rfl; have hfz30_0:=AJ BK208.out 0; have hfz30_1:=AJ BK208.out 1)|((with_reducible refine Ah (f:=21) rfl ?_); refine BB (some 35) rfl rfl Tryd.func21 zE rfl #[.agg #[.int .i64 2,.slice Ao18 y205.length co18]] rfl zD ?_; (with_reducible refine (BG.calls k 2 _ _ y205 t220 t223 t224 _ ?side1 ?side2 A4.out).mono ?_); (case side1=>repeat (first|exact (Kd.S_reads' HO207.out).2.2|(with_reducible refine Kd.C_alloc ?_ _)|(with_reducible refine Kd.C_drewN ?_ _)|(with_reducible refine Kd.C_drew ?_))); (case side2=>exact (Kd.S_reads' HO207.out).2.1); rintro e w31 ⟨v221,rfl,ho0,hb⟩; refine ⟨_,rfl,?_⟩; have n0_:=yA (Kd.S_elder' zC7 (Kd.R_base ho0) hb); have n1_:=yA (Kd.R_elder' zC8 (Kd.R_base ho0) hb); have n2_:=yA (Kd.R_below (by (with_reducible repeat (first|apply Kd.R_alloc|apply Kd.R_drewN|apply Kd.R_drew)); exact HO214.out) hb); have n3_:=yA (Kd.R_lower (Kd.R_new' ho0 (Kd.R_lt zC8)) (AT zB0)); have n4_:=yA (AP (g:=gb208) (o:= .cells #[.int .i64 2,.slice Ao18 y205.length co18] 33 (0,0)) (by (with_reducible repeat (first|refine AG ?_ _|refine AH ?_|refine AF ?_ _)); exact BK208.out) hb); have n5_:=yA (AO zB0 hb); clear HO207; clear HO211; clear HO214; clear BK208; clear HB; have HO207:=n0_; have HO211:=n1_; have HO214:=n2_; have HO222:=n3_; have BK208:=n4_; have HB:=n5_; clear n0_ n1_ n2_ n3_ n4_ n5_; (try clear hb); (try clear hb2); (try clear hk); (try clear hi); (try clear ho0); have p225:0≤(2:Int):=zI; have q225:2<(t212.length:Int):=yD; obtain ⟨ad225,e225,hx225_0,hx225_1⟩:=Bh (Kd.R_reads' HO214.out).2.2 2 p225 q225; cases e225; (try simp only [show (2:Int).toNat=2 from rfl,Nat.reduceMul,Nat.reduceEqDiff,Go.Addr.add,↓reduceIte] at hx225_0); (try simp only [show (2:Int).toNat=2 from rfl,Nat.reduceMul,Nat.reduceEqDiff,Go.Addr.add,↓reduceIte] at hx225_1); have qi225:(2<t212.length)=True:=eq_true zI; (try rw [show ((2:Int)).toNat=2 from rfl] at hx225_0); (try rw [show 2*2=4 from rfl] at hx225_0); (try rw [show ((2:Int)).toNat=2 from rfl] at hx225_1); (try rw [show 2*2=4 from rfl] at hx225_1); replace p225:=eq_true p225; replace q225:=eq_true q225; have hcz32_0:w31.cell? ⟨gb208,0,none⟩=some (.int .i64 2):=(AK BK208.out 0).trans rfl; have hcz32_1:w31.cell? ⟨gb208,1,none⟩=some (.slice Ao18 y205.length co18):=(AK BK208.out 1).trans rfl; have hfz32_0:=AJ BK208.out 0; have hfz32_1:=AJ BK208.out 1)|(go_at_call 14; (with_reducible refine (AN.calls k 2 _ _ y205 t226 _ ?side1 ?side2 A15.out).mono ?_); (case side1=>repeat (first|exact (Kd.S_reads' HO207.out).2.2|(with_reducible refine Kd.C_alloc ?_ _)|(with_reducible refine Kd.C_drewN ?_ _)|(with_reducible refine Kd.C_drew ?_))); (case side2=>exact (Kd.S_reads' HO207.out).2.1); rintro e w33 ⟨rfl,hb⟩; have n0_:=yA (Kd.S_below zC7 hb); have n1_:=yA (Kd.R_below zC8 hb); have n2_:=yA (Kd.R_below (by (with_reducible repeat (first|apply Kd.R_alloc|apply Kd.R_drewN|apply Kd.R_drew)); exact HO214.out) hb); have n3_:=yA (Kd.R_below (by (with_reducible repeat (first|apply Kd.R_alloc|apply Kd.R_drewN|apply Kd.R_drew)); exact HO222.out) hb); have n4_:=yA (AP (g:=gb208) (o:= .cells #[.int .i64 2,.slice Ao18 y205.length co18] 33 (0,0)) (by (with_reducible repeat (first|refine AG ?_ _|refine AH ?_|refine AF ?_ _)); exact BK208.out) hb); have n5_:=yA (AO zB0 hb); clear HO207; clear HO211; clear HO214; clear HO222; clear BK208; clear HB; have HO207:=n0_; have HO211:=n1_; have HO214:=n2_; have HO222:=n3_; have BK208:=n4_; have HB:=n5_; clear n0_ n1_ n2_ n3_ n4_ n5_; (try clear hb); (try clear hb2); (try clear hk); (try clear hi)))
           go_ret
           exact ⟨by first|rfl|(simp [AZ,AY]<;>rfl)|(simp [*,AZ,AY]<;>rfl),by repeat (first|(with_reducible first|exact HB.out|apply AE|apply AC|apply AD|refine AI ?_ GE208.out)|exact HB.out)⟩
          ·rw [if_neg c14] at H
           have c14b0:(t223==(-1))=false:=beq_eq_false_iff_ne.mpr c14
           have c14b1:(t223 !=(-1))=true:=bne_iff_ne.mpr c14
           obtain rfl:=Option.some.inj H
           exact absurd HRT.out zA2
         ·rw [if_neg c13] at H
          have c13b0:(t218==4)=false:=beq_eq_false_iff_ne.mpr c13
          have c13b1:(t218 !=4)=true:=bne_iff_ne.mpr c13
          obtain rfl:=Option.some.inj H
          exact absurd HRT.out zA2
        ·rw [if_neg c12] at H
         have c12b0:(t216==5)=false:=beq_eq_false_iff_ne.mpr c12
         have c12b1:(t216 !=5)=true:=bne_iff_ne.mpr c12
         obtain rfl:=Option.some.inj H
         exact absurd HRT.out zA2
       ·rw [if_neg c11] at H
        have c11b0:(((An t212 2).f1)==2)=false:=beq_eq_false_iff_ne.mpr c11
        have c11b1:(((An t212 2).f1) !=2)=true:=bne_iff_ne.mpr c11
        obtain rfl:=Option.some.inj H
        exact absurd HRT.out zA2
      ·rw [if_neg c10] at H
       exact absurd H zA6
     ·rw [if_neg c9] at H
      have c9b0:((t212.length:Int)==3)=false:=beq_eq_false_iff_ne.mpr c9
      have c9b1:((t212.length:Int) !=3)=true:=bne_iff_ne.mpr c9
      obtain rfl:=Option.some.inj H
      exact absurd HRT.out zA2
    ·rw [if_neg c8] at H
     have c8b0:(t224==0)=false:=beq_eq_false_iff_ne.mpr c8
     have c8b1:(t224 !=0)=true:=bne_iff_ne.mpr c8
     obtain rfl:=Option.some.inj H
     exact absurd HRT.out zA2
   ·rw [if_neg c7] at H
    have c7b0:(t219==0)=false:=beq_eq_false_iff_ne.mpr c7
    have c7b1:(t219 !=0)=true:=bne_iff_ne.mpr c7
    obtain rfl:=Option.some.inj H
    exact absurd HRT.out zA2
  ·rw [if_neg c6] at H
   have c6b0:(t217==0)=false:=beq_eq_false_iff_ne.mpr c6
   have c6b1:(t217 !=0)=true:=bne_iff_ne.mpr c6
   obtain rfl:=Option.some.inj H
   exact absurd HRT.out zA2
 ·rw [if_neg c5] at H
  have c5b0:(t215==0)=false:=beq_eq_false_iff_ne.mpr c5
  have c5b1:(t215 !=0)=true:=bne_iff_ne.mpr c5
  obtain rfl:=Option.some.inj H
  exact absurd HRT.out zA2
theorem B2.calls (k:Nat) (r:Bool) (w:World) (h:B2.f k=some r):
 Calls Tryd.prog 4 #[] w fun e w'=>e= .returned (.bool r)∧Below w.heap.size w w':=B2.calls0 k r w h (yA (EX h))
end Go.Proofs.YtdadecjefafflaaDoor.PChk
end
section
namespace Go.Proofs.YtdadecjefafflaaDoor.PChk
set_option maxRecDepth 100000
open Go.RowKit Go.Proofs.YtdadecjefafflaaDoorW.PrintWords Go.Proofs.YtdadecjefafflaaDoorW.PrintLast Go.Proofs.YtdadecjefafflaaDoorW.PrintMore
attribute [local go_sem] Ba BX Be Bd BS BR BZ BW
mutual
def B5.l0:Nat→Int→Int→List (S57)→Option (Bool)
 |0,_,_,_=>none
 |k+1,x3,x228000,x228001=>if x3<(x228001.length:Int) then (B5.j1 k x3 (decide (x3<43)) x228000 x228001) else (B5.j1 k x3 false x228000 x228001)
def B5.j1:Nat→Int→Bool→Int→List (S57)→Option (Bool)
 |0,_,_,_,_=>none
 |k+1,x3,x12,x228000,x228001=>if x12=true then (if 0≤x3 then (if x3<(x228001.length:Int) then (if (((AL x228001 x3).f0).size:Int)>40 then (some false) else (if (((AL x228001 x3).f3).length:Int)>42 then (some false) else (B5.l0 k (wrap64 (x3+1)) x228000 x228001))) else (none)) else (none)) else (some (decide ((x228001.length:Int)≤42)))
end
def B5.f (k:Nat) (A8:Int) (l0_1:List (S57)):Option (Bool):=B5.l0 k 0 A8 l0_1
set_option maxHeartbeats 8000000 in
theorem B5.calls (k:Nat) (A8:Int) (A0_1:Option Addr) (c0_1:Nat) (l0_1:List (S57)) (r:Bool) (w:World) (hr0_1:Kd.C k57 w A0_1 l0_1.length l0_1) (hc0_1:l0_1.length≤c0_1) (h:B5.f k A8 l0_1=some r):
  Calls Tryd.prog 5 #[.agg #[.int .i64 A8,.slice A0_1 l0_1.length c0_1]] w fun e w'=>e= .returned (.bool r)∧Below w.heap.size w w':=by
 have hu24:=Tryd.underlying24
 have HR0_1:=yA hr0_1
 have HC0_1:=yA hc0_1
 clear hr0_1 hc0_1
 have HB:=yA (Below.refl w.heap.size w)
 have H:(B5.l0 k 0 A8 l0_1)=some r:=h
 clear h
 have H':=yA H
 clear H
 go_enter Tryd.func5,Tryd.ntmps5
 go_wp2_with (first|((with_reducible refine Ar (N:=1) rfl ?_); (try (refine BI (by rfl) ?_; dsimp only)); refine Ap ?hg (N:=1) ?hd (cs:= #[.int .i64 A8,.slice A0_1 l0_1.length c0_1]) (t:=24) ?hr ?_; (case hd=>rfl); (case hg=>rfl); (case hr=>first|(go_simp; done)|(go_simp; rfl)); intro gb227 hg w2 hbox hb; have n0_:=yA (AO zB hb); have n1_:=yA (hbox); have n2_:=yA ((by rw [hg]; exact (AT zB):w.heap.size≤gb227)); have n3_:=yA ((by rw [hg]; exact (AT zB):w.heap.size≤gb227)); clear HB; have HB:=n0_; have BK227:=n1_; have GW227:=n2_; have GE227:=n3_; clear n0_ n1_ n2_ n3_; clear hb hbox hg))
 go_loopg [3] k (fun kq v3 w'=>∃(x3_1:Int),v3= .int .i64 x3_1∧Aside0 (B5.l0 kq x3_1 A8 l0_1=some r)∧Aside0 (kq≤k)∧Aside0 (w'.heap[gb227]? =some (.cells #[.int .i64 A8,(.slice A0_1 l0_1.length c0_1)] 24 (0,0)))∧Aside0 (Below w.heap.size w w'))
 case atStart=>exact ⟨(0),zG,H',⟨Nat.le_refl _⟩,⟨by (with_reducible repeat (first|refine AG ?_ _|refine AH ?_|refine AF ?_ _)); exact BK227.out⟩,⟨by repeat (first|(with_reducible first|exact HB.out|apply AE|apply AC|apply AD|refine AI ?_ GE227.out)|exact HB.out)⟩⟩
 case round=>
  clear H'
  try clear p2
  obtain ⟨x3_1,rfl,HA,HK1,BK227,HB⟩:=hrel
  cases gk with
  |zero=>exact absurd HA.out (by simp [B5.l0])
  | succ k1 =>
   have H:=HA.out
   clear HA
   simp only [B5.l0] at H
   have HC3:=yA H
   clear H
   go_upto_region 2 with (fail)
   go_cut [12] (fun v12 wc=>∃(kq:Nat) (x12_2:Bool),v12= .bool x12_2∧Aside0 (B5.j1 kq x3_1 x12_2 A8 l0_1=some r)∧Aside0 (kq≤k1)∧Aside0 (wc.heap[gb227]? =some (.cells #[.int .i64 A8,(.slice A0_1 l0_1.length c0_1)] 24 (0,0)))∧Aside0 (Below w.heap.size w wc))
   case first=>
    have H:=HC3.out
    clear HC3
    by_cases c4:x3_1<(l0_1.length:Int)
    ·rw [if_pos c4] at H
     have c4b0:decide (x3_1<(l0_1.length:Int))=true:=decide_eq_true c4
     clear c4
     (first|rw [c4b0]|(simp only [AR,AS]; rw [c4b0])|skip)
     have H':=yA H
     clear H
     have hcz5_0:wr.cell? ⟨gb227,0,none⟩=some (.int .i64 A8):=(AK BK227.out 0).trans rfl
     have hcz5_1:wr.cell? ⟨gb227,1,none⟩=some (.slice A0_1 l0_1.length c0_1):=(AK BK227.out 1).trans rfl
     have hfz5_0:=AJ BK227.out 0
     have hfz5_1:=AJ BK227.out 1
     go_wp2
     go_meet
     case rel=>exact ⟨_,(decide (x3_1<43)),zG,H',⟨by have:=HK1.out; first|omega|exact Nat.le_refl _⟩,⟨by (with_reducible repeat (first|refine AG ?_ _|refine AH ?_|refine AF ?_ _)); exact BK227.out⟩,⟨by repeat (first|(with_reducible first|exact HB.out|apply AE|apply AC|apply AD|refine AI ?_ GE227.out)|exact HB.out)⟩⟩
    ·rw [if_neg c4] at H
     have c4b0:decide (x3_1<(l0_1.length:Int))=false:=decide_eq_false c4
     clear c4
     (first|rw [c4b0]|(simp only [AR,AS]; rw [c4b0])|skip)
     have H':=yA H
     clear H
     have hcz6_0:wr.cell? ⟨gb227,0,none⟩=some (.int .i64 A8):=(AK BK227.out 0).trans rfl
     have hcz6_1:wr.cell? ⟨gb227,1,none⟩=some (.slice A0_1 l0_1.length c0_1):=(AK BK227.out 1).trans rfl
     have hfz6_0:=AJ BK227.out 0
     have hfz6_1:=AJ BK227.out 1
     go_wp2
     go_meet
     case rel=>exact ⟨_,(false),zG,H',⟨by have:=HK1.out; first|omega|exact Nat.le_refl _⟩,⟨by (with_reducible repeat (first|refine AG ?_ _|refine AH ?_|refine AF ?_ _)); exact BK227.out⟩,⟨by repeat (first|(with_reducible first|exact HB.out|apply AE|apply AC|apply AD|refine AI ?_ GE227.out)|exact HB.out)⟩⟩
   case rest =>
    clear HC3
    try clear p2
    try clear c4
    try clear c4b0
    try clear c5
    try clear hcz5_0
    try clear hcz5_1
    try clear hcz6_0
    try clear hcz6_1
    try clear hfz5_0
    try clear hfz5_1
    try clear hfz6_0
    try clear hfz6_1
    try clear p2
    obtain ⟨kq,x12_2,rfl,HA,HJ2,BK227,HB⟩:=hcut
    cases kq with
    |zero=>exact absurd HA.out (by simp [B5.j1])
    | succ kj2=>
     have H:=HA.out
     clear HA
     simp only [B5.j1] at H
     by_cases c7:x12_2=true
     ·subst c7
      have H1:(if 0≤x3_1 then (if x3_1<(l0_1.length:Int) then (if (((AL l0_1 x3_1).f0).size:Int)>40 then (some false) else (if (((AL l0_1 x3_1).f3).length:Int)>42 then (some false) else (B5.l0 kj2 (wrap64 (x3_1+1)) A8 l0_1))) else (none)) else (none))=some r:=by rw [if_pos rfl] at H; exact H
      clear H
      have H:=H1
      clear H1
      by_cases c8:0≤x3_1
      ·rw [if_pos c8] at H
       have c8b0:decide (0≤x3_1)=true:=decide_eq_true c8
       clear c8
       by_cases c9:x3_1<(l0_1.length:Int)
       ·rw [if_pos c9] at H
        have c9b0:decide (x3_1<(l0_1.length:Int))=true:=decide_eq_true c9
        clear c9
        by_cases c10:(((AL l0_1 x3_1).f0).size:Int)>40
        ·rw [if_pos c10] at H
         have c10b0:decide (40<(((AL l0_1 x3_1).f0).size:Int))=true:=decide_eq_true c10
         have c10b1:decide (40<((AL l0_1 x3_1).f0).size)=true:=decide_eq_true zI
         clear c10
         obtain rfl:=Option.some.inj H
         have hcz11_0:wc.cell? ⟨gb227,0,none⟩=some (.int .i64 A8):=(AK BK227.out 0).trans rfl
         have hcz11_1:wc.cell? ⟨gb227,1,none⟩=some (.slice A0_1 l0_1.length c0_1):=(AK BK227.out 1).trans rfl
         have hfz11_0:=AJ BK227.out 0
         have hfz11_1:=AJ BK227.out 1
         have p228:0≤(x3_1:Int):=yD
         have q228:x3_1<(l0_1.length:Int):=yD
         obtain ⟨ad228,A228_3,c228_3,e228,hx228_0,hx228_1,hx228_2,hx228_3,hl228_3,hi228_3⟩:=Bb HR0_1.out x3_1 p228 q228
         cases e228
         replace hx228_0:=yC HB.out hx228_0
         replace hx228_1:=yC HB.out hx228_1
         replace hx228_2:=yC HB.out hx228_2
         replace hx228_3:=yC HB.out hx228_3
         have HR228_3:=yA hi228_3
         have HC228_3:=yA hl228_3
         clear hi228_3 hl228_3
         replace p228:=eq_true p228
         replace q228:=eq_true q228
         go_wp2
         go_ret
         exact ⟨by first|rfl|(simp [AZ,AY]<;>rfl)|(simp [*,AZ,AY]<;>rfl),by repeat (first|(with_reducible first|exact HB.out|apply AE|apply AC|apply AD|refine AI ?_ GE227.out)|exact HB.out)⟩
        ·rw [if_neg c10] at H
         have c10b0:decide (40<(((AL l0_1 x3_1).f0).size:Int))=false:=decide_eq_false c10
         have c10b1:decide (40<((AL l0_1 x3_1).f0).size)=false:=decide_eq_false zI
         clear c10
         by_cases c12:(((AL l0_1 x3_1).f3).length:Int)>42
         ·rw [if_pos c12] at H
          have c12b0:decide (42<(((AL l0_1 x3_1).f3).length:Int))=true:=decide_eq_true c12
          have c12b1:decide (42<((AL l0_1 x3_1).f3).length)=true:=decide_eq_true zI
          clear c12
          obtain rfl:=Option.some.inj H
          have hcz13_0:wc.cell? ⟨gb227,0,none⟩=some (.int .i64 A8):=(AK BK227.out 0).trans rfl
          have hcz13_1:wc.cell? ⟨gb227,1,none⟩=some (.slice A0_1 l0_1.length c0_1):=(AK BK227.out 1).trans rfl
          have hfz13_0:=AJ BK227.out 0
          have hfz13_1:=AJ BK227.out 1
          have p228:0≤(x3_1:Int):=yD
          have q228:x3_1<(l0_1.length:Int):=yD
          obtain ⟨ad228,A228_3,c228_3,e228,hx228_0,hx228_1,hx228_2,hx228_3,hl228_3,hi228_3⟩:=Bb HR0_1.out x3_1 p228 q228
          cases e228
          replace hx228_0:=yC HB.out hx228_0
          replace hx228_1:=yC HB.out hx228_1
          replace hx228_2:=yC HB.out hx228_2
          replace hx228_3:=yC HB.out hx228_3
          have HR228_3:=yA hi228_3
          have HC228_3:=yA hl228_3
          clear hi228_3 hl228_3
          replace p228:=eq_true p228
          replace q228:=eq_true q228
          have p229:0≤(x3_1:Int):=yD
          have q229:x3_1<(l0_1.length:Int):=yD
          obtain ⟨ad229,A229_3,c229_3,e229,hx229_0,hx229_1,hx229_2,hx229_3,hl229_3,hi229_3⟩:=Bb HR0_1.out x3_1 p229 q229
          obtain rfl:ad228=ad229:=(by injection e229)
          replace hx229_0:=yC HB.out hx229_0
          replace hx229_1:=yC HB.out hx229_1
          replace hx229_2:=yC HB.out hx229_2
          replace hx229_3:=yC HB.out hx229_3
          have HR229_3:=yA hi229_3
          have HC229_3:=yA hl229_3
          clear hi229_3 hl229_3
          replace p229:=eq_true p229
          replace q229:=eq_true q229
          have ea_:=Option.some.inj (hx228_3.symm.trans hx229_3)
          injection ea_ with ea_ en_ ec_
          subst ea_
          subst ec_
          clear en_
          go_wp2
          go_ret
          exact ⟨by first|rfl|(simp [AZ,AY]<;>rfl)|(simp [*,AZ,AY]<;>rfl),by repeat (first|(with_reducible first|exact HB.out|apply AE|apply AC|apply AD|refine AI ?_ GE227.out)|exact HB.out)⟩
         ·rw [if_neg c12] at H
          have c12b0:decide (42<(((AL l0_1 x3_1).f3).length:Int))=false:=decide_eq_false c12
          have c12b1:decide (42<((AL l0_1 x3_1).f3).length)=false:=decide_eq_false zI
          clear c12
          have H':=yA H
          clear H
          have hcz14_0:wc.cell? ⟨gb227,0,none⟩=some (.int .i64 A8):=(AK BK227.out 0).trans rfl
          have hcz14_1:wc.cell? ⟨gb227,1,none⟩=some (.slice A0_1 l0_1.length c0_1):=(AK BK227.out 1).trans rfl
          have hfz14_0:=AJ BK227.out 0
          have hfz14_1:=AJ BK227.out 1
          have p228:0≤(x3_1:Int):=yD
          have q228:x3_1<(l0_1.length:Int):=yD
          obtain ⟨ad228,A228_3,c228_3,e228,hx228_0,hx228_1,hx228_2,hx228_3,hl228_3,hi228_3⟩:=Bb HR0_1.out x3_1 p228 q228
          cases e228
          replace hx228_0:=yC HB.out hx228_0
          replace hx228_1:=yC HB.out hx228_1
          replace hx228_2:=yC HB.out hx228_2
          replace hx228_3:=yC HB.out hx228_3
          have HR228_3:=yA hi228_3
          have HC228_3:=yA hl228_3
          clear hi228_3 hl228_3
          replace p228:=eq_true p228
          replace q228:=eq_true q228
          have p229:0≤(x3_1:Int):=yD
          have q229:x3_1<(l0_1.length:Int):=yD
          obtain ⟨ad229,A229_3,c229_3,e229,hx229_0,hx229_1,hx229_2,hx229_3,hl229_3,hi229_3⟩:=Bb HR0_1.out x3_1 p229 q229
          obtain rfl:ad228=ad229:=(by injection e229)
          replace hx229_0:=yC HB.out hx229_0
          replace hx229_1:=yC HB.out hx229_1
          replace hx229_2:=yC HB.out hx229_2
          replace hx229_3:=yC HB.out hx229_3
          have HR229_3:=yA hi229_3
          have HC229_3:=yA hl229_3
          clear hi229_3 hl229_3
          replace p229:=eq_true p229
          replace q229:=eq_true q229
          have ea_:=Option.some.inj (hx228_3.symm.trans hx229_3)
          injection ea_ with ea_ en_ ec_
          subst ea_
          subst ec_
          clear en_
          go_wp2
          go_roundg kj2
          case measure=>have:=HK1.out; have:=HJ2.out; omega
          case rel=>exact ⟨(wrap64 (x3_1+1)),zG,H',⟨by have:=HK1.out; have:=HJ2.out; omega⟩,⟨by (with_reducible repeat (first|refine AG ?_ _|refine AH ?_|refine AF ?_ _)); exact BK227.out⟩,⟨by repeat (first|(with_reducible first|exact HB.out|apply AE|apply AC|apply AD|refine AI ?_ GE227.out)|exact HB.out)⟩⟩
       ·rw [if_neg c9] at H
        exact absurd H zA6
      ·rw [if_neg c8] at H
       exact absurd H zA6
     ·replace c7:=Bool.eq_false_iff.mpr c7
      subst c7
      have H1:(some (decide ((l0_1.length:Int)≤42)))=some r:=by rw [if_neg (show ¬(false=true) by decide)] at H; exact H
      clear H
      have H:=H1
      clear H1
      obtain rfl:=Option.some.inj H
      have hcz15_0:wc.cell? ⟨gb227,0,none⟩=some (.int .i64 A8):=(AK BK227.out 0).trans rfl
      have hcz15_1:wc.cell? ⟨gb227,1,none⟩=some (.slice A0_1 l0_1.length c0_1):=(AK BK227.out 1).trans rfl
      have hfz15_0:=AJ BK227.out 0
      have hfz15_1:=AJ BK227.out 1
      go_wp2
      go_ret
      exact ⟨by first|rfl|(simp [AZ,AY]<;>rfl)|(simp [*,AZ,AY]<;>rfl),by repeat (first|(with_reducible first|exact HB.out|apply AE|apply AC|apply AD|refine AI ?_ GE227.out)|exact HB.out)⟩
def Ad.l0:Nat→List (S57)→Int→Int→Int→List (S49)→Option (Int×(List (S49)))
 |0,_,_,_,_,_=>none
 |k+1,x10,x11,x12,x233000,x233001=>if x12<x11 then (if 0≤x12 then (if x12<(x10.length:Int) then (if x233001.length<2513169434916 then (Ad.l0 k x10 x11 (wrap64 (x12+1)) x233000 (x233001++[(⟨(AL x10 x12).f0,(AL x10 x12).f1,(AL x10 x12).f2,(AL x10 x12).f3⟩:S49)])) else (none)) else (none)) else (none)) else (some (x233000,x233001))
def Ad.f (k:Nat) (A8:Int) (l0_1:List (S57)):Option (Int×(List (S49))):=Ad.l0 k l0_1 (l0_1.length:Int) 0 A8 ([]:List (S49))
set_option maxHeartbeats 8000000 in
theorem Ad.calls (k:Nat) (A8:Int) (P0_1_:Nat→Prop) (A0_1:Option Addr) (c0_1:Nat) (l0_1:List (S57)) (r1:Int) (r2:List (S49)) (w:World) (hs0_1:Kd.V k57 57 w w.heap.size (fun k_=>P0_1_ k_) (.slice A0_1 l0_1.length c0_1) l0_1) (h:Ad.f k A8 l0_1=some (r1,r2)):
  Calls Tryd.prog 7 #[.agg #[.int .i64 A8,.slice A0_1 l0_1.length c0_1]] w fun e w'=>∃v1_:Value,e= .returned (.agg #[.int .i64 r1,v1_])∧Kd.N k49 49 w' w.heap.size (fun k_=>(P0_1_ k_∨w.heap.size≤k_)) v1_ r2∧Below w.heap.size w w':=by
 have hu24:=Tryd.underlying24
 have hu33:=Tryd.underlying33
 have hu57:=Tryd.underlying57
 have HO0_1:=yA (show Kd.V k57 57 w w.heap.size (fun k_=>(P0_1_ k_∨w.heap.size≤k_)) (.slice A0_1 l0_1.length c0_1) l0_1 from Kd.V_mono hs0_1 (fun k_ hk=> .inl hk))
 have HB:=yA (Below.refl w.heap.size w)
 have H:(Ad.l0 k l0_1 (l0_1.length:Int) 0 A8 ([]:List (S49)))=some (r1,r2):=h
 clear h
 have H':=yA H
 clear H
 go_enter Tryd.func7,Tryd.ntmps7
 go_wp2_with (first|((with_reducible refine Ar (N:=1) rfl ?_); refine Ap ?hg (N:=1) ?hd (cs:= #[.int .i64 A8,.slice A0_1 l0_1.length c0_1]) (t:=24) ?hr ?_; (case hd=>rfl); (case hg=>rfl); (case hr=>first|(go_simp; done)|(go_simp; rfl)); intro gb230 hg w2 hbox hb; have n0_:=yA (Kd.V_below (Kd.V_elderB (by (with_reducible repeat (first|apply Kd.V_alloc|apply Kd.V_drewN|apply Kd.V_drew)); exact HO0_1.out) gb230 (Nat.le_of_eq hg.symm)) hb); have n1_:=yA (AO zB hb); have n2_:=yA (hbox); have n3_:=yA ((by rw [hg]; exact (AT zB):w.heap.size≤gb230)); have n4_:=yA ((by rw [hg]; exact (AT zB):w.heap.size≤gb230)); clear HO0_1; clear HB; have HO0_1:=n0_; have HB:=n1_; have BK230:=n2_; have GW230:=n3_; have GE230:=n4_; clear n0_ n1_ n2_ n3_ n4_; clear hb hbox hg)|((with_reducible refine Ar (N:=2) rfl ?_); refine Ap ?hg (N:=2) ?hd (cs:= #[.int .i64 0,.slice none 0 0]) (t:=33) ?hr ?_; (case hd=>rfl); (case hg=>rfl); (case hr=>first|(go_simp; done)|(go_simp; rfl)); intro gb231 hg w3 hbox hb; have n0_:=yA (Kd.V_below (Kd.V_elderB (by (with_reducible repeat (first|apply Kd.V_alloc|apply Kd.V_drewN|apply Kd.V_drew)); exact HO0_1.out) gb231 (Nat.le_of_eq hg.symm)) hb); have n1_:=yA (AP (g:=gb230) (o:= .cells #[.int .i64 A8,.slice A0_1 l0_1.length c0_1] 24 (0,0)) zA9 hb); have n2_:=yA (AO (by repeat (first|(with_reducible first|exact HB.out|apply AE|apply AC|apply AD|refine AI ?_ GE230.out)|exact HB.out)) hb); have n3_:=yA (hbox); have n4_:=yA ((by rw [hg]; exact (AT (by repeat (first|(with_reducible first|exact HB.out|apply AE|apply AC|apply AD|refine AI ?_ GE230.out)|exact HB.out))):w.heap.size≤gb231)); have n5_:=yA ((by rw [hg]; exact (AT (by repeat (first|(with_reducible first|exact HB.out|apply AE|apply AC|apply AD|refine AI ?_ GE230.out)|exact HB.out))):w.heap.size≤gb231)); have n6_:=yA ((by rw [hg]; exact Nat.ne_of_lt (B0 (g:=gb230) (o:= .cells #[.int .i64 A8,.slice A0_1 l0_1.length c0_1] 24 (0,0)) zA9):gb230≠gb231)); have n7_:=yA ((by rw [hg]; exact Nat.ne_of_gt (B0 (g:=gb230) (o:= .cells #[.int .i64 A8,.slice A0_1 l0_1.length c0_1] 24 (0,0)) zA9):gb231≠gb230)); clear HO0_1; clear BK230; clear HB; have HO0_1:=n0_; have BK230:=n1_; have HB:=n2_; have BK231:=n3_; have GW231:=n4_; have GE231:=n5_; have NB230_231:=n6_; have NB231_230:=n7_; clear n0_ n1_ n2_ n3_ n4_ n5_ n6_ n7_; clear hb hbox hg; have hnb4:=NB230_231.out; have hnc4:=NB231_230.out; have hcz5_0:w3.cell? ⟨gb230,0,none⟩=some (.int .i64 A8):=(AK BK230.out 0).trans rfl; have hcz5_1:w3.cell? ⟨gb230,1,none⟩=some (.slice A0_1 l0_1.length c0_1):=(AK BK230.out 1).trans rfl; have hfz5_0:=AJ BK230.out 0; have hfz5_1:=AJ BK230.out 1)|((with_reducible refine Ar (N:=3) rfl ?_); refine Ap ?hg (N:=3) ?hd (cs:= #[.int .i64 0,.slice none 0 0]) (t:=33) ?hr ?_; (case hd=>rfl); (case hg=>rfl); (case hr=>first|(go_simp; done)|(go_simp; rfl)); intro gb232 hg w6 hbox hb; have n0_:=yA (Kd.V_below (Kd.V_elderB (by (with_reducible repeat (first|apply Kd.V_alloc|apply Kd.V_drewN|apply Kd.V_drew)); exact HO0_1.out) gb232 (Nat.le_of_eq hg.symm)) hb); have n1_:=yA (AP (g:=gb230) (o:= .cells #[.int .i64 A8,.slice A0_1 l0_1.length c0_1] 24 (0,0)) zA9 hb); have n2_:=yA (AP (g:=gb231) (o:= .cells #[.int .i64 0,.slice none 0 0] 33 (0,0)) zB7 hb); have n3_:=yA (AO (by repeat (first|(with_reducible first|exact HB.out|apply AE|apply AC|apply AD|refine AI ?_ GE230.out|refine AI ?_ GE231.out)|exact HB.out)) hb); have n4_:=yA (hbox); have n5_:=yA ((by rw [hg]; exact (AT (by repeat (first|(with_reducible first|exact HB.out|apply AE|apply AC|apply AD|refine AI ?_ GE230.out|refine AI ?_ GE231.out)|exact HB.out))):w.heap.size≤gb232)); have n6_:=yA ((by rw [hg]; exact (AT (by repeat (first|(with_reducible first|exact HB.out|apply AE|apply AC|apply AD|refine AI ?_ GE230.out|refine AI ?_ GE231.out)|exact HB.out))):w.heap.size≤gb232)); have n7_:=yA ((by rw [hg]; exact Nat.ne_of_lt (B0 (g:=gb230) (o:= .cells #[.int .i64 A8,.slice A0_1 l0_1.length c0_1] 24 (0,0)) zA9):gb230≠gb232)); have n8_:=yA ((by rw [hg]; exact Nat.ne_of_gt (B0 (g:=gb230) (o:= .cells #[.int .i64 A8,.slice A0_1 l0_1.length c0_1] 24 (0,0)) zA9):gb232≠gb230)); have n9_:=yA ((by rw [hg]; exact Nat.ne_of_lt (B0 (g:=gb231) (o:= .cells #[.int .i64 0,.slice none 0 0] 33 (0,0)) zB7):gb231≠gb232)); have n10_:=yA ((by rw [hg]; exact Nat.ne_of_gt (B0 (g:=gb231) (o:= .cells #[.int .i64 0,.slice none 0 0] 33 (0,0)) zB7):gb232≠gb231)); clear HO0_1; clear BK230; clear BK231; clear HB; have HO0_1:=n0_; have BK230:=n1_; have BK231:=n2_; have HB:=n3_; have BK232:=n4_; have GW232:=n5_; have GE232:=n6_; have NB230_232:=n7_; have NB232_230:=n8_; have NB231_232:=n9_; have NB232_231:=n10_; clear n0_ n1_ n2_ n3_ n4_ n5_ n6_ n7_ n8_ n9_ n10_; clear hb hbox hg; have hnb7:=NB232_230.out; have hnc7:=NB230_232.out; have hnb8:=NB232_231.out; have hnc8:=NB231_232.out; have hcz9_0:w6.cell? ⟨gb232,0,none⟩=some (.int .i64 0):=(AK BK232.out 0).trans rfl; have hcz9_1:w6.cell? ⟨gb232,1,none⟩=some (.slice none 0 0):=(AK BK232.out 1).trans rfl; have hfz9_0:=AJ BK232.out 0; have hfz9_1:=AJ BK232.out 1; have hcz10_0:w6.cell? ⟨gb230,0,none⟩=some (.int .i64 A8):=(AK BK230.out 0).trans rfl; have hcz10_1:w6.cell? ⟨gb230,1,none⟩=some (.slice A0_1 l0_1.length c0_1):=(AK BK230.out 1).trans rfl; have hfz10_0:=AJ BK230.out 0; have hfz10_1:=AJ BK230.out 1))
 go_loopg [12] k (fun kq v12 w'=>∃(x12_1:Int) (x233001_1:List (S49)) (u233001:Value),v12= .int .i64 x12_1∧Aside0 (Ad.l0 kq l0_1 (l0_1.length:Int) x12_1 A8 x233001_1=some (r1,r2))∧Aside0 (kq≤k)∧Aside0 (Kd.V k57 57 w' w.heap.size (fun k_=>(P0_1_ k_∨w.heap.size≤k_)∧some k_≠(u233001:Value).ownBlock∧k_≠gb230∧k_≠gb231∧k_≠gb232) (.slice A0_1 l0_1.length c0_1) l0_1)∧Aside0 (Kd.V k57 57 w' w.heap.size (fun k_=>(P0_1_ k_∨w.heap.size≤k_)∧some k_≠(u233001:Value).ownBlock∧k_≠gb230∧k_≠gb231∧k_≠gb232) (.slice A0_1 l0_1.length c0_1) l0_1)∧Aside0 (Kd.N k49 49 w' w.heap.size (fun k_=>(P0_1_ k_∨w.heap.size≤k_)∧k_≠gb230∧k_≠gb231∧k_≠gb232) u233001 x233001_1)∧Aside0 (w'.heap[gb230]? =some (.cells #[.int .i64 A8,(.slice A0_1 l0_1.length c0_1)] 24 (0,0)))∧Aside0 (w'.heap[gb231]? =some (.cells #[.int .i64 0,(.slice none 0 0)] 33 (0,0)))∧Aside0 (w'.heap[gb232]? =some (.cells #[.int .i64 A8,u233001] 33 (0,0)))∧Aside0 (Below w.heap.size w w'))
 case atStart=>exact ⟨(0),(([]:List (S49))),(.slice none 0 0),zG,H',⟨Nat.le_refl _⟩,⟨by (with_reducible repeat (first|apply Kd.V_alloc|apply Kd.V_drewN|apply Kd.V_drew)); exact Kd.V_mono (Kd.V_far (p:=⟨gb232,1,none⟩) (Kd.V_far (p:=⟨gb232,0,none⟩) (Kd.V_mono HO0_1.out (fun k_ hk=>(⟨hk,hk.2⟩:_∧k_≠gb232))) (fun _ hk=>hk.2) (.int .i64 A8)) (fun _ hk=>hk.2) (.slice none 0 0)) (fun _ hk=>⟨hk.1.1.1.1,⟨(by simp [Value.ownBlock]),⟨hk.1.1.1.2,⟨hk.1.1.2,hk.1.2⟩⟩⟩⟩)⟩,⟨by (with_reducible repeat (first|apply Kd.V_alloc|apply Kd.V_drewN|apply Kd.V_drew)); exact Kd.V_mono (Kd.V_far (p:=⟨gb232,1,none⟩) (Kd.V_far (p:=⟨gb232,0,none⟩) (Kd.V_mono HO0_1.out (fun k_ hk=>(⟨hk,hk.2⟩:_∧k_≠gb232))) (fun _ hk=>hk.2) (.int .i64 A8)) (fun _ hk=>hk.2) (.slice none 0 0)) (fun _ hk=>⟨hk.1.1.1.1,⟨(by simp [Value.ownBlock]),⟨hk.1.1.1.2,⟨hk.1.1.2,hk.1.2⟩⟩⟩⟩)⟩,⟨by first|exact Kd.S_nil _ _ _ _ _|exact Kd.N_nil _ _ _ _ _|exact Kd.V_nil _ _ _ _ _|exact Kd.Q_nil _ _ _ _ _|exact Kd.R_nil _ _ _ _ _⟩,⟨by (with_reducible repeat (first|refine AG ?_ _|refine AH ?_|refine AF ?_ _)); refine Aa ?_ NB230_232.out _; (with_reducible repeat (first|refine AG ?_ _|refine AH ?_|refine AF ?_ _)); refine Aa ?_ NB230_232.out _; (with_reducible repeat (first|refine AG ?_ _|refine AH ?_|refine AF ?_ _)); exact BK230.out⟩,⟨by (with_reducible repeat (first|refine AG ?_ _|refine AH ?_|refine AF ?_ _)); refine Aa ?_ NB231_232.out _; (with_reducible repeat (first|refine AG ?_ _|refine AH ?_|refine AF ?_ _)); refine Aa ?_ NB231_232.out _; (with_reducible repeat (first|refine AG ?_ _|refine AH ?_|refine AF ?_ _)); exact BK231.out⟩,⟨by (with_reducible repeat (first|refine AG ?_ _|refine AH ?_|refine AF ?_ _)); refine Am (cs:= #[.int .i64 A8,.slice none 0 0]) ?_ 1 _ rfl; (with_reducible repeat (first|refine AG ?_ _|refine AH ?_|refine AF ?_ _)); refine Am (cs:= #[.int .i64 0,.slice none 0 0]) ?_ 0 _ rfl; (with_reducible repeat (first|refine AG ?_ _|refine AH ?_|refine AF ?_ _)); exact BK232.out⟩,⟨by repeat (first|(with_reducible first|exact HB.out|apply AE|apply AC|apply AD|refine AI ?_ GE230.out|refine AI ?_ GE231.out|refine AI ?_ GE232.out)|exact HB.out)⟩⟩
 case round=>
  clear H'
  try clear p2
  try clear c4
  try clear c7
  try clear c8
  try clear hcz10_0
  try clear hcz10_1
  try clear hcz5_0
  try clear hcz5_1
  try clear hcz9_0
  try clear hcz9_1
  try clear hfz10_0
  try clear hfz10_1
  try clear hfz5_0
  try clear hfz5_1
  try clear hfz9_0
  try clear hfz9_1
  obtain ⟨x12_1,x233001_1,u233001,rfl,HA,HK1,HO_10,HO_231001,HO_233001,BK230,BK231,BK232,HB⟩:=hrel
  cases gk with
  |zero=>exact absurd HA.out (by simp [Ad.l0])
  | succ k1 =>
   have H:=HA.out
   clear HA
   simp only [Ad.l0] at H
   by_cases c11:x12_1<(l0_1.length:Int)
   ·rw [if_pos c11] at H
    have c11b0:decide (x12_1<(l0_1.length:Int))=true:=decide_eq_true c11
    clear c11
    by_cases c12:0≤x12_1
    ·rw [if_pos c12] at H
     have c12b0:decide (0≤x12_1)=true:=decide_eq_true c12
     clear c12
     by_cases c13:x12_1<(l0_1.length:Int)
     ·rw [if_pos c13] at H
      have c13b0:decide (x12_1<(l0_1.length:Int))=true:=decide_eq_true c13
      clear c13
      by_cases c14:x233001_1.length<2513169434916
      ·rw [if_pos c14] at H
       have LMc14:=yA c14
       clear c14
       obtain ⟨y235,hy235⟩:∃y_:List (S49),y_=(x233001_1++[(⟨(AL l0_1 x12_1).f0,(AL l0_1 x12_1).f1,(AL l0_1 x12_1).f2,(AL l0_1 x12_1).f3⟩:S49)]):=⟨_,rfl⟩
       replace H:(Ad.l0 k1 l0_1 (l0_1.length:Int) (wrap64 (x12_1+1)) A8 y235)=some (r1,r2):=by first|(rw [hy235]; with_reducible exact H)|(have H2_:=(Option.bind_some _ _).symm.trans H; rw [hy235]; with_reducible exact H2_)|(have H2_:=(Option.bind_some _ _).symm.trans H; with_reducible exact H2_)|with_reducible exact H|(rw [hy235]; exact H)|exact H
       have Ny235:=yA hy235
       clear hy235
       have H':=yA H
       clear H
       have p233:0≤(x12_1:Int):=yD
       have q233:x12_1<(l0_1.length:Int):=yD
       obtain ⟨ad233,A233_3,c233_3,e233,hx233_0,hx233_1,hx233_2,hx233_3,hl233_3,hi233_3⟩:=Bb (Kd.V_reads' HO_10.out).2.2 x12_1 p233 q233
       cases e233
       obtain ⟨ce233,hce233,hMe233,hcc233⟩:=Kd.V_get HO_10.out z57 x12_1 p233 (by first|exact q233|exact yD|(have e_:=(Kd.V_reads' HO_10.out).1; omega))
       obtain ⟨ua233_3,uc233_3,rfl,ul233_3,ge233_3⟩:=FC hMe233
       have hv233_3:=hcc233 3 _ rfl
       rw [C0 _ _ 3 zI] at hv233_3
       replace hv233_3:=Option.some.inj (hv233_3.symm.trans hx233_3)
       injection hv233_3 with hva_ hvn_ hvc_
       rw [hva_] at ge233_3
       rw [hvc_] at ul233_3
       have HL233_3:=yA (show Kd.V (Kd.int .i64) 3 _ w.heap.size _ _ ((AL l0_1 x12_1).f3) from Kd.V_mk ul233_3 ge233_3)
       clear hva_ hvn_ hvc_ ge233_3 ul233_3
       clear hcc233 hce233
       have HR233_3:=yA hi233_3
       have HC233_3:=yA hl233_3
       clear hi233_3 hl233_3
       replace p233:=eq_true p233
       replace q233:=eq_true q233
       go_wp2_with (first|((with_reducible refine Ar (N:=5) rfl ?_); refine Ap ?hg (N:=5) ?hd (cs:= #[.string (⟨#[]⟩:ByteArray),.int .i64 0,.int .i64 0,.slice none 0 0]) (t:=57) ?hr ?_; (case hd=>rfl); (case hg=>rfl); (case hr=>first|(go_simp; done)|(go_simp; rfl)); intro gb234 hg w15 hbox hb; have n0_:=yA (Kd.V_below (Kd.V_elderB (by (with_reducible repeat (first|apply Kd.V_alloc|apply Kd.V_drewN|apply Kd.V_drew)); exact HO_10.out) gb234 (Nat.le_of_eq hg.symm)) hb); have n1_:=yA (Kd.V_below (Kd.V_elderB (by (with_reducible repeat (first|apply Kd.V_alloc|apply Kd.V_drewN|apply Kd.V_drew)); exact HO_231001.out) gb234 (Nat.le_of_eq hg.symm)) hb); have n2_:=yA (Kd.N_below (Kd.N_elderB (by (with_reducible repeat (first|apply Kd.N_alloc|apply Kd.N_drewN|apply Kd.N_drew)); exact HO_233001.out) gb234 (Nat.le_of_eq hg.symm)) hb); have n3_:=yA (Kd.V_below (Kd.V_elderB (by (with_reducible repeat (first|apply Kd.V_alloc|apply Kd.V_drewN|apply Kd.V_drew)); exact HL233_3.out) gb234 (Nat.le_of_eq hg.symm)) hb); have n4_:=yA (AP (g:=gb230) (o:= .cells #[.int .i64 A8,.slice (some ad233) l0_1.length c0_1] 24 (0,0)) zA9 hb); have n5_:=yA (AP (g:=gb231) (o:= .cells #[.int .i64 0,.slice none 0 0] 33 (0,0)) zB7 hb); have n6_:=yA (AP (g:=gb232) (o:= .cells #[.int .i64 A8,u233001] 33 (0,0)) (by (with_reducible repeat (first|refine AG ?_ _|refine AH ?_|refine AF ?_ _)); exact BK232.out) hb); have n7_:=yA (Kd.C_below (by repeat (first|(with_reducible exact HR233_3.out)|(with_reducible refine Kd.C_alloc ?_ _)|(with_reducible refine Kd.C_drewN ?_ _)|(with_reducible refine Kd.C_drew ?_)|exact HR233_3.out)) hb); have n8_:=yA (AO (by repeat (first|(with_reducible first|exact HB.out|apply AE|apply AC|apply AD|refine AI ?_ GE230.out|refine AI ?_ GE231.out|refine AI ?_ GE232.out)|exact HB.out)) hb); have n9_:=yA (hbox); have n10_:=yA ((by rw [hg]; exact (AT (by repeat (first|(with_reducible first|exact HB.out|apply AE|apply AC|apply AD|refine AI ?_ GE230.out|refine AI ?_ GE231.out|refine AI ?_ GE232.out)|exact HB.out))):w.heap.size≤gb234)); have n11_:=yA ((by rw [hg]; exact (AT (by repeat (first|(with_reducible first|exact HB.out|apply AE|apply AC|apply AD|refine AI ?_ GE230.out|refine AI ?_ GE231.out|refine AI ?_ GE232.out)|exact HB.out))):w.heap.size≤gb234)); have n12_:=yA ((by rw [hg]; exact Nat.ne_of_lt (B0 (g:=gb230) (o:= .cells #[.int .i64 A8,.slice (some ad233) l0_1.length c0_1] 24 (0,0)) zA9):gb230≠gb234)); have n13_:=yA ((by rw [hg]; exact Nat.ne_of_gt (B0 (g:=gb230) (o:= .cells #[.int .i64 A8,.slice (some ad233) l0_1.length c0_1] 24 (0,0)) zA9):gb234≠gb230)); have n14_:=yA ((by rw [hg]; exact Nat.ne_of_lt (B0 (g:=gb231) (o:= .cells #[.int .i64 0,.slice none 0 0] 33 (0,0)) zB7):gb231≠gb234)); have n15_:=yA ((by rw [hg]; exact Nat.ne_of_gt (B0 (g:=gb231) (o:= .cells #[.int .i64 0,.slice none 0 0] 33 (0,0)) zB7):gb234≠gb231)); have n16_:=yA ((by rw [hg]; exact Nat.ne_of_lt (B0 (g:=gb232) (o:= .cells #[.int .i64 A8,u233001] 33 (0,0)) (by (with_reducible repeat (first|refine AG ?_ _|refine AH ?_|refine AF ?_ _)); exact BK232.out)):gb232≠gb234)); have n17_:=yA ((by rw [hg]; exact Nat.ne_of_gt (B0 (g:=gb232) (o:= .cells #[.int .i64 A8,u233001] 33 (0,0)) (by (with_reducible repeat (first|refine AG ?_ _|refine AH ?_|refine AF ?_ _)); exact BK232.out)):gb234≠gb232)); clear HO_10; clear HO_231001; clear HO_233001; clear HL233_3; clear BK230; clear BK231; clear BK232; clear HR233_3; clear HB; have HO_10:=n0_; have HO_231001:=n1_; have HO_233001:=n2_; have HL233_3:=n3_; have BK230:=n4_; have BK231:=n5_; have BK232:=n6_; have HR233_3:=n7_; have HB:=n8_; have BK234:=n9_; have GW234:=n10_; have GE234:=n11_; have NB230_234:=n12_; have NB234_230:=n13_; have NB231_234:=n14_; have NB234_231:=n15_; have NB232_234:=n16_; have NB234_232:=n17_; clear n0_ n1_ n2_ n3_ n4_ n5_ n6_ n7_ n8_ n9_ n10_ n11_ n12_ n13_ n14_ n15_ n16_ n17_; clear hb hbox hg; have hnb16:=NB234_230.out; have hnc16:=NB230_234.out; have hnb17:=NB234_231.out; have hnc17:=NB231_234.out; have hnb18:=NB234_232.out; have hnc18:=NB232_234.out; have hcz19_0:w15.cell? ⟨gb234,0,none⟩=some (.string (⟨#[]⟩:ByteArray)):=(AK BK234.out 0).trans rfl; have hcz19_1:w15.cell? ⟨gb234,1,none⟩=some (.int .i64 0):=(AK BK234.out 1).trans rfl; have hcz19_2:w15.cell? ⟨gb234,2,none⟩=some (.int .i64 0):=(AK BK234.out 2).trans rfl; have hcz19_3:w15.cell? ⟨gb234,3,none⟩=some (.slice none 0 0):=(AK BK234.out 3).trans rfl; have hfz19_0:=AJ BK234.out 0; have hfz19_1:=AJ BK234.out 1; have hfz19_2:=AJ BK234.out 2; have hfz19_3:=AJ BK234.out 3)|((with_reducible refine C3 (t:=57) (p:=5) rfl ?_); refine Bx (t:=57) (p:=5) (v:= ?vo_w20) (w1:=((((w15.setCell ⟨gb234,0,none⟩ (.string ((AL l0_1 x12_1).f0))).setCell ⟨gb234,1,none⟩ (.int .i64 ((AL l0_1 x12_1).f1))).setCell ⟨gb234,2,none⟩ (.int .i64 ((AL l0_1 x12_1).f2))).setCell ⟨gb234,3,none⟩ (.slice A233_3 ((AL l0_1 x12_1).f3).length c233_3))) ?hg ?ho ?hn ?hr ?_; (case ho=>rfl); (case hg=>rfl); (case hn=>rfl); (case hr=>first|(go_simp; done)|(go_simp; rfl)); intro w20 hw; have n0_:Aside0 (Kd.V k57 57 w20 w.heap.size (fun k_=>(P0_1_ k_∨w.heap.size≤k_)∧some k_≠(u233001:Value).ownBlock∧k_≠gb230∧k_≠gb231∧k_≠gb232∧k_≠gb234) (.slice (some ad233) l0_1.length c0_1) l0_1):=⟨(by rw [hw]; exact (by (with_reducible repeat (first|apply Kd.V_alloc|apply Kd.V_drewN|apply Kd.V_drew)); exact Kd.V_mono (Kd.V_far (p:=⟨gb234,3,none⟩) (Kd.V_far (p:=⟨gb234,2,none⟩) (Kd.V_far (p:=⟨gb234,1,none⟩) (Kd.V_far (p:=⟨gb234,0,none⟩) (Kd.V_mono HO_10.out (fun k_ hk=>(⟨hk,hk.2⟩:_∧k_≠gb234))) (fun _ hk=>hk.2) (.string ((AL l0_1 x12_1).f0))) (fun _ hk=>hk.2) (.int .i64 ((AL l0_1 x12_1).f1))) (fun _ hk=>hk.2) (.int .i64 ((AL l0_1 x12_1).f2))) (fun _ hk=>hk.2) (.slice A233_3 ((AL l0_1 x12_1).f3).length c233_3)) (fun _ hk=>⟨hk.1.1.1,⟨hk.1.1.2.1,⟨hk.1.1.2.2.1,⟨hk.1.1.2.2.2.1,⟨hk.1.1.2.2.2.2,hk.1.2⟩⟩⟩⟩⟩)))⟩; have n1_:Aside0 (Kd.V k57 57 w20 w.heap.size (fun k_=>(P0_1_ k_∨w.heap.size≤k_)∧some k_≠(u233001:Value).ownBlock∧k_≠gb230∧k_≠gb231∧k_≠gb232∧k_≠gb234) (.slice (some ad233) l0_1.length c0_1) l0_1):=⟨(by rw [hw]; exact (by (with_reducible repeat (first|apply Kd.V_alloc|apply Kd.V_drewN|apply Kd.V_drew)); exact Kd.V_mono (Kd.V_far (p:=⟨gb234,3,none⟩) (Kd.V_far (p:=⟨gb234,2,none⟩) (Kd.V_far (p:=⟨gb234,1,none⟩) (Kd.V_far (p:=⟨gb234,0,none⟩) (Kd.V_mono HO_231001.out (fun k_ hk=>(⟨hk,hk.2⟩:_∧k_≠gb234))) (fun _ hk=>hk.2) (.string ((AL l0_1 x12_1).f0))) (fun _ hk=>hk.2) (.int .i64 ((AL l0_1 x12_1).f1))) (fun _ hk=>hk.2) (.int .i64 ((AL l0_1 x12_1).f2))) (fun _ hk=>hk.2) (.slice A233_3 ((AL l0_1 x12_1).f3).length c233_3)) (fun _ hk=>⟨hk.1.1.1,⟨hk.1.1.2.1,⟨hk.1.1.2.2.1,⟨hk.1.1.2.2.2.1,⟨hk.1.1.2.2.2.2,hk.1.2⟩⟩⟩⟩⟩)))⟩; have n2_:Aside0 (Kd.N k49 49 w20 w.heap.size (fun k_=>(P0_1_ k_∨w.heap.size≤k_)∧k_≠gb230∧k_≠gb231∧k_≠gb232∧k_≠gb234) u233001 x233001_1):=⟨(by rw [hw]; exact (by (with_reducible repeat (first|apply Kd.N_alloc|apply Kd.N_drewN|apply Kd.N_drew)); exact Kd.N_mono (Kd.N_far (p:=⟨gb234,3,none⟩) (Kd.N_far (p:=⟨gb234,2,none⟩) (Kd.N_far (p:=⟨gb234,1,none⟩) (Kd.N_far (p:=⟨gb234,0,none⟩) (Kd.N_mono HO_233001.out (fun k_ hk=>(⟨hk,hk.2⟩:_∧k_≠gb234))) (fun _ hk=>hk.2) (.string ((AL l0_1 x12_1).f0))) (fun _ hk=>hk.2) (.int .i64 ((AL l0_1 x12_1).f1))) (fun _ hk=>hk.2) (.int .i64 ((AL l0_1 x12_1).f2))) (fun _ hk=>hk.2) (.slice A233_3 ((AL l0_1 x12_1).f3).length c233_3)) (fun _ hk=>⟨hk.1.1.1,⟨hk.1.1.2.1,⟨hk.1.1.2.2.1,⟨hk.1.1.2.2.2,hk.1.2⟩⟩⟩⟩)))⟩; have n3_:Aside0 (Kd.V (Kd.int .i64) 3 w20 w.heap.size (fun k_=>(P0_1_ k_∨w.heap.size≤k_)∧some k_≠(u233001:Value).ownBlock∧k_≠gb230∧k_≠gb231∧k_≠gb232∧k_≠gb234) (.slice A233_3 ((AL l0_1 x12_1).f3).length c233_3) ((AL l0_1 x12_1).f3)):=⟨(by rw [hw]; exact (by (with_reducible repeat (first|apply Kd.V_alloc|apply Kd.V_drewN|apply Kd.V_drew)); exact Kd.V_mono (Kd.V_far (p:=⟨gb234,3,none⟩) (Kd.V_far (p:=⟨gb234,2,none⟩) (Kd.V_far (p:=⟨gb234,1,none⟩) (Kd.V_far (p:=⟨gb234,0,none⟩) (Kd.V_mono HL233_3.out (fun k_ hk=>(⟨hk,hk.2⟩:_∧k_≠gb234))) (fun _ hk=>hk.2) (.string ((AL l0_1 x12_1).f0))) (fun _ hk=>hk.2) (.int .i64 ((AL l0_1 x12_1).f1))) (fun _ hk=>hk.2) (.int .i64 ((AL l0_1 x12_1).f2))) (fun _ hk=>hk.2) (.slice A233_3 ((AL l0_1 x12_1).f3).length c233_3)) (fun _ hk=>⟨hk.1.1.1,⟨hk.1.1.2.1,⟨hk.1.1.2.2.1,⟨hk.1.1.2.2.2.1,⟨hk.1.1.2.2.2.2,hk.1.2⟩⟩⟩⟩⟩)))⟩; have n4_:Aside0 (w20.heap[gb230]? =some (.cells #[.int .i64 A8,.slice (some ad233) l0_1.length c0_1] 24 (0,0))):=⟨(by rw [hw]; exact (by (with_reducible repeat (first|refine AG ?_ _|refine AH ?_|refine AF ?_ _)); refine Aa ?_ NB230_234.out _; (with_reducible repeat (first|refine AG ?_ _|refine AH ?_|refine AF ?_ _)); refine Aa ?_ NB230_234.out _; (with_reducible repeat (first|refine AG ?_ _|refine AH ?_|refine AF ?_ _)); refine Aa ?_ NB230_234.out _; (with_reducible repeat (first|refine AG ?_ _|refine AH ?_|refine AF ?_ _)); refine Aa ?_ NB230_234.out _; (with_reducible repeat (first|refine AG ?_ _|refine AH ?_|refine AF ?_ _)); exact BK230.out))⟩; have n5_:Aside0 (w20.heap[gb231]? =some (.cells #[.int .i64 0,.slice none 0 0] 33 (0,0))):=⟨(by rw [hw]; exact (by (with_reducible repeat (first|refine AG ?_ _|refine AH ?_|refine AF ?_ _)); refine Aa ?_ NB231_234.out _; (with_reducible repeat (first|refine AG ?_ _|refine AH ?_|refine AF ?_ _)); refine Aa ?_ NB231_234.out _; (with_reducible repeat (first|refine AG ?_ _|refine AH ?_|refine AF ?_ _)); refine Aa ?_ NB231_234.out _; (with_reducible repeat (first|refine AG ?_ _|refine AH ?_|refine AF ?_ _)); refine Aa ?_ NB231_234.out _; (with_reducible repeat (first|refine AG ?_ _|refine AH ?_|refine AF ?_ _)); exact BK231.out))⟩; have n6_:Aside0 (w20.heap[gb232]? =some (.cells #[.int .i64 A8,u233001] 33 (0,0))):=⟨(by rw [hw]; exact (by (with_reducible repeat (first|refine AG ?_ _|refine AH ?_|refine AF ?_ _)); refine Aa ?_ NB232_234.out _; (with_reducible repeat (first|refine AG ?_ _|refine AH ?_|refine AF ?_ _)); refine Aa ?_ NB232_234.out _; (with_reducible repeat (first|refine AG ?_ _|refine AH ?_|refine AF ?_ _)); refine Aa ?_ NB232_234.out _; (with_reducible repeat (first|refine AG ?_ _|refine AH ?_|refine AF ?_ _)); refine Aa ?_ NB232_234.out _; (with_reducible repeat (first|refine AG ?_ _|refine AH ?_|refine AF ?_ _)); exact BK232.out))⟩; have n7_:Aside0 (w20.heap[gb234]? =some (.cells #[.string ((AL l0_1 x12_1).f0),.int .i64 ((AL l0_1 x12_1).f1),.int .i64 ((AL l0_1 x12_1).f2),.slice A233_3 ((AL l0_1 x12_1).f3).length c233_3] 57 (0,0))):=⟨(by rw [hw]; exact (by (with_reducible repeat (first|refine AG ?_ _|refine AH ?_|refine AF ?_ _)); refine Am (cs:= #[.string ((AL l0_1 x12_1).f0),.int .i64 ((AL l0_1 x12_1).f1),.int .i64 ((AL l0_1 x12_1).f2),.slice none 0 0]) ?_ 3 _ rfl; (with_reducible repeat (first|refine AG ?_ _|refine AH ?_|refine AF ?_ _)); refine Am (cs:= #[.string ((AL l0_1 x12_1).f0),.int .i64 ((AL l0_1 x12_1).f1),.int .i64 0,.slice none 0 0]) ?_ 2 _ rfl; (with_reducible repeat (first|refine AG ?_ _|refine AH ?_|refine AF ?_ _)); refine Am (cs:= #[.string ((AL l0_1 x12_1).f0),.int .i64 0,.int .i64 0,.slice none 0 0]) ?_ 1 _ rfl; (with_reducible repeat (first|refine AG ?_ _|refine AH ?_|refine AF ?_ _)); refine Am (cs:= #[.string (⟨#[]⟩:ByteArray),.int .i64 0,.int .i64 0,.slice none 0 0]) ?_ 0 _ rfl; (with_reducible repeat (first|refine AG ?_ _|refine AH ?_|refine AF ?_ _)); exact BK234.out))⟩; have n8_:Aside0 (Below w.heap.size w w20):=⟨(by rw [hw]; exact zC6)⟩; clear hw; clear HO_10; clear HO_231001; clear HO_233001; clear HL233_3; clear BK230; clear BK231; clear BK232; clear BK234; clear HB; have HO_10:=n0_; have HO_231001:=n1_; have HO_233001:=n2_; have HL233_3:=n3_; have BK230:=n4_; have BK231:=n5_; have BK232:=n6_; have BK234:=n7_; have HB:=n8_; clear n0_ n1_ n2_ n3_ n4_ n5_ n6_ n7_ n8_; have hnb21:=NB232_230.out; have hnc21:=NB230_232.out; have hnb22:=NB232_231.out; have hnc22:=NB231_232.out; have hcz23_0:w20.cell? ⟨gb232,0,none⟩=some (.int .i64 A8):=(AK BK232.out 0).trans rfl; have hcz23_1:w20.cell? ⟨gb232,1,none⟩=some (u233001):=(AK BK232.out 1).trans rfl; have hfz23_0:=AJ BK232.out 0; have hfz23_1:=AJ BK232.out 1; have hcz24_0:w20.cell? ⟨gb234,0,none⟩=some (.string ((AL l0_1 x12_1).f0)):=(AK BK234.out 0).trans rfl; have hcz24_1:w20.cell? ⟨gb234,1,none⟩=some (.int .i64 ((AL l0_1 x12_1).f1)):=(AK BK234.out 1).trans rfl; have hcz24_2:w20.cell? ⟨gb234,2,none⟩=some (.int .i64 ((AL l0_1 x12_1).f2)):=(AK BK234.out 2).trans rfl; have hcz24_3:w20.cell? ⟨gb234,3,none⟩=some (.slice A233_3 ((AL l0_1 x12_1).f3).length c233_3):=(AK BK234.out 3).trans rfl; have hfz24_0:=AJ BK234.out 0; have hfz24_1:=AJ BK234.out 1; have hfz24_2:=AJ BK234.out 2; have hfz24_3:=AJ BK234.out 3)|((with_reducible refine Bs (b:= .append) (xs:= #[.tmp 17,.tmp 19]) rfl ?_); at_builtin; refine Kd.N_append k49 (w0:=w) w.heap.size rfl (.tmp 17) (.tmp 19) 31 49 (.agg #[(.string ⟨#[]⟩),(.int .i64 0),(.int .i64 0),(.slice none 0 0)]) 56 rfl Tryd.underlying31 info49 rfl zA2 zI u233001 x233001_1 (⟨(AL l0_1 x12_1).f0,(AL l0_1 x12_1).f1,(AL l0_1 x12_1).f2,(AL l0_1 x12_1).f3⟩:S49) [.string ((AL l0_1 x12_1).f0),.int .i64 ((AL l0_1 x12_1).f1),.int .i64 ((AL l0_1 x12_1).f2),.slice A233_3 ((AL l0_1 x12_1).f3).length c233_3] (fun k_=>(P0_1_ k_∨w.heap.size≤k_)∧k_≠gb230∧k_≠gb231∧k_≠gb232∧k_≠gb234) (fun k_=>((fun k_=>(P0_1_ k_∨w.heap.size≤k_)∧k_≠gb230∧k_≠gb231∧k_≠gb232∧k_≠gb234)) k_∧some k_≠(u233001:Value).ownBlock) rfl rfl ?aP (fun _ hk=>hk) ?aF ?aO ?aB ?aS ?aL ?_; (case aP=>exact (k49_mkF _ _ (⟨(AL l0_1 x12_1).f0,(AL l0_1 x12_1).f1,(AL l0_1 x12_1).f2,(AL l0_1 x12_1).f3⟩:S49) (Kd.V_reads' (Kd.V_mono (ok':=(fun k_=>((fun k_=>(P0_1_ k_∨w.heap.size≤k_)∧k_≠gb230∧k_≠gb231∧k_≠gb232∧k_≠gb234)) k_∧some k_≠(u233001:Value).ownBlock)) (HL233_3.out) (fun k_ hk=>⟨⟨hk.1,⟨hk.2.2.1,⟨hk.2.2.2.1,⟨hk.2.2.2.2.1,hk.2.2.2.2.2⟩⟩⟩⟩,hk.2.1⟩))).2.1 (Kd.V_F (Kd.V_mono (ok':=(fun k_=>((fun k_=>(P0_1_ k_∨w.heap.size≤k_)∧k_≠gb230∧k_≠gb231∧k_≠gb232∧k_≠gb234)) k_∧some k_≠(u233001:Value).ownBlock)) (HL233_3.out) (fun k_ hk=>⟨⟨hk.1,⟨hk.2.2.1,⟨hk.2.2.2.1,⟨hk.2.2.2.2.1,hk.2.2.2.2.2⟩⟩⟩⟩,hk.2.1⟩))))); (case aB=>exact zC6); (case aF=>exact (fun k_ hk=>⟨(.inr (Nat.le_trans (AT zC6) hk)),Kd.freshB (g:=gb230) (o:= .cells #[.int .i64 A8,.slice (some ad233) l0_1.length c0_1] 24 (0,0)) zA9 k_ hk,Kd.freshB (g:=gb231) (o:= .cells #[.int .i64 0,.slice none 0 0] 33 (0,0)) zB7 k_ hk,Kd.freshB (g:=gb232) (o:= .cells #[.int .i64 A8,u233001] 33 (0,0)) (by (with_reducible repeat (first|refine AG ?_ _|refine AH ?_|refine AF ?_ _)); exact BK232.out) k_ hk,Kd.freshB (g:=gb234) (o:= .cells #[.string ((AL l0_1 x12_1).f0),.int .i64 ((AL l0_1 x12_1).f1),.int .i64 ((AL l0_1 x12_1).f2),.slice A233_3 ((AL l0_1 x12_1).f3).length c233_3] 57 (0,0)) (by (with_reducible repeat (first|refine AG ?_ _|refine AH ?_|refine AF ?_ _)); exact BK234.out) k_ hk⟩)); (case aO=>exact (by (with_reducible repeat (first|apply Kd.N_alloc|apply Kd.N_drewN|apply Kd.N_drew)); exact HO_233001.out)); (case aS=>exact (AT zC6)); (case aL=>have:=LMc14.out; omega); intro v236 w25 ho hb hg hat; rw [←Ny235.out] at ho; have n0_:=yA (Kd.V_afterv (ok:=(fun k_=>(P0_1_ k_∨w.heap.size≤k_)∧k_≠gb230∧k_≠gb231∧k_≠gb232∧k_≠gb234)) (by (with_reducible repeat (first|apply Kd.V_alloc|apply Kd.V_drewN|apply Kd.V_drew)); exact Kd.V_mono HO_10.out (fun _ hk=>⟨⟨hk.1,⟨hk.2.2.1,⟨hk.2.2.2.1,⟨hk.2.2.2.2.1,hk.2.2.2.2.2⟩⟩⟩⟩,hk.2.1⟩)) hg hat); have n1_:=yA (Kd.V_afterv (ok:=(fun k_=>(P0_1_ k_∨w.heap.size≤k_)∧k_≠gb230∧k_≠gb231∧k_≠gb232∧k_≠gb234)) (by (with_reducible repeat (first|apply Kd.V_alloc|apply Kd.V_drewN|apply Kd.V_drew)); exact Kd.V_mono HO_231001.out (fun _ hk=>⟨⟨hk.1,⟨hk.2.2.1,⟨hk.2.2.2.1,⟨hk.2.2.2.2.1,hk.2.2.2.2.2⟩⟩⟩⟩,hk.2.1⟩)) hg hat); have n2_:=yA (BP (g:=gb230) (o:= .cells #[.int .i64 A8,.slice (some ad233) l0_1.length c0_1] 24 (0,0)) zA9 hg (Kd.N_ne HO_233001.out BK230.out zA2)); have n3_:=yA (BP (g:=gb231) (o:= .cells #[.int .i64 0,.slice none 0 0] 33 (0,0)) zB7 hg (Kd.N_ne HO_233001.out BK231.out zA2)); have n4_:=yA (BP (g:=gb232) (o:= .cells #[.int .i64 A8,u233001] 33 (0,0)) (by (with_reducible repeat (first|refine AG ?_ _|refine AH ?_|refine AF ?_ _)); exact BK232.out) hg (Kd.N_ne HO_233001.out BK232.out zA2)); have n5_:=yA (Kd.V_afterv (ok:=(fun k_=>(P0_1_ k_∨w.heap.size≤k_)∧k_≠gb230∧k_≠gb231∧k_≠gb232∧k_≠gb234)) (by (with_reducible repeat (first|apply Kd.V_alloc|apply Kd.V_drewN|apply Kd.V_drew)); exact Kd.V_mono HL233_3.out (fun _ hk=>⟨⟨hk.1,⟨hk.2.2.1,⟨hk.2.2.2.1,⟨hk.2.2.2.2.1,hk.2.2.2.2.2⟩⟩⟩⟩,hk.2.1⟩)) hg hat); have n6_:=yA (BP (g:=gb234) (o:= .cells #[.string ((AL l0_1 x12_1).f0),.int .i64 ((AL l0_1 x12_1).f1),.int .i64 ((AL l0_1 x12_1).f2),.slice A233_3 ((AL l0_1 x12_1).f3).length c233_3] 57 (0,0)) (by (with_reducible repeat (first|refine AG ?_ _|refine AH ?_|refine AF ?_ _)); exact BK234.out) hg (Kd.N_ne HO_233001.out BK234.out zA2)); have n7_:=yA (hb); have n8_:=yA (ho); clear HO_10; clear HO_231001; clear BK230; clear BK231; clear BK232; clear HL233_3; clear BK234; clear HB; clear HO_233001; have HO_10:=n0_; have HO_231001:=n1_; have BK230:=n2_; have BK231:=n3_; have BK232:=n4_; have HL233_3:=n5_; have BK234:=n6_; have HB:=n7_; have HO237:=n8_; clear n0_ n1_ n2_ n3_ n4_ n5_ n6_ n7_ n8_; clear ho hb hg hat; obtain ⟨Ao26,co26,eo26⟩:=Kd.N_slice HO237.out; subst eo26; have hcz27_0:w25.cell? ⟨gb232,0,none⟩=some (.int .i64 A8):=(AK BK232.out 0).trans rfl; have hcz27_1:w25.cell? ⟨gb232,1,none⟩=some (u233001):=(AK BK232.out 1).trans rfl; have hfz27_0:=AJ BK232.out 0; have hfz27_1:=AJ BK232.out 1))
       go_roundg k1
       case measure=>have:=HK1.out; omega
       case rel=>exact ⟨(wrap64 (x12_1+1)),(y235),(.slice Ao26 y235.length co26),zG,H',⟨by have:=HK1.out; omega⟩,⟨by (with_reducible repeat (first|apply Kd.V_alloc|apply Kd.V_drewN|apply Kd.V_drew)); exact Kd.V_mono (Kd.V_far (p:=⟨gb232,1,none⟩) (Kd.V_mono HO_10.out (fun k_ hk=>(⟨hk,hk.1.2.2.2.1⟩:_∧k_≠gb232))) (fun _ hk=>hk.2) (.slice Ao26 y235.length co26)) (fun _ hk=>⟨hk.1.1.1,⟨hk.1.2,⟨hk.1.1.2.1,⟨hk.1.1.2.2.1,hk.1.1.2.2.2.1⟩⟩⟩⟩)⟩,⟨by (with_reducible repeat (first|apply Kd.V_alloc|apply Kd.V_drewN|apply Kd.V_drew)); exact Kd.V_mono (Kd.V_far (p:=⟨gb232,1,none⟩) (Kd.V_mono HO_231001.out (fun k_ hk=>(⟨hk,hk.1.2.2.2.1⟩:_∧k_≠gb232))) (fun _ hk=>hk.2) (.slice Ao26 y235.length co26)) (fun _ hk=>⟨hk.1.1.1,⟨hk.1.2,⟨hk.1.1.2.1,⟨hk.1.1.2.2.1,hk.1.1.2.2.2.1⟩⟩⟩⟩)⟩,⟨by (with_reducible repeat (first|apply Kd.N_alloc|apply Kd.N_drewN|apply Kd.N_drew)); exact Kd.N_mono (Kd.N_far (p:=⟨gb232,1,none⟩) (Kd.N_mono HO237.out (fun k_ hk=>(⟨hk,hk.2.2.2.1⟩:_∧k_≠gb232))) (fun _ hk=>hk.2) (.slice Ao26 y235.length co26)) (fun _ hk=>⟨hk.1.1,⟨hk.1.2.1,⟨hk.1.2.2.1,hk.1.2.2.2.1⟩⟩⟩)⟩,⟨by (with_reducible repeat (first|refine AG ?_ _|refine AH ?_|refine AF ?_ _)); refine Aa ?_ NB230_232.out _; (with_reducible repeat (first|refine AG ?_ _|refine AH ?_|refine AF ?_ _)); exact BK230.out⟩,⟨by (with_reducible repeat (first|refine AG ?_ _|refine AH ?_|refine AF ?_ _)); refine Aa ?_ NB231_232.out _; (with_reducible repeat (first|refine AG ?_ _|refine AH ?_|refine AF ?_ _)); exact BK231.out⟩,⟨by (with_reducible repeat (first|refine AG ?_ _|refine AH ?_|refine AF ?_ _)); refine Am (cs:= #[.int .i64 A8,u233001]) ?_ 1 _ rfl; (with_reducible repeat (first|refine AG ?_ _|refine AH ?_|refine AF ?_ _)); exact BK232.out⟩,⟨by repeat (first|(with_reducible first|exact HB.out|apply AE|apply AC|apply AD|refine AI ?_ GE230.out|refine AI ?_ GE231.out|refine AI ?_ GE232.out|refine AI ?_ GE234.out)|exact HB.out)⟩⟩
      ·rw [if_neg c14] at H
       exact absurd H zA6
     ·rw [if_neg c13] at H
      exact absurd H zA6
    ·rw [if_neg c12] at H
     exact absurd H zA6
   ·rw [if_neg c11] at H
    have c11b0:decide (x12_1<(l0_1.length:Int))=false:=decide_eq_false c11
    clear c11
    simp only [Option.some.injEq,Prod.mk.injEq] at H
    obtain ⟨rfl,rfl⟩:=H
    have hnb28:=NB232_230.out
    have hnc28:=NB230_232.out
    have hnb29:=NB232_231.out
    have hnc29:=NB231_232.out
    have hcz30_0:wr.cell? ⟨gb232,0,none⟩=some (.int .i64 A8):=(AK BK232.out 0).trans rfl
    have hcz30_1:wr.cell? ⟨gb232,1,none⟩=some (u233001):=(AK BK232.out 1).trans rfl
    have hfz30_0:=AJ BK232.out 0
    have hfz30_1:=AJ BK232.out 1
    have hnb31:=NB231_230.out
    have hnc31:=NB230_231.out
    have hcz32_0:wr.cell? ⟨gb231,0,none⟩=some (.int .i64 0):=(AK BK231.out 0).trans rfl
    have hcz32_1:wr.cell? ⟨gb231,1,none⟩=some (.slice none 0 0):=(AK BK231.out 1).trans rfl
    have hfz32_0:=AJ BK231.out 0
    have hfz32_1:=AJ BK231.out 1
    obtain ⟨Ao33,co33,eo33⟩:=Kd.N_slice HO_233001.out
    subst eo33
    go_wp2
    refine bodyPost_ret (results_cell_row rfl _ _ gb231 33 #[.int .i64 A8,.slice Ao33 x233001_1.length co33] (0,0) _ rfl (by (with_reducible repeat (first|refine AG ?_ _|refine AH ?_|refine AF ?_ _)); refine Am (cs:= #[.int .i64 A8,.slice none 0 0]) ?_ 1 _ rfl; (with_reducible repeat (first|refine AG ?_ _|refine AH ?_|refine AF ?_ _)); refine Am (cs:= #[.int .i64 0,.slice none 0 0]) ?_ 0 _ rfl; (with_reducible repeat (first|refine AG ?_ _|refine AH ?_|refine AF ?_ _)); exact BK231.out) Tryd.underlying33 rfl zE) rfl ?_
    exact ⟨_,by first|rfl|(simp [AZ,AY]<;>rfl)|(simp [*,AZ,AY]<;>rfl),by (with_reducible repeat (first|apply Kd.N_alloc|apply Kd.N_drewN|apply Kd.N_drew)); exact Kd.N_mono (Kd.N_far (p:=⟨gb231,1,none⟩) (Kd.N_far (p:=⟨gb231,0,none⟩) (Kd.N_mono HO_233001.out (fun k_ hk=>(⟨hk,hk.2.2.1⟩:_∧k_≠gb231))) (fun _ hk=>hk.2) (.int .i64 A8)) (fun _ hk=>hk.2) (.slice Ao33 x233001_1.length co33)) (fun _ hk=>hk.1.1),by repeat (first|(with_reducible first|exact HB.out|apply AE|apply AC|apply AD|refine AI ?_ GE230.out|refine AI ?_ GE231.out|refine AI ?_ GE232.out)|exact HB.out)⟩
def Ai.l0:Nat→List (S56)→List (S59)→Int→Int→Option ((List (S56)))
 |0,_,_,_,_=>none
 |k+1,x3,x6,x7,x8=>if x8<x7 then (if 0≤x8 then (if x8<(x6.length:Int) then (if x3.length<8796093022208 then (Ai.l0 k (x3++[(⟨(Aj x6 x8).f0,(Aj x6 x8).f1⟩:S56)]) x6 x7 (wrap64 (x8+1))) else (none)) else (none)) else (none)) else (some x3)
def Ai.f (k:Nat) (l0:List (S59)):Option ((List (S56))):=Ai.l0 k ([]:List (S56)) l0 (l0.length:Int) 0
set_option maxHeartbeats 8000000 in
theorem Ai.calls (k:Nat) (A0:Option Addr) (c0:Nat) (l0:List (S59)) (r:List (S56)) (w:World) (hr0:Kd.C k59 w A0 l0.length l0) (hc0:l0.length≤c0) (h:Ai.f k l0=some r):
  Calls Tryd.prog 8 #[.slice A0 l0.length c0] w fun e w'=>∃v0_:Value,e= .returned (v0_)∧Kd.R k56 56 w' w.heap.size (fun _=>True) v0_ r∧Below w.heap.size w w':=by
 have hu59:=Tryd.underlying59
 have HR0:=yA hr0
 have HC0:=yA hc0
 clear hr0 hc0
 have HB:=yA (Below.refl w.heap.size w)
 have H:(Ai.l0 k ([]:List (S56)) l0 (l0.length:Int) 0)=some r:=h
 clear h
 have H':=yA H
 clear H
 go_enter Tryd.func8,Tryd.ntmps8
 go_wp2
 go_loopg [3,8] k (fun kq v3 v8 w'=>∃(x3_1:List (S56)) (x8_1:Int),v8= .int .i64 x8_1∧Aside0 (Ai.l0 kq x3_1 l0 (l0.length:Int) x8_1=some r)∧Aside0 (kq≤k)∧Aside0 (Kd.R k56 56 w' w.heap.size (fun _=>True) v3 x3_1)∧Aside0 (Below w.heap.size w w'))
 case atStart=>exact ⟨(([]:List (S56))),(0),zG,H',⟨Nat.le_refl _⟩,⟨by first|exact Kd.R_nil _ _ _ _ _|exact Kd.N_nil _ _ _ _ _|exact Kd.V_nil _ _ _ _ _|exact Kd.Q_nil _ _ _ _ _|exact Kd.S_nil _ _ _ _ _⟩,⟨by repeat (first|(with_reducible first|exact HB.out|apply AE|apply AC|apply AD)|exact HB.out)⟩⟩
 case round=>
  clear H'
  obtain ⟨x3_1,x8_1,rfl,HA,HK1,HO_3,HB⟩:=hrel
  cases gk with
  |zero=>exact absurd HA.out (by simp [Ai.l0])
  | succ k1 =>
   have H:=HA.out
   clear HA
   simp only [Ai.l0] at H
   by_cases c2:x8_1<(l0.length:Int)
   ·rw [if_pos c2] at H
    have c2b0:decide (x8_1<(l0.length:Int))=true:=decide_eq_true c2
    clear c2
    by_cases c3:0≤x8_1
    ·rw [if_pos c3] at H
     have c3b0:decide (0≤x8_1)=true:=decide_eq_true c3
     clear c3
     by_cases c4:x8_1<(l0.length:Int)
     ·rw [if_pos c4] at H
      have c4b0:decide (x8_1<(l0.length:Int))=true:=decide_eq_true c4
      clear c4
      by_cases c5:x3_1.length<8796093022208
      ·rw [if_pos c5] at H
       have LMc5:=yA c5
       clear c5
       obtain ⟨y240,hy240⟩:∃y_:List (S56),y_=(x3_1++[(⟨(Aj l0 x8_1).f0,(Aj l0 x8_1).f1⟩:S56)]):=⟨_,rfl⟩
       replace H:(Ai.l0 k1 y240 l0 (l0.length:Int) (wrap64 (x8_1+1)))=some r:=by first|(rw [hy240]; with_reducible exact H)|(have H2_:=(Option.bind_some _ _).symm.trans H; rw [hy240]; with_reducible exact H2_)|(have H2_:=(Option.bind_some _ _).symm.trans H; with_reducible exact H2_)|with_reducible exact H|(rw [hy240]; exact H)|exact H
       have Ny240:=yA hy240
       clear hy240
       have H':=yA H
       clear H
       have p238:0≤(x8_1:Int):=yD
       have q238:x8_1<(l0.length:Int):=yD
       obtain ⟨ad238,e238,hx238_0,hx238_1⟩:=BE HR0.out x8_1 p238 q238
       cases e238
       replace hx238_0:=yC HB.out hx238_0
       replace hx238_1:=yC HB.out hx238_1
       replace p238:=eq_true p238
       replace q238:=eq_true q238
       go_wp2_with (first|((with_reducible refine Ar (N:=5) rfl ?_); refine Ap ?hg (N:=5) ?hd (cs:= #[.int .i64 0,.int .i64 0]) (t:=59) ?hr ?_; (case hd=>rfl); (case hg=>rfl); (case hr=>first|(go_simp; done)|(go_simp; rfl)); intro gb239 hg w6 hbox hb; have n0_:=yA (Kd.R_below (by (with_reducible repeat (first|apply Kd.R_alloc|apply Kd.R_drewN|apply Kd.R_drew)); exact HO_3.out) hb); have n1_:=yA (AO zB hb); have n2_:=yA (hbox); have n3_:=yA ((by rw [hg]; exact (AT zB):w.heap.size≤gb239)); have n4_:=yA ((by rw [hg]; exact (AT zB):w.heap.size≤gb239)); clear HO_3; clear HB; have HO_3:=n0_; have HB:=n1_; have BK239:=n2_; have GW239:=n3_; have GE239:=n4_; clear n0_ n1_ n2_ n3_ n4_; clear hb hbox hg; have hcz7_0:w6.cell? ⟨gb239,0,none⟩=some (.int .i64 0):=(AK BK239.out 0).trans rfl; have hcz7_1:w6.cell? ⟨gb239,1,none⟩=some (.int .i64 0):=(AK BK239.out 1).trans rfl; have hfz7_0:=AJ BK239.out 0; have hfz7_1:=AJ BK239.out 1)|((with_reducible refine Bs (b:= .append) (xs:= #[.tmp 12,.tmp 14]) rfl ?_); at_builtin; refine Kd.R_append k56 (w0:=w) w.heap.size rfl (.tmp 12) (.tmp 14) 35 56 (.agg #[(.int .i64 0),(.int .i64 0)]) 16 rfl Tryd.underlying35 info56 rfl zA2 zI u3 x3_1 (⟨(Aj l0 x8_1).f0,(Aj l0 x8_1).f1⟩:S56) [.int .i64 ((Aj l0 x8_1).f0),.int .i64 ((Aj l0 x8_1).f1)] (fun _=>True) (fun _=>False) rfl (by first|(go_simp; done)|(go_simp; rfl)) ?aP (fun _ hk=>hk.elim) ?aF ?aO ?aB ?aS ?aL ?_; (case aP=>exact Ds _ _ _ (⟨(Aj l0 x8_1).f0,(Aj l0 x8_1).f1⟩:S56)); (case aB=>exact (by repeat (first|(with_reducible first|exact HB.out|apply AE|apply AC|apply AD|refine AI ?_ GE239.out)|exact HB.out))); (case aF=>exact (fun _ _=>trivial)); (case aO=>exact (by (with_reducible repeat (first|apply Kd.R_alloc|apply Kd.R_drewN|apply Kd.R_drew)); exact Kd.R_mono (Kd.R_far (p:=⟨gb239,1,none⟩) (Kd.R_far (p:=⟨gb239,0,none⟩) (Kd.R_types HO_3.out BK239.out zA2) (fun _ hk=>hk.2) (.int .i64 ((Aj l0 x8_1).f0))) (fun _ hk=>hk.2) (.int .i64 ((Aj l0 x8_1).f1))) (fun _ hk=>trivial))); (case aS=>exact (AT (by repeat (first|(with_reducible first|exact HB.out|apply AE|apply AC|apply AD|refine AI ?_ GE239.out)|exact HB.out)))); (case aL=>have:=LMc5.out; omega); intro v241 w8 ho hb hg hat; rw [←Ny240.out] at ho; have n0_:=yA (BP (g:=gb239) (o:= .cells #[.int .i64 ((Aj l0 x8_1).f0),.int .i64 ((Aj l0 x8_1).f1)] 59 (0,0)) (by (with_reducible repeat (first|refine AG ?_ _|refine AH ?_|refine AF ?_ _)); refine Am (cs:= #[.int .i64 ((Aj l0 x8_1).f0),.int .i64 0]) ?_ 1 _ rfl; (with_reducible repeat (first|refine AG ?_ _|refine AH ?_|refine AF ?_ _)); refine Am (cs:= #[.int .i64 0,.int .i64 0]) ?_ 0 _ rfl; (with_reducible repeat (first|refine AG ?_ _|refine AH ?_|refine AF ?_ _)); exact BK239.out) hg (Kd.R_ne HO_3.out BK239.out zA2)); have n1_:=yA (hb); have n2_:=yA (ho); clear BK239; clear HB; clear HO_3; have BK239:=n0_; have HB:=n1_; have HO242:=n2_; clear n0_ n1_ n2_; clear ho hb hg hat))
       go_roundg k1
       case measure=>have:=HK1.out; omega
       case rel=>exact ⟨(y240),(wrap64 (x8_1+1)),zG,H',⟨by have:=HK1.out; omega⟩,⟨by (with_reducible repeat (first|apply Kd.R_alloc|apply Kd.R_drewN|apply Kd.R_drew)); exact HO242.out⟩,⟨by repeat (first|(with_reducible first|exact HB.out|apply AE|apply AC|apply AD|refine AI ?_ GE239.out)|exact HB.out)⟩⟩
      ·rw [if_neg c5] at H
       exact absurd H zA6
     ·rw [if_neg c4] at H
      exact absurd H zA6
    ·rw [if_neg c3] at H
     exact absurd H zA6
   ·rw [if_neg c2] at H
    have c2b0:decide (x8_1<(l0.length:Int))=false:=decide_eq_false c2
    clear c2
    obtain rfl:=Option.some.inj H
    go_wp2
    go_ret
    exact ⟨_,by first|rfl|(simp [AZ,AY]<;>rfl)|(simp [*,AZ,AY]<;>rfl),by (with_reducible repeat (first|apply Kd.R_alloc|apply Kd.R_drewN|apply Kd.R_drew)); exact HO_3.out,by repeat (first|(with_reducible first|exact HB.out|apply AE|apply AC|apply AD)|exact HB.out)⟩
def BM.f (a0:Int):Option (Bool):=if a0≥97 then (if a0≤122 then (some true) else (if a0≥65 then (some (decide (a0≤90))) else (some false))) else (if a0≥65 then (some (decide (a0≤90))) else (some false))
set_option maxHeartbeats 8000000 in
theorem BM.calls (a0:Int) (r:Bool) (w:World) (h:BM.f a0=some r):
  Calls Tryd.prog 77 #[.int .u8 a0] w fun e w'=>e= .returned (.bool r)∧Drawn0 w w':=by
 have H:(if a0≥97 then (if a0≤122 then (some true) else (if a0≥65 then (some (decide (a0≤90))) else (some false))) else (if a0≥65 then (some (decide (a0≤90))) else (some false)))=some r:=h
 clear h
 by_cases c2:a0≥97
 ·rw [if_pos c2] at H
  have c2b0:decide (97≤a0)=true:=decide_eq_true c2
  clear c2
  by_cases c3:a0≤122
  ·rw [if_pos c3] at H
   have c3b0:decide (a0≤122)=true:=decide_eq_true c3
   clear c3
   obtain rfl:=Option.some.inj H
   go_enter Tryd.func77,Tryd.ntmps77
   go_wp2
   go_ret
   exact ⟨by first|rfl|(simp; done)|(simp [*]; done),by repeat (first|exact Drawn0.refl _|apply Drawn0.step)⟩
  ·rw [if_neg c3] at H
   have c3b0:decide (a0≤122)=false:=decide_eq_false c3
   clear c3
   by_cases c4:a0≥65
   ·rw [if_pos c4] at H
    have c4b0:decide (65≤a0)=true:=decide_eq_true c4
    clear c4
    obtain rfl:=Option.some.inj H
    go_enter Tryd.func77,Tryd.ntmps77
    go_wp2
    go_ret
    exact ⟨by first|rfl|(simp; done)|(simp [*]; done),by repeat (first|exact Drawn0.refl _|apply Drawn0.step)⟩
   ·rw [if_neg c4] at H
    have c4b0:decide (65≤a0)=false:=decide_eq_false c4
    clear c4
    obtain rfl:=Option.some.inj H
    go_enter Tryd.func77,Tryd.ntmps77
    go_wp2
    go_ret
    exact ⟨by first|rfl|(simp; done)|(simp [*]; done),by repeat (first|exact Drawn0.refl _|apply Drawn0.step)⟩
 ·rw [if_neg c2] at H
  have c2b0:decide (97≤a0)=false:=decide_eq_false c2
  clear c2
  by_cases c5:a0≥65
  ·rw [if_pos c5] at H
   have c5b0:decide (65≤a0)=true:=decide_eq_true c5
   clear c5
   obtain rfl:=Option.some.inj H
   go_enter Tryd.func77,Tryd.ntmps77
   go_wp2
   go_ret
   exact ⟨by first|rfl|(simp; done)|(simp [*]; done),by repeat (first|exact Drawn0.refl _|apply Drawn0.step)⟩
  ·rw [if_neg c5] at H
   have c5b0:decide (65≤a0)=false:=decide_eq_false c5
   clear c5
   obtain rfl:=Option.some.inj H
   go_enter Tryd.func77,Tryd.ntmps77
   go_wp2
   go_ret
   exact ⟨by first|rfl|(simp; done)|(simp [*]; done),by repeat (first|exact Drawn0.refl _|apply Drawn0.step)⟩
def BO.f (a0:Int):Option (Bool):=if a0≥48 then (some (decide (a0≤57))) else (some false)
set_option maxHeartbeats 8000000 in
theorem BO.calls (a0:Int) (r:Bool) (w:World) (h:BO.f a0=some r):
  Calls Tryd.prog 78 #[.int .u8 a0] w fun e w'=>e= .returned (.bool r)∧Drawn0 w w':=by
 have H:(if a0≥48 then (some (decide (a0≤57))) else (some false))=some r:=h
 clear h
 by_cases c2:a0≥48
 ·rw [if_pos c2] at H
  have c2b0:decide (48≤a0)=true:=decide_eq_true c2
  clear c2
  obtain rfl:=Option.some.inj H
  go_enter Tryd.func78,Tryd.ntmps78
  go_wp2
  go_ret
  exact ⟨by first|rfl|(simp; done)|(simp [*]; done),by repeat (first|exact Drawn0.refl _|apply Drawn0.step)⟩
 ·rw [if_neg c2] at H
  have c2b0:decide (48≤a0)=false:=decide_eq_false c2
  clear c2
  obtain rfl:=Option.some.inj H
  go_enter Tryd.func78,Tryd.ntmps78
  go_wp2
  go_ret
  exact ⟨by first|rfl|(simp; done)|(simp [*]; done),by repeat (first|exact Drawn0.refl _|apply Drawn0.step)⟩
def Aw.l0:Nat→ByteArray→Int→Option (Bool)
 |0,_,_=>none
 |k+1,x0,x3=>if x3<(x0.size:Int) then (if 0≤x3 then ((BM.f (bt x0 x3)).bind fun t243=>(if t243=true then (Aw.l0 k x0 (wrap64 (x3+1))) else (if x3=0 then (some false) else ((BO.f (bt x0 x3)).bind fun t244=>(if t244=true then (Aw.l0 k x0 (wrap64 (x3+1))) else (if (bt x0 x3)=45 then (Aw.l0 k x0 (wrap64 (x3+1))) else (if (bt x0 x3)=95 then (Aw.l0 k x0 (wrap64 (x3+1))) else (some false)))))))) else (none)) else (some (decide ((x0.size:Int)>0)))
def Aw.f (k:Nat) (a0:ByteArray):Option (Bool):=Aw.l0 k a0 0
set_option maxHeartbeats 8000000 in
theorem Aw.calls (k:Nat) (a0:ByteArray) (r:Bool) (w:World) (h:Aw.f k a0=some r):
  Calls Tryd.prog 52 #[.string a0] w fun e w'=>e= .returned (.bool r)∧Drawn0 w w':=by
 have H:(Aw.l0 k a0 0)=some r:=h
 clear h
 have H':=yA H
 clear H
 go_enter Tryd.func52,Tryd.ntmps52
 go_wp2
 go_loopg [3] k (fun kq v3 w'=>∃(x3_1:Int),v3= .int .i64 x3_1∧Aside0 (Aw.l0 kq a0 x3_1=some r)∧Aside0 (kq≤k)∧Drawn0 w w')
 case atStart=>exact ⟨(0),zG,H',⟨Nat.le_refl _⟩,by repeat (first|exact Drawn0.refl _|apply Drawn0.step)⟩
 case round=>
  clear H'
  obtain ⟨x3_1,rfl,HA,HK1,⟨m1,rfl⟩⟩:=hrel
  cases gk with
  |zero=>exact absurd HA.out (by simp [Aw.l0])
  | succ k1 =>
   have H:=HA.out
   clear HA
   simp only [Aw.l0] at H
   by_cases c2:x3_1<(a0.size:Int)
   ·rw [if_pos c2] at H
    have c2b0:decide (x3_1<(a0.size:Int))=true:=decide_eq_true c2
    clear c2
    by_cases c3:0≤x3_1
    ·rw [if_pos c3] at H
     have c3b0:decide (0≤x3_1)=true:=decide_eq_true c3
     clear c3
     replace H:=Option.bind_eq_some_iff.mp H
     obtain ⟨t243,A50,H⟩:=H
     replace H:(if t243=true then (Aw.l0 k1 a0 (wrap64 (x3_1+1))) else (if x3_1=0 then (some false) else ((BO.f (bt a0 x3_1)).bind fun t244=>(if t244=true then (Aw.l0 k1 a0 (wrap64 (x3_1+1))) else (if (bt a0 x3_1)=45 then (Aw.l0 k1 a0 (wrap64 (x3_1+1))) else (if (bt a0 x3_1)=95 then (Aw.l0 k1 a0 (wrap64 (x3_1+1))) else (some false)))))))=some r:=H
     have A5:=yA A50
     clear A50
     by_cases c6:t243=true
     ·subst c6
      have H1:(Aw.l0 k1 a0 (wrap64 (x3_1+1)))=some r:=by rw [if_pos rfl] at H; exact H
      clear H
      have H:=H1
      clear H1
      have H':=yA H
      clear H
      have p4:0≤(x3_1:Int):=yD
      have q4:x3_1<(a0.size:Int):=yD
      have hx4:=CB a0 x3_1
      replace p4:=eq_true p4
      replace q4:=eq_true q4
      go_wp2_with (first|((with_reducible refine Ah (f:=77) rfl ?_); refine BB (some 13) rfl rfl Tryd.func77 zE rfl #[.int .u8 (bt a0 x3_1)] rfl zD ?_; (with_reducible refine (BM.calls (bt a0 x3_1) true _ A5.out).mono ?_); rintro e w' ⟨rfl,⟨nd,rfl⟩⟩; refine ⟨_,rfl,?_⟩))
      go_roundg k1
      case measure=>have:=HK1.out; omega
      case rel=>exact ⟨(wrap64 (x3_1+1)),zG,H',⟨by have:=HK1.out; omega⟩,by repeat (first|exact Drawn0.refl _|apply Drawn0.step)⟩
     ·replace c6:=Bool.eq_false_iff.mpr c6
      subst c6
      have H1:(if x3_1=0 then (some false) else ((BO.f (bt a0 x3_1)).bind fun t244=>(if t244=true then (Aw.l0 k1 a0 (wrap64 (x3_1+1))) else (if (bt a0 x3_1)=45 then (Aw.l0 k1 a0 (wrap64 (x3_1+1))) else (if (bt a0 x3_1)=95 then (Aw.l0 k1 a0 (wrap64 (x3_1+1))) else (some false))))))=some r:=by rw [if_neg (show ¬(false=true) by decide)] at H; exact H
      clear H
      have H:=H1
      clear H1
      by_cases c7:x3_1=0
      ·rw [if_pos c7] at H
       have c7b0:(x3_1==0)=true:=beq_iff_eq.mpr c7
       have c7b1:(x3_1 !=0)=false:=bne_eq_false_iff_eq.mpr c7
       clear c7
       obtain rfl:=Option.some.inj H
       have p4:0≤(x3_1:Int):=yD
       have q4:x3_1<(a0.size:Int):=yD
       have hx4:=CB a0 x3_1
       replace p4:=eq_true p4
       replace q4:=eq_true q4
       go_wp2_with (first|((with_reducible refine Ah (f:=77) rfl ?_); refine BB (some 13) rfl rfl Tryd.func77 zE rfl #[.int .u8 (bt a0 x3_1)] rfl zD ?_; (with_reducible refine (BM.calls (bt a0 x3_1) false _ A5.out).mono ?_); rintro e w' ⟨rfl,⟨nd,rfl⟩⟩; refine ⟨_,rfl,?_⟩))
       go_ret
       exact ⟨by first|rfl|(simp; done)|(simp [*]; done),by repeat (first|exact Drawn0.refl _|apply Drawn0.step)⟩
      ·rw [if_neg c7] at H
       have c7b0:(x3_1==0)=false:=beq_eq_false_iff_ne.mpr c7
       have c7b1:(x3_1 !=0)=true:=bne_iff_ne.mpr c7
       replace H:=Option.bind_eq_some_iff.mp H
       obtain ⟨t244,A90,H⟩:=H
       replace H:(if t244=true then (Aw.l0 k1 a0 (wrap64 (x3_1+1))) else (if (bt a0 x3_1)=45 then (Aw.l0 k1 a0 (wrap64 (x3_1+1))) else (if (bt a0 x3_1)=95 then (Aw.l0 k1 a0 (wrap64 (x3_1+1))) else (some false))))=some r:=H
       have A9:=yA A90
       clear A90
       by_cases c10:t244=true
       ·subst c10
        have H1:(Aw.l0 k1 a0 (wrap64 (x3_1+1)))=some r:=by rw [if_pos rfl] at H; exact H
        clear H
        have H:=H1
        clear H1
        have H':=yA H
        clear H
        have p4:0≤(x3_1:Int):=yD
        have q4:x3_1<(a0.size:Int):=yD
        have hx4:=CB a0 x3_1
        replace p4:=eq_true p4
        replace q4:=eq_true q4
        go_wp2_with (first|((with_reducible refine Ah (f:=77) rfl ?_); refine BB (some 13) rfl rfl Tryd.func77 zE rfl #[.int .u8 (bt a0 x3_1)] rfl zD ?_; (with_reducible refine (BM.calls (bt a0 x3_1) false _ A5.out).mono ?_); rintro e w' ⟨rfl,⟨nd,rfl⟩⟩; refine ⟨_,rfl,?_⟩; have p8:0≤(x3_1:Int):=yD; have q8:x3_1<(a0.size:Int):=yD; have hx8:=CB a0 x3_1; replace p8:=eq_true p8; replace q8:=eq_true q8)|(go_at_call 78; (with_reducible refine (BO.calls (bt a0 x3_1) true _ A9.out).mono ?_); rintro e w' ⟨rfl,⟨nd,rfl⟩⟩))
        go_roundg k1
        case measure=>have:=HK1.out; omega
        case rel=>exact ⟨(wrap64 (x3_1+1)),zG,H',⟨by have:=HK1.out; omega⟩,by repeat (first|exact Drawn0.refl _|apply Drawn0.step)⟩
       ·replace c10:=Bool.eq_false_iff.mpr c10
        subst c10
        have H1:(if (bt a0 x3_1)=45 then (Aw.l0 k1 a0 (wrap64 (x3_1+1))) else (if (bt a0 x3_1)=95 then (Aw.l0 k1 a0 (wrap64 (x3_1+1))) else (some false)))=some r:=by rw [if_neg (show ¬(false=true) by decide)] at H; exact H
        clear H
        have H:=H1
        clear H1
        by_cases c12:(bt a0 x3_1)=45
        ·rw [if_pos c12] at H
         have c12b0:((bt a0 x3_1)==45)=true:=beq_iff_eq.mpr c12
         have c12b1:((bt a0 x3_1) !=45)=false:=bne_eq_false_iff_eq.mpr c12
         clear c12
         have H':=yA H
         clear H
         have p4:0≤(x3_1:Int):=yD
         have q4:x3_1<(a0.size:Int):=yD
         have hx4:=CB a0 x3_1
         replace p4:=eq_true p4
         replace q4:=eq_true q4
         go_wp2_with (first|((with_reducible refine Ah (f:=77) rfl ?_); refine BB (some 13) rfl rfl Tryd.func77 zE rfl #[.int .u8 (bt a0 x3_1)] rfl zD ?_; (with_reducible refine (BM.calls (bt a0 x3_1) false _ A5.out).mono ?_); rintro e w' ⟨rfl,⟨nd,rfl⟩⟩; refine ⟨_,rfl,?_⟩; have p8:0≤(x3_1:Int):=yD; have q8:x3_1<(a0.size:Int):=yD; have hx8:=CB a0 x3_1; replace p8:=eq_true p8; replace q8:=eq_true q8)|(go_at_call 78; (with_reducible refine (BO.calls (bt a0 x3_1) false _ A9.out).mono ?_); rintro e w' ⟨rfl,⟨nd,rfl⟩⟩; have p11:0≤(x3_1:Int):=yD; have q11:x3_1<(a0.size:Int):=yD; have hx11:=CB a0 x3_1; replace p11:=eq_true p11; replace q11:=eq_true q11))
         go_roundg k1
         case measure=>have:=HK1.out; omega
         case rel=>exact ⟨(wrap64 (x3_1+1)),zG,H',⟨by have:=HK1.out; omega⟩,by repeat (first|exact Drawn0.refl _|apply Drawn0.step)⟩
        ·rw [if_neg c12] at H
         have c12b0:((bt a0 x3_1)==45)=false:=beq_eq_false_iff_ne.mpr c12
         have c12b1:((bt a0 x3_1) !=45)=true:=bne_iff_ne.mpr c12
         by_cases c14:(bt a0 x3_1)=95
         ·rw [if_pos c14] at H
          have c14b0:((bt a0 x3_1)==95)=true:=beq_iff_eq.mpr c14
          have c14b1:((bt a0 x3_1) !=95)=false:=bne_eq_false_iff_eq.mpr c14
          clear c14
          have H':=yA H
          clear H
          have p4:0≤(x3_1:Int):=yD
          have q4:x3_1<(a0.size:Int):=yD
          have hx4:=CB a0 x3_1
          replace p4:=eq_true p4
          replace q4:=eq_true q4
          go_wp2_with (first|((with_reducible refine Ah (f:=77) rfl ?_); refine BB (some 13) rfl rfl Tryd.func77 zE rfl #[.int .u8 (bt a0 x3_1)] rfl zD ?_; (with_reducible refine (BM.calls (bt a0 x3_1) false _ A5.out).mono ?_); rintro e w' ⟨rfl,⟨nd,rfl⟩⟩; refine ⟨_,rfl,?_⟩; have p8:0≤(x3_1:Int):=yD; have q8:x3_1<(a0.size:Int):=yD; have hx8:=CB a0 x3_1; replace p8:=eq_true p8; replace q8:=eq_true q8)|(go_at_call 78; (with_reducible refine (BO.calls (bt a0 x3_1) false _ A9.out).mono ?_); rintro e w' ⟨rfl,⟨nd,rfl⟩⟩; have p11:0≤(x3_1:Int):=yD; have q11:x3_1<(a0.size:Int):=yD; have hx11:=CB a0 x3_1; replace p11:=eq_true p11; replace q11:=eq_true q11; have p13:0≤(x3_1:Int):=yD; have q13:x3_1<(a0.size:Int):=yD; have hx13:=CB a0 x3_1; replace p13:=eq_true p13; replace q13:=eq_true q13))
          go_roundg k1
          case measure=>have:=HK1.out; omega
          case rel=>exact ⟨(wrap64 (x3_1+1)),zG,H',⟨by have:=HK1.out; omega⟩,by repeat (first|exact Drawn0.refl _|apply Drawn0.step)⟩
         ·rw [if_neg c14] at H
          have c14b0:((bt a0 x3_1)==95)=false:=beq_eq_false_iff_ne.mpr c14
          have c14b1:((bt a0 x3_1) !=95)=true:=bne_iff_ne.mpr c14
          obtain rfl:=Option.some.inj H
          have p4:0≤(x3_1:Int):=yD
          have q4:x3_1<(a0.size:Int):=yD
          have hx4:=CB a0 x3_1
          replace p4:=eq_true p4
          replace q4:=eq_true q4
          go_wp2_with (first|((with_reducible refine Ah (f:=77) rfl ?_); refine BB (some 13) rfl rfl Tryd.func77 zE rfl #[.int .u8 (bt a0 x3_1)] rfl zD ?_; (with_reducible refine (BM.calls (bt a0 x3_1) false _ A5.out).mono ?_); rintro e w' ⟨rfl,⟨nd,rfl⟩⟩; refine ⟨_,rfl,?_⟩; have p8:0≤(x3_1:Int):=yD; have q8:x3_1<(a0.size:Int):=yD; have hx8:=CB a0 x3_1; replace p8:=eq_true p8; replace q8:=eq_true q8)|(go_at_call 78; (with_reducible refine (BO.calls (bt a0 x3_1) false _ A9.out).mono ?_); rintro e w' ⟨rfl,⟨nd,rfl⟩⟩; have p11:0≤(x3_1:Int):=yD; have q11:x3_1<(a0.size:Int):=yD; have hx11:=CB a0 x3_1; replace p11:=eq_true p11; replace q11:=eq_true q11; have p13:0≤(x3_1:Int):=yD; have q13:x3_1<(a0.size:Int):=yD; have hx13:=CB a0 x3_1; replace p13:=eq_true p13; replace q13:=eq_true q13))
          go_ret
          exact ⟨by first|rfl|(simp; done)|(simp [*]; done),by repeat (first|exact Drawn0.refl _|apply Drawn0.step)⟩
    ·rw [if_neg c3] at H
     exact absurd H zA6
   ·rw [if_neg c2] at H
    have c2b0:decide (x3_1<(a0.size:Int))=false:=decide_eq_false c2
    clear c2
    obtain rfl:=Option.some.inj H
    go_wp2
    go_ret
    exact ⟨by first|rfl|(simp; done)|(simp [*]; done),by repeat (first|exact Drawn0.refl _|apply Drawn0.step)⟩
end Go.Proofs.YtdadecjefafflaaDoor.PChk
end
section
namespace Go.Proofs.YtdadecjefafflaaDoor.PChk
set_option maxRecDepth 100000
open Go.RowKit Go.Proofs.YtdadecjefafflaaDoorW.PrintWords Go.Proofs.YtdadecjefafflaaDoorW.PrintLast Go.Proofs.YtdadecjefafflaaDoorW.PrintMore
attribute [local go_sem] Ba BX Be Bd BS BR BZ BW
def BA.l0:Nat→ByteArray→List ByteArray→Int→Option (Bool)
 |0,_,_,_=>none
 |k+1,x0,x3,x4=>if x4<(x3.length:Int) then (if 0≤x4 then (if (rdOf ByteArray.empty x3 x4).toList=x0.toList then (some true) else (BA.l0 k x0 x3 (wrap64 (x4+1)))) else (none)) else (some false)
def BA.f (k:Nat) (a0:ByteArray):Option (Bool):=BA.l0 k a0 (([(⟨#[100,101,115,105,103,110]⟩:ByteArray),(⟨#[111,114,100,101,114]⟩:ByteArray),(⟨#[109,105,114,114,111,114]⟩:ByteArray),(⟨#[116,105,101,114]⟩:ByteArray),(⟨#[97,110,103,108,101]⟩:ByteArray),(⟨#[97,116]⟩:ByteArray),(⟨#[100,101,112,116,104]⟩:ByteArray),(⟨#[109,101,101,116]⟩:ByteArray),(⟨#[101,100,103,101]⟩:ByteArray),(⟨#[104,101,105,103,104,116]⟩:ByteArray),(⟨#[116,104,114,111,117,103,104]⟩:ByteArray)]:List ByteArray)) 0
set_option maxHeartbeats 8000000 in
theorem BA.calls (k:Nat) (a0:ByteArray) (r:Bool) (w:World) (h:BA.f k a0=some r):
  Calls Tryd.prog 53 #[.string a0] w fun e w'=>e= .returned (.bool r)∧Below w.heap.size w w':=by
 have HB:=yA (Below.refl w.heap.size w)
 have H:(BA.l0 k a0 (([(⟨#[100,101,115,105,103,110]⟩:ByteArray),(⟨#[111,114,100,101,114]⟩:ByteArray),(⟨#[109,105,114,114,111,114]⟩:ByteArray),(⟨#[116,105,101,114]⟩:ByteArray),(⟨#[97,110,103,108,101]⟩:ByteArray),(⟨#[97,116]⟩:ByteArray),(⟨#[100,101,112,116,104]⟩:ByteArray),(⟨#[109,101,101,116]⟩:ByteArray),(⟨#[101,100,103,101]⟩:ByteArray),(⟨#[104,101,105,103,104,116]⟩:ByteArray),(⟨#[116,104,114,111,117,103,104]⟩:ByteArray)]:List ByteArray)) 0)=some r:=h
 clear h
 obtain ⟨y245,hy245⟩:∃y_:List ByteArray,y_=(([(⟨#[100,101,115,105,103,110]⟩:ByteArray),(⟨#[111,114,100,101,114]⟩:ByteArray),(⟨#[109,105,114,114,111,114]⟩:ByteArray),(⟨#[116,105,101,114]⟩:ByteArray),(⟨#[97,110,103,108,101]⟩:ByteArray),(⟨#[97,116]⟩:ByteArray),(⟨#[100,101,112,116,104]⟩:ByteArray),(⟨#[109,101,101,116]⟩:ByteArray),(⟨#[101,100,103,101]⟩:ByteArray),(⟨#[104,101,105,103,104,116]⟩:ByteArray),(⟨#[116,104,114,111,117,103,104]⟩:ByteArray)]:List ByteArray)):=⟨_,rfl⟩
 replace H:(BA.l0 k a0 y245 0)=some r:=by first|(rw [hy245]; with_reducible exact H)|(have H2_:=(Option.bind_some _ _).symm.trans H; rw [hy245]; with_reducible exact H2_)|(have H2_:=(Option.bind_some _ _).symm.trans H; with_reducible exact H2_)|with_reducible exact H|(rw [hy245]; exact H)|exact H
 have Ny245:=yA hy245
 clear hy245
 have H':=yA H
 clear H
 go_enter Tryd.func53,Tryd.ntmps53
 go_wp2_with (first|((with_reducible refine Ar (N:=5) rfl ?_); refine Kd.R_lit Kd.string _ 9 ?hg (N:=5) ?hd (xs:=([(⟨#[100,101,115,105,103,110]⟩:ByteArray),(⟨#[111,114,100,101,114]⟩:ByteArray),(⟨#[109,105,114,114,111,114]⟩:ByteArray),(⟨#[116,105,101,114]⟩:ByteArray),(⟨#[97,110,103,108,101]⟩:ByteArray),(⟨#[97,116]⟩:ByteArray),(⟨#[100,101,112,116,104]⟩:ByteArray),(⟨#[109,101,101,116]⟩:ByteArray),(⟨#[101,100,103,101]⟩:ByteArray),(⟨#[104,101,105,103,104,116]⟩:ByteArray),(⟨#[116,104,114,111,117,103,104]⟩:ByteArray)]:List ByteArray)) (inner:=[.string (⟨#[100,101,115,105,103,110]⟩:ByteArray),.string (⟨#[111,114,100,101,114]⟩:ByteArray),.string (⟨#[109,105,114,114,111,114]⟩:ByteArray),.string (⟨#[116,105,101,114]⟩:ByteArray),.string (⟨#[97,110,103,108,101]⟩:ByteArray),.string (⟨#[97,116]⟩:ByteArray),.string (⟨#[100,101,112,116,104]⟩:ByteArray),.string (⟨#[109,101,101,116]⟩:ByteArray),.string (⟨#[101,100,103,101]⟩:ByteArray),.string (⟨#[104,101,105,103,104,116]⟩:ByteArray),.string (⟨#[116,104,114,111,117,103,104]⟩:ByteArray)]) (ok:=fun _=>True) (okp:=fun _=>True) ?hr ?hp (fun _ hk=>hk) trivial (Below.refl _ _) (Nat.le_refl _) zA6 ?_; (case hd=>rfl); (case hg=>rfl); (case hr=>first|(go_simp; done)|(go_simp; rfl)); (case hp=>exact (Reps.one (show Kd.M Kd.string _ _ _ (⟨#[100,101,115,105,103,110]⟩:ByteArray) [.string (⟨#[100,101,115,105,103,110]⟩:ByteArray)] from rfl) (Reps.one (show Kd.M Kd.string _ _ _ (⟨#[111,114,100,101,114]⟩:ByteArray) [.string (⟨#[111,114,100,101,114]⟩:ByteArray)] from rfl) (Reps.one (show Kd.M Kd.string _ _ _ (⟨#[109,105,114,114,111,114]⟩:ByteArray) [.string (⟨#[109,105,114,114,111,114]⟩:ByteArray)] from rfl) (Reps.one (show Kd.M Kd.string _ _ _ (⟨#[116,105,101,114]⟩:ByteArray) [.string (⟨#[116,105,101,114]⟩:ByteArray)] from rfl) (Reps.one (show Kd.M Kd.string _ _ _ (⟨#[97,110,103,108,101]⟩:ByteArray) [.string (⟨#[97,110,103,108,101]⟩:ByteArray)] from rfl) (Reps.one (show Kd.M Kd.string _ _ _ (⟨#[97,116]⟩:ByteArray) [.string (⟨#[97,116]⟩:ByteArray)] from rfl) (Reps.one (show Kd.M Kd.string _ _ _ (⟨#[100,101,112,116,104]⟩:ByteArray) [.string (⟨#[100,101,112,116,104]⟩:ByteArray)] from rfl) (Reps.one (show Kd.M Kd.string _ _ _ (⟨#[109,101,101,116]⟩:ByteArray) [.string (⟨#[109,101,101,116]⟩:ByteArray)] from rfl) (Reps.one (show Kd.M Kd.string _ _ _ (⟨#[101,100,103,101]⟩:ByteArray) [.string (⟨#[101,100,103,101]⟩:ByteArray)] from rfl) (Reps.one (show Kd.M Kd.string _ _ _ (⟨#[104,101,105,103,104,116]⟩:ByteArray) [.string (⟨#[104,101,105,103,104,116]⟩:ByteArray)] from rfl) (Reps.one (show Kd.M Kd.string _ _ _ (⟨#[116,104,114,111,117,103,104]⟩:ByteArray) [.string (⟨#[116,104,114,111,117,103,104]⟩:ByteArray)] from rfl) (Reps.none _ _))))))))))))); intro v246 w2 ho3 hb hg_ hnew_; clear hg_ hnew_; (first|rw [←Ny245.out] at ho3|(simp only [Int.reduceToNat] at ho3; rw [←Ny245.out] at ho3)); have n0_:=yA (Kd.R_lower ho3 (AT zB)); have n1_:=yA (AO zB hb); clear HB; have HO247:=n0_; have HB:=n1_; clear n0_ n1_; clear hb ho3))
 go_loopg [4] k (fun kq v4 w'=>∃(x4_1:Int),v4= .int .i64 x4_1∧Aside0 (BA.l0 kq a0 y245 x4_1=some r)∧Aside0 (kq≤k)∧Aside0 (Kd.R Kd.string 9 w' w.heap.size (fun _=>True) v246 y245)∧Aside0 (Below w.heap.size w w'))
 case atStart=>exact ⟨(0),zG,H',⟨Nat.le_refl _⟩,⟨by (with_reducible repeat (first|apply Kd.R_alloc|apply Kd.R_drewN|apply Kd.R_drew)); exact HO247.out⟩,⟨by repeat (first|(with_reducible first|exact HB.out|apply AE|apply AC|apply AD)|exact HB.out)⟩⟩
 case round=>
  clear H'
  try clear p2
  obtain ⟨x4_1,rfl,HA,HK1,HO_3,HB⟩:=hrel
  cases gk with
  |zero=>exact absurd HA.out (by simp [BA.l0])
  | succ k1=>
   have H:=HA.out
   clear HA
   simp only [BA.l0] at H
   by_cases c4:x4_1<(y245.length:Int)
   ·rw [if_pos c4] at H
    have c4b0:decide (x4_1<(y245.length:Int))=true:=decide_eq_true c4
    clear c4
    by_cases c5:0≤x4_1
    ·rw [if_pos c5] at H
     have c5b0:decide (0≤x4_1)=true:=decide_eq_true c5
     clear c5
     by_cases c6:(rdOf ByteArray.empty y245 x4_1).toList=a0.toList
     ·rw [if_pos c6] at H
      have c6b0:((rdOf ByteArray.empty y245 x4_1).toList==a0.toList)=true:=beq_iff_eq.mpr c6
      have c6b1:((rdOf ByteArray.empty y245 x4_1).toList !=a0.toList)=false:=bne_eq_false_iff_eq.mpr c6
      clear c6
      obtain rfl:=Option.some.inj H
      obtain ⟨Ao7,co7,eo7⟩:=Kd.R_slice HO_3.out
      subst eo7
      have p248:0≤(x4_1:Int):=yD
      have q248:x4_1<(y245.length:Int):=yD
      obtain ⟨ad248,e248,hx248_0⟩:=Kd.at_string (Kd.R_reads' HO_3.out).2.2 x4_1 p248 q248
      cases e248
      replace p248:=eq_true p248
      replace q248:=eq_true q248
      go_wp2
      go_ret
      exact ⟨by first|rfl|(simp [AZ,AY]<;>rfl)|(simp [*,AZ,AY]<;>rfl),by repeat (first|(with_reducible first|exact HB.out|apply AE|apply AC|apply AD)|exact HB.out)⟩
     ·rw [if_neg c6] at H
      have c6b0:((rdOf ByteArray.empty y245 x4_1).toList==a0.toList)=false:=beq_eq_false_iff_ne.mpr c6
      have c6b1:((rdOf ByteArray.empty y245 x4_1).toList !=a0.toList)=true:=bne_iff_ne.mpr c6
      have H':=yA H
      clear H
      obtain ⟨Ao8,co8,eo8⟩:=Kd.R_slice HO_3.out
      subst eo8
      have p248:0≤(x4_1:Int):=yD
      have q248:x4_1<(y245.length:Int):=yD
      obtain ⟨ad248,e248,hx248_0⟩:=Kd.at_string (Kd.R_reads' HO_3.out).2.2 x4_1 p248 q248
      cases e248
      replace p248:=eq_true p248
      replace q248:=eq_true q248
      go_wp2
      go_roundg k1
      case measure=>have:=HK1.out; omega
      case rel=>exact ⟨(wrap64 (x4_1+1)),zG,H',⟨by have:=HK1.out; omega⟩,⟨by (with_reducible repeat (first|apply Kd.R_alloc|apply Kd.R_drewN|apply Kd.R_drew)); exact HO_3.out⟩,⟨by repeat (first|(with_reducible first|exact HB.out|apply AE|apply AC|apply AD)|exact HB.out)⟩⟩
    ·rw [if_neg c5] at H
     exact absurd H zA6
   ·rw [if_neg c4] at H
    have c4b0:decide (x4_1<(y245.length:Int))=false:=decide_eq_false c4
    clear c4
    obtain rfl:=Option.some.inj H
    obtain ⟨Ao9,co9,eo9⟩:=Kd.R_slice HO_3.out
    subst eo9
    go_wp2
    go_ret
    exact ⟨by first|rfl|(simp [AZ,AY]<;>rfl)|(simp [*,AZ,AY]<;>rfl),by repeat (first|(with_reducible first|exact HB.out|apply AE|apply AC|apply AD)|exact HB.out)⟩
def B8.f (k:Nat) (a0:ByteArray):Option (Bool):=(Aw.f k a0).bind fun t249=>(if t249=true then (if (a0.size:Int)≤30 then ((BA.f k a0).bind fun t250=>(some (!t250))) else (some false)) else (some false))
set_option maxHeartbeats 8000000 in
theorem B8.calls (k:Nat) (a0:ByteArray) (r:Bool) (w:World) (h:B8.f k a0=some r):
  Calls Tryd.prog 32 #[.string a0] w fun e w'=>e= .returned (.bool r)∧Below w.heap.size w w':=by
 have HB:=yA (Below.refl w.heap.size w)
 have H:((Aw.f k a0).bind fun t249=>(if t249=true then (if (a0.size:Int)≤30 then ((BA.f k a0).bind fun t250=>(some (!t250))) else (some false)) else (some false)))=some r:=h
 clear h
 replace H:=Option.bind_eq_some_iff.mp H
 obtain ⟨t249,A20,H⟩:=H
 replace H:(if t249=true then (if (a0.size:Int)≤30 then ((BA.f k a0).bind fun t250=>(some (!t250))) else (some false)) else (some false))=some r:=H
 have A2:=yA A20
 clear A20
 by_cases c3:t249=true
 ·subst c3
  have H1:(if (a0.size:Int)≤30 then ((BA.f k a0).bind fun t250=>(some (!t250))) else (some false))=some r:=by rw [if_pos rfl] at H; exact H
  clear H
  have H:=H1
  clear H1
  by_cases c4:(a0.size:Int)≤30
  ·rw [if_pos c4] at H
   have c4b0:decide ((a0.size:Int)≤30)=true:=decide_eq_true c4
   have c4b1:decide (a0.size≤30)=true:=decide_eq_true zI
   clear c4
   replace H:=Option.bind_eq_some_iff.mp H
   obtain ⟨t250,A50,H⟩:=H
   replace H:(some (!t250))=some r:=H
   have A5:=yA A50
   clear A50
   obtain rfl:=Option.some.inj H
   go_enter Tryd.func32,Tryd.ntmps32
   go_wp2_with (first|((with_reducible refine Ah (f:=52) rfl ?_); refine BB (some 4) rfl rfl Tryd.func52 zE rfl #[.string a0] rfl zD ?_; (with_reducible refine (Aw.calls k a0 true _ A2.out).mono ?_); rintro e w' ⟨rfl,⟨nd,rfl⟩⟩; refine ⟨_,rfl,?_⟩)|(go_at_call 53; (with_reducible refine (BA.calls k a0 t250 _ A5.out).mono ?_); rintro e w6 ⟨rfl,hb⟩; have n0_:=yA (AO zB hb); clear HB; have HB:=n0_; clear n0_; (try clear hb); (try clear hb2); (try clear hk); (try clear hi)))
   go_ret
   exact ⟨by first|rfl|(simp [AZ,AY]<;>rfl)|(simp [*,AZ,AY]<;>rfl),by repeat (first|(with_reducible first|exact HB.out|apply AE|apply AC|apply AD)|exact HB.out)⟩
  ·rw [if_neg c4] at H
   have c4b0:decide ((a0.size:Int)≤30)=false:=decide_eq_false c4
   have c4b1:decide (a0.size≤30)=false:=decide_eq_false zI
   clear c4
   obtain rfl:=Option.some.inj H
   go_enter Tryd.func32,Tryd.ntmps32
   go_wp2_with (first|((with_reducible refine Ah (f:=52) rfl ?_); refine BB (some 4) rfl rfl Tryd.func52 zE rfl #[.string a0] rfl zD ?_; (with_reducible refine (Aw.calls k a0 true _ A2.out).mono ?_); rintro e w' ⟨rfl,⟨nd,rfl⟩⟩; refine ⟨_,rfl,?_⟩))
   go_ret
   exact ⟨by first|rfl|(simp [AZ,AY]<;>rfl)|(simp [*,AZ,AY]<;>rfl),by repeat (first|(with_reducible first|exact HB.out|apply AE|apply AC|apply AD)|exact HB.out)⟩
 ·replace c3:=Bool.eq_false_iff.mpr c3
  subst c3
  have H1:(some false)=some r:=by rw [if_neg (show ¬(false=true) by decide)] at H; exact H
  clear H
  have H:=H1
  clear H1
  obtain rfl:=Option.some.inj H
  go_enter Tryd.func32,Tryd.ntmps32
  go_wp2_with (first|((with_reducible refine Ah (f:=52) rfl ?_); refine BB (some 4) rfl rfl Tryd.func52 zE rfl #[.string a0] rfl zD ?_; (with_reducible refine (Aw.calls k a0 false _ A2.out).mono ?_); rintro e w' ⟨rfl,⟨nd,rfl⟩⟩; refine ⟨_,rfl,?_⟩))
  go_ret
  exact ⟨by first|rfl|(simp [AZ,AY]<;>rfl)|(simp [*,AZ,AY]<;>rfl),by repeat (first|(with_reducible first|exact HB.out|apply AE|apply AC|apply AD)|exact HB.out)⟩
end Go.Proofs.YtdadecjefafflaaDoor.PChk
end
