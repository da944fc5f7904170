/- A part of what the law's proof leans on. PACKED BY pack.py of this repo. -/
import Derived.Test.YtpejalpgficopaaGreatDoorN2
set_option linter.unusedVariables false
set_option linter.unusedSimpArgs false
set_option linter.defProp false
set_option linter.unusedSectionVars false
section
namespace RX
open Go Go.RowKit
def enum:List Blk→Nat→Heap
 |[],_=>[]
 |b::r,n=>(n,b)::enum r (n+1)
theorem look_enum:∀(l:List Blk) (n m:Nat),look (enum l n) m=if m<n then none else l[m-n]?
 |[],n,m=>by simp [enum,look]
 | b ::r,n,m=>by
  simp only [enum,look]
  cases h:Nat.beq n m with
  | true=>
   have:=Nat.eq_of_beq_eq_true h
   subst this
   simp
  | false=>
   have hne:n≠m:=fun e=>by subst e; simp at h
   simp only [cond_false,look_enum r (n+1) m]
   by_cases hlt:m<n
   ·simp [hlt,show m<n+1 from by omega]
   ·have:¬m<n+1:=by omega
    simp only [hlt,this,if_false]
    rw [show m-n=(m-(n+1))+1 from by omega,List.getElem?_cons_succ]
def firstB (H:Heap):Nat→Nat→Option (List Blk)
 |_,0=>some []
 | i,n+1=>match look H i,firstB H (i+1) n with
  |some b,some l=>some (b::l)
  |_,_=>none
theorem firstB_get {H:Heap} :∀ {n i:Nat} {l:List Blk},firstB H i n=some l→l.length=n∧∀(j:Nat) (b:Blk),l[j]? =some b→look H (i+j)=some b
 |0,i,l,h=>by simp [firstB] at h; subst h; simp
 | n + 1,i,l,h=>by
  simp only [firstB] at h
  split at h
  ·rename_i b r hb hr
   injection h with h; subst h
   obtain ⟨h1,h2⟩:=firstB_get hr
   refine ⟨by simp [h1],fun j c hj=> ?_⟩
   cases j with
   |zero=>simp at hj; subst hj; exact hb
   | succ j=>
    have:=h2 j c (by simpa using hj)
    rwa [show i+1+j=i+(j+1) from by omega] at this
  ·simp at h
def xfn (P:Program) (E:Env) (L:List (Nat×LSpec)) (n:Nat) (fn:Func) (vs:List Value) (bl:List Blk):Option (Value×List Blk):=
 execFn P E L (hs P E n).lf (hs P E n).cf fn vs (enum bl 0) bl.length fun v H _=>match firstB H 0 bl.length with|some l=>some (v,l)|none=>none
structure Told (P:Program) (E:Env) (L:List (Nat×LSpec)) (n:Nat) (fn:Func) (vs:List Value) (bl:List Blk) (v:Value) (bl':List Blk):Prop where
 run:xfn P E L n fn vs bl=some (v,bl')
 args:∀u∈vs,okV (fun m=>Nat.blt m bl.length) 8 u=true
 clo:Clo v
 blk:∀b∈bl',∀c∈b.cells,Clo c
theorem sok_of' {P:Program} {E:Env} {L:List (Nat×LSpec)} {N:Nat→Prop} (hE:EnvOk P E) (n:Nat) {f:FuncId} {fn:Func} (hf:P.funcs[f]? =some fn) (hn:fn.name≠ "runtime.NumGoroutine") (hb:fn.body.isSome=true) (hL:∀c,fn.body=some c→LsOkn P N L c) {s:HSpec}
  (h:∀vs bl v bl',s vs bl=some (true,v,bl')→Told P E L n fn vs bl v bl'∧N bl.length):SOK P f s:=by
 refine ⟨⟨fn,hf,hn,hb⟩,fun vs bl v bl' hs hcl g w hmem hinj htab hnt=> ?_⟩
 obtain ⟨⟨hrun,hargs,hcv,hcb⟩,hN⟩:=h vs bl v bl' hs
 have bnd:∀u∈vs,Bnd bl.length u:=fun u hu g g' e=>okV_spec (fun m hm=>e m (by simpa [Nat.blt_eq] using hm)) 8 u (hargs u hu)
 have lk:∀m b,look (enum bl 0) m=some b→bl[m]? =some b:=fun m b h=>by
  rw [look_enum] at h
  simpa using h
 have hr:HRel w (fun k=>∃i,i<bl.length∧k=g i) g (enum bl 0) bl.length w:=by
  refine ⟨fun m b hm=> ?_,fun m b hm=> ?_,fun m b hm=> ?_,fun m k b c hm hk e=> ?_,fun m b hm=> ?_,Keep.refl w _,htab,fun m b hm=>hnt m (List.getElem?_eq_some_iff.1 (lk m b hm)).1⟩
  ·exact (List.getElem?_eq_some_iff.1 (lk m b hm)).1
  ·exact fun c hc=>(hcl b (List.mem_of_getElem? (lk m b hm)) c hc).bnd _
  ·rw [hmem m b (lk m b hm),map_clo (hcl b (List.mem_of_getElem? (lk m b hm)))]
  ·exact hinj m k (List.getElem?_eq_some_iff.1 (lk m b hm)).1 (List.getElem?_eq_some_iff.1 (lk k c hk)).1 e
  ·exact .inr ⟨m,(List.getElem?_eq_some_iff.1 (lk m b hm)).1,rfl⟩
 refine (execFn_sound hE (hs_lf hE n) (hs_cf hE n) hf hL hN hrun hr bnd).mono fun e w' ⟨v',g',H',nx',he,hk,hag,hle,hr',hbv⟩=> ?_
 split at hk
 ·rename_i l hl
  simp only [Option.some.injEq,Prod.mk.injEq] at hk
  obtain ⟨rfl,rfl⟩:=hk
  obtain ⟨h1,h2⟩:=firstB_get hl
  have hlen:l.length=bl.length:=h1
  refine ⟨g,fun _ _=>rfl,by rw [he,hcv g',hcv g],fun i b hi=> ?_,fun i h3 h4=>by omega,fun i j h3 h4=>by omega,hr'.keep⟩
  have:=hr'.mem i b (by have:=h2 i b hi; rwa [Nat.zero_add] at this)
  have hlt:i<bl.length:=by rw [←h1]; exact (List.getElem?_eq_some_iff.1 hi).1
  rw [hag i hlt,map_clo (hcb b (List.mem_of_getElem? hi))] at this
  exact this
 ·simp at hk
theorem sok_of {P:Program} {E:Env} {L:List (Nat×LSpec)} (hE:EnvOk P E) (n:Nat) {f:FuncId} {fn:Func} (hf:P.funcs[f]? =some fn) (hn:fn.name≠ "runtime.NumGoroutine") (hb:fn.body.isSome=true) (hL:∀c,fn.body=some c→LsOk P L c) {s:HSpec}
  (h:∀vs bl v bl',s vs bl=some (true,v,bl')→Told P E L n fn vs bl v bl'):SOK P f s:=
 sok_of' hE n hf hn hb hL fun vs bl v bl' hs=>⟨h vs bl v bl' hs,trivial⟩
def xfnN (P:Program) (E:Env) (L:List (Nat×LSpec)) (n:Nat) (fn:Func) (vs:List Value) (bl:List Blk) (rn:List Nat):Option (Value×List Blk):=
 execFn P E L (hs P E n).lf (hs P E n).cf fn vs (enum bl 0) bl.length fun v H _=>match firstB H 0 bl.length,getB H rn with|some l,some l2=>some (v,l++l2)|_,_=>none
def rho (m:Nat) (rn:List Nat) (i:Nat):Nat:=if i<m then i else rn.getD (i-m) 0
structure ToldN (P:Program) (E:Env) (L:List (Nat×LSpec)) (n:Nat) (fn:Func) (vs:List Value) (bl:List Blk) (v:Value) (bl':List Blk) (rn:List Nat):Prop where
 run:xfnN P E L n fn vs bl rn=some (ren (rho bl.length rn) v,bl')
 args:∀u∈vs,okV (fun m=>Nat.blt m bl.length) 8 u=true
 ok:okN bl'.length 8 v=true
 blk:∀b∈bl',∀c∈b.cells,Clo c
 nod:rn.Nodup
 big:∀x∈rn,bl.length≤x
theorem sok_ofN' {P:Program} {E:Env} {L:List (Nat×LSpec)} {N:Nat→Prop} (hE:EnvOk P E) (n:Nat) {f:FuncId} {fn:Func} (hf:P.funcs[f]? =some fn) (hn:fn.name≠ "runtime.NumGoroutine") (hb:fn.body.isSome=true) (hL:∀c,fn.body=some c→LsOkn P N L c) {s:HSpec}
  (h:∀vs bl v bl',s vs bl=some (true,v,bl')→(∃rn,ToldN P E L n fn vs bl v bl' rn)∧N bl.length):SOK P f s:=by
 refine ⟨⟨fn,hf,hn,hb⟩,fun vs bl v bl' hs hcl g w hmem hinj htab hnt=> ?_⟩
 obtain ⟨⟨rn,hrun,hargs,hok,hcb,hnod,hbig⟩,hN⟩:=h vs bl v bl' hs
 have bnd:∀u∈vs,Bnd bl.length u:=fun u hu g g' e=>okV_spec (fun m hm=>e m (by simpa [Nat.blt_eq] using hm)) 8 u (hargs u hu)
 have lk:∀m b,look (enum bl 0) m=some b→bl[m]? =some b:=fun m b h=>by
  rw [look_enum] at h
  simpa using h
 have hr:HRel w (fun k=>∃i,i<bl.length∧k=g i) g (enum bl 0) bl.length w:=by
  refine ⟨fun m b hm=> ?_,fun m b hm=> ?_,fun m b hm=> ?_,fun m k b c hm hk e=> ?_,fun m b hm=> ?_,Keep.refl w _,htab,fun m b hm=>hnt m (List.getElem?_eq_some_iff.1 (lk m b hm)).1⟩
  ·exact (List.getElem?_eq_some_iff.1 (lk m b hm)).1
  ·exact fun c hc=>(hcl b (List.mem_of_getElem? (lk m b hm)) c hc).bnd _
  ·rw [hmem m b (lk m b hm),map_clo (hcl b (List.mem_of_getElem? (lk m b hm)))]
  ·exact hinj m k (List.getElem?_eq_some_iff.1 (lk m b hm)).1 (List.getElem?_eq_some_iff.1 (lk k c hk)).1 e
  ·exact .inr ⟨m,(List.getElem?_eq_some_iff.1 (lk m b hm)).1,rfl⟩
 refine (execFn_sound hE (hs_lf hE n) (hs_cf hE n) hf hL hN hrun hr bnd).mono fun e w' ⟨v',g',H',nx',he,hk,hag,hle,hr',hbv⟩=> ?_
 split at hk
 ·rename_i l l2 hl hl2
  simp only [Option.some.injEq,Prod.mk.injEq] at hk
  obtain ⟨rfl,rfl⟩:=hk
  obtain ⟨h1,h2⟩:=firstB_get hl
  obtain ⟨h3,h4⟩:=getB_get hl2
  have hlook:∀i,bl.length≤i→i<(l++l2).length→∃x b,rn[i-bl.length]? =some x∧l2[i-bl.length]? =some b∧look H' x=some b∧rho bl.length rn i=x:=fun i hi hi2=>by
   have hi3:i-bl.length<l2.length:=by simp only [List.length_append] at hi2; omega
   obtain ⟨x,hx1,hx2⟩:=h4 _ _ (List.getElem?_eq_getElem hi3)
   refine ⟨x,_,hx1,List.getElem?_eq_getElem hi3,hx2,?_⟩
   unfold rho
   rw [if_neg (by omega),List.getD_eq_getElem?_getD,hx1]
   rfl
  refine ⟨fun i=>g' (rho bl.length rn i),fun i hi=> ?_,?_,fun i b hi=> ?_,fun i hi hi2=> ?_,fun i j hi hi2 hj hj2 e=> ?_,hr'.keep⟩
  ·show g' (rho bl.length rn i)=g i
   unfold rho
   rw [if_pos hi,hag i hi]
  ·rw [he,okN_comp (g:=g') (h:=rho bl.length rn) (k:=fun i=>g' (rho bl.length rn i)) (fun i _=>rfl) 8 v hok]
  ·have hb0:=hcb b (List.mem_of_getElem? hi)
   show w'.heap[g' (rho bl.length rn i)]? =_
   by_cases hlt:i<bl.length
   ·rw [List.getElem?_append_left (by omega)] at hi
    have:=hr'.mem i b (by have:=h2 i b hi; rwa [Nat.zero_add] at this)
    unfold rho
    rw [if_pos hlt,this,map_clo hb0]
   ·obtain ⟨x,b',hx1,hx2,hx3,hx4⟩:=hlook i (by omega) (List.getElem?_eq_some_iff.1 hi).1
    rw [List.getElem?_append_right (by omega),h1,hx2] at hi
    injection hi with hi
    subst hi
    rw [hx4,hr'.mem x _ hx3,map_clo hb0]
  ·obtain ⟨x,b',hx1,hx2,hx3,hx4⟩:=hlook i hi hi2
   show w.heap.size≤g' (rho bl.length rn i)
   rw [hx4]
   rcases hr'.own x b' hx3 with ho|⟨j,hj,ho⟩
   ·exact ho
   ·exfalso
    have hlj:∃b,look H' j=some b:=⟨l[j]'(by omega),by have:=h2 j _ (List.getElem?_eq_getElem (by omega)); rwa [Nat.zero_add] at this⟩
    obtain ⟨b2,hb2⟩:=hlj
    have:=hr'.inj x j b' b2 hx3 hb2 (by rw [ho,hag j hj])
    have:=hbig x (List.mem_of_getElem? hx1)
    omega
  ·obtain ⟨x,b1,hx1,hx2,hx3,hx4⟩:=hlook i hi hi2
   obtain ⟨y,b2,hy1,hy2,hy3,hy4⟩:=hlook j hj hj2
   simp only [hx4,hy4] at e
   have:=hr'.inj x y b1 b2 hx3 hy3 e
   subst this
   obtain ⟨p1,q1⟩:=List.getElem?_eq_some_iff.1 hx1
   obtain ⟨p2,q2⟩:=List.getElem?_eq_some_iff.1 hy1
   have:=nodup_inj hnod p1 p2 (q1.trans q2.symm)
   omega
 ·simp at hk
theorem sok_ofN {P:Program} {E:Env} {L:List (Nat×LSpec)} (hE:EnvOk P E) (n:Nat) {f:FuncId} {fn:Func} (hf:P.funcs[f]? =some fn) (hn:fn.name≠ "runtime.NumGoroutine") (hb:fn.body.isSome=true) (hL:∀c,fn.body=some c→LsOk P L c) {s:HSpec}
  (h:∀vs bl v bl',s vs bl=some (true,v,bl')→∃rn,ToldN P E L n fn vs bl v bl' rn):SOK P f s:=
 sok_ofN' hE n hf hn hb hL fun vs bl v bl' hs=>⟨h vs bl v bl' hs,trivial⟩
theorem calls_of {P:Program} {f:FuncId} {s:HSpec} (h:SOK P f s) {vs:List Value} {v:Value} (hs:s vs []=some (true,v,[])) (hv:∀u∈vs,Clo u) (hcv:Clo v) (w:World) (ht:TabOk w):
  Calls P f ⟨vs⟩ w fun e w'=>e= .returned v∧Below w.heap.size w w':=by
 have:=h.run vs [] v [] hs (by simp) (fun n=>n) w (by simp) (by simp) ht (fun i hi=>absurd hi (by simp))
 rw [map_clo hv] at this
 refine this.mono fun e w' ⟨g2,_,he,_,_,_,hk⟩=>⟨by rw [he,hcv g2],⟨hk.os,hk.tape,hk.output,hk.size,fun k hk'=>hk.block k hk' (by simp)⟩⟩
theorem specs_nil {P:Program} :∀(f:Nat) (s:HSpec),look ([]:List (Nat×HSpec)) f=some s→SOK P f s:=fun f s h=>by simp [look] at h
theorem specs_cons {P:Program} {n:Nat} {s:HSpec} {l:List (Nat×HSpec)} (h:SOK P n s) (r:∀f s,look l f=some s→SOK P f s):∀(f:Nat) (s':HSpec),look ((n,s)::l) f=some s'→SOK P f s':=fun f s' h'=>by
 simp only [look] at h'
 cases hb:Nat.beq n f with
 | true=>
  have:=Nat.eq_of_beq_eq_true hb
  subst this
  rw [hb] at h'
  simp only [cond_true,Option.some.injEq] at h'
  subst h'
  exact h
 | false=>
  rw [hb] at h'
  exact r f s' h'
def FnOk (P:Program) (f:Nat) (fn:Func):Prop:=P.funcs[f]? =some fn∧fn.name≠ "runtime.NumGoroutine" ∧fn.body.isSome=true
theorem inl_nil {P:Program} :∀(f:Nat) (fn:Func),look ([]:List (Nat×Func)) f=some fn→FnOk P f fn:=fun f s h=>by simp [look] at h
theorem inl_cons {P:Program} {n:Nat} {s:Func} {l:List (Nat×Func)} (h:FnOk P n s) (r:∀f s,look l f=some s→FnOk P f s):∀(f:Nat) (s':Func),look ((n,s)::l) f=some s'→FnOk P f s':=fun f s' h'=>by
 simp only [look] at h'
 cases hb:Nat.beq n f with
 | true=>
  have:=Nat.eq_of_beq_eq_true hb
  subst this
  rw [hb] at h'
  simp only [cond_true,Option.some.injEq] at h'
  subst h'
  exact h
 | false=>
  rw [hb] at h'
  exact r f s' h'
theorem acond {α β:Type} (k:α→β) (b:Bool) (x y:α):k (bif b then x else y)=bif b then k x else k y:=by cases b<;>rfl
theorem bcond {α β:Type} (k:α→Option β) (b:Bool) (x y:Option α):(bif b then x else y).bind k=bif b then x.bind k else y.bind k:=by cases b<;>rfl
theorem told_blk {l:List Blk} (h:l.all Blk.clo=true):∀b∈l,∀c∈b.cells,Clo c:=fun b hb=>Blk.clo_spec (by rw [List.all_eq_true] at h; exact h b hb)
theorem no_loops {P:Program} {N:Nat→Prop} {fn:Func} :∀c,fn.body=some c→LsOkn P N [] c:=fun _ _=>lsOk_nil
theorem one_loop {P:Program} {N:Nat→Prop} {fn:Func} {i:Nat} {b c:Code} {t:LSpec} (hb:fn.body=some b) (hl:(loopsIn b).filter (fun p=>Nat.beq i p.1)=[(i,c)]) (h:LOKn P N c t):∀c,fn.body=some c→LsOkn P N [(i,t)] c:=fun b' hb' p hp t' ht=>by
 rw [hb] at hb'
 injection hb' with hb'
 subst hb'
 simp only [look] at ht
 cases he:Nat.beq i p.1 with
 |false=>rw [he] at ht; cases ht
 | true=>
  rw [he] at ht
  simp only [cond_true,Option.some.injEq] at ht
  subst ht
  have hm:p∈(loopsIn b).filter (fun p=>Nat.beq i p.1):=List.mem_filter.2 ⟨hp,he⟩
  rw [hl,List.mem_singleton] at hm
  subst hm
  exact h
def Small (n:Nat) (S:St):Prop:=(∀v∈S.tmps,Bnd n v)∧(∀m b,look S.heap m=some b→m<n∧∀c∈b.cells,Bnd n c)
theorem SRel.small {W0:World} {out:Nat→Prop} {g0:Nat→Nat} {n0:Nat} {S:St} {a:Act} {w:World} (h:SRel W0 out g0 n0 S a w):n0≤S.nxt∧Small S.nxt S:=by
 obtain ⟨g,_,hn,tr,hr⟩:=h
 exact ⟨hn,tr.tb,fun m b hm=>⟨hr.dom m b hm,fun c hc=>hr.bnd m b hm c hc⟩⟩
def Sub (N:Nat→Prop) (S S':St):Prop:=∀(W0:World) (out:Nat→Prop) (g0:Nat→Nat) (n0:Nat) (a:Act) (w:World),N n0→SRel W0 out g0 n0 S a w→SRel W0 out g0 n0 S' a w
structure Wk (T:List Value) (H:Heap) (n:Nat) (S:St):Prop where
 nx:S.nxt=n
 len:S.tmps.length=T.length
 tms:∀i,isGone (nth S.tmps i)=false→nth S.tmps i=nth T i
 hp:∀m b,look S.heap m=some b→look H m=some b
 sm:Small n S
theorem SRel.wk {W0:World} {out:Nat→Prop} {g0:Nat→Nat} {n0 n:Nat} {S S':St} {a:Act} {w:World} (h:SRel W0 out g0 n0 S a w) (hn:n0≤n) (hw:Wk S.tmps S.heap n S'):SRel W0 out g0 n0 S' a w:=by
 obtain ⟨g,hg,_,tr,hr⟩:=h
 refine ⟨g,hg,by rw [hw.nx]; exact hn,⟨by rw [tr.sz,hw.len],fun i hi=> ?_,tr.df,by rw [hw.nx]; exact hw.sm.1⟩,?_⟩
 ·have:=hw.tms i hi
  rw [this] at hi ⊢
  exact tr.tm i hi
 ·rw [hw.nx]
  exact ⟨fun m b hm=>(hw.sm.2 m b hm).1,fun m b hm=>(hw.sm.2 m b hm).2,fun m b hm=>hr.mem m b (hw.hp m b hm),fun m k b c hm hk=>hr.inj m k b c (hw.hp m b hm) (hw.hp k c hk),fun m b hm=>hr.own m b (hw.hp m b hm),hr.keep,hr.tabs,fun m b hm=>hr.ntab m b (hw.hp m b hm)⟩
inductive Lpn (P:Program) (N:Nat→Prop) (E:Env) (L:List (Nat×LSpec)) (f:Nat) (c:Code):St→X→St→Prop
 |done {S:St} {x:X} {T:List Value} {H:Heap} :exec P E L (hs P E f).lf (hs P E f).cf c S (fun x S=>some (x,S.tmps,S.heap))=some (x,T,H)→(match x with| .normal=>False|_=>True)→(Small S.nxt S→Small S.nxt ⟨T,H,S.nxt⟩)→Lpn P N E L f c S x ⟨T,H,S.nxt⟩
 |more {S:St} {T:List Value} {H:Heap} {x:X} {S':St} :exec P E L (hs P E f).lf (hs P E f).cf c S (fun x S=>some (x,S.tmps,S.heap))=some (.normal,T,H)→(Small S.nxt S→Small S.nxt ⟨T,H,S.nxt⟩)→Lpn P N E L f c ⟨T,H,S.nxt⟩ x S'→Lpn P N E L f c S x S'
 |next {S S1:St} {x:X} {S':St} :exec P E L (hs P E f).lf (hs P E f).cf c S (fun x S=>some (x,S))=some (.normal,S1)→Lpn P N E L f c S1 x S'→Lpn P N E L f c S x S'
 |last {S S1:St} {x:X} :exec P E L (hs P E f).lf (hs P E f).cf c S (fun x S=>some (x,S))=some (x,S1)→(match x with| .normal=>False|_=>True)→Lpn P N E L f c S x S1
 |more' {S:St} {T:List Value} {H:Heap} {x:X} {S2 S':St} :exec P E L (hs P E f).lf (hs P E f).cf c S (fun x S=>some (x,S.tmps,S.heap))=some (.normal,T,H)→(Small S.nxt S→Wk T H S.nxt S2)→Lpn P N E L f c S2 x S'→Lpn P N E L f c S x S'
 |done' {S:St} {T:List Value} {H:Heap} {x:X} {S2:St} :exec P E L (hs P E f).lf (hs P E f).cf c S (fun x S=>some (x,S.tmps,S.heap))=some (x,T,H)→x≠ .normal→(Small S.nxt S→Wk T H S.nxt S2)→Lpn P N E L f c S x S2
 |weak {S S1:St} {x:X} {S':St} :Sub N S S1→Lpn P N E L f c S1 x S'→Lpn P N E L f c S x S'
 |weaken {S:St} {x:X} {S1 S':St} :Lpn P N E L f c S x S1→Sub N S1 S'→Lpn P N E L f c S x S'
def loopCode (fn:Func) (i:Nat):Code:=match fn.body with
 |some b=>(match look (loopsIn b) i with|some c=>c|none=> .skip)
 |none=> .skip
theorem calls_run {P:Program} {E:Env} {L:List (Nat×LSpec)} (hE:EnvOk P E) (n:Nat) {f:FuncId} {fn:Func} (hf:P.funcs[f]? =some fn) (hn:fn.name≠ "runtime.NumGoroutine") (hb:fn.body.isSome=true) (hL:∀c,fn.body=some c→LsOk P L c) {vs:List Value} {v:Value} (h:xfn P E L n fn vs []=some (v,[]))
  (ha:∀u∈vs,okV (fun m=>Nat.blt m 0) 8 u=true) (hv:Clo v) (w:World) (htab:TabOk w):Calls P f ⟨vs⟩ w fun e w'=>e= .returned v∧Below w.heap.size w w':=by
 have hs:SOK P f (fun us bl=>match bl with|[]=>(match Classical.propDecidable (us=vs) with| .isTrue _=>some (true,v,[])| .isFalse _=>none)|_=>none):=by
  refine sok_of hE n hf hn hb hL fun us bl u bl' hh=> ?_
  split at hh
  ·split at hh
   ·rename_i e _
    subst e
    simp only [Option.some.injEq,Prod.mk.injEq,true_and] at hh
    obtain ⟨rfl,rfl⟩:=hh
    exact ⟨h,by simpa using ha,hv,by simp⟩
   ·cases hh
  ·cases hh
 refine calls_of hs (vs:=vs) (v:=v) ?_ (fun u hu=> ?_) hv w htab
 ·simp only
  split
  ·rfl
  ·rename_i e _
   exact absurd rfl e
 ·intro g
  have:=okV_spec (p:=fun m=>Nat.blt m 0) (g:=g) (g':=fun n=>n) (fun n hn=>by simp [Nat.blt] at hn) 8 u (ha u hu)
  rw [this]
  have key:∀(k:Nat) (x:Value),okV (fun m=>Nat.blt m 0) k x=true→ren (fun n=>n) x=x:=by
   intro k
   induction k with
   |zero=>intro x hx; simp [okV] at hx
   | succ k ih=>
    have hl:∀l:List Value,l.all (okV (fun m=>Nat.blt m 0) k)=true→l.map (ren fun n=>n)=l:=fun l hl=>by
     rw [List.all_eq_true] at hl
     calc l.map (ren fun n=>n)=l.map id:=List.map_congr_left fun x hx=>ih x (hl x hx)
      _=l:=by simp
    intro x hx
    unfold okV at hx
    split at hx
    any_goals simp [ren]
    ·exact absurd hx (by simp [Nat.blt])
    ·exact absurd hx (by simp [Nat.blt])
    any_goals rw [renL_map]
    any_goals exact hl _ hx
    ·simp only [Bool.and_eq_true] at hx
     rw [renL_map]
     exact ⟨hl _ hx.1,hl _ hx.2⟩
    ·exact ih _ hx
    ·simp at hx
  exact key 8 u (ha u hu)
end RX
end
section
namespace Go.Proofs.YtpejalpgficopaaGreatDoor.G
open Go Go.Proofs Go.RowKit RX
theorem mixed_ok:Tryz.prog.follows .mixedOrders=true:=by kernel_rfl
end Go.Proofs.YtpejalpgficopaaGreatDoor.G
end
section
namespace Go.Proofs.YtpejalpgficopaaGreatDoor.G
open Go Go.Proofs Go.RowKit RX
def bigint_Mul.sp (f:Bool→ByteArray→Bool→ByteArray→(Bool×ByteArray)) (p:Bool→ByteArray→Bool→ByteArray→Bool):HSpec
 |[.agg ⟨[.bool A3,.string A2]⟩,.agg ⟨[.bool AD,.string AC]⟩],[]=>some (p A3 A2 AD AC,.agg ⟨[.bool (f A3 A2 AD AC).1,.string (f A3 A2 AD AC).2]⟩,[])
 |_,_=>none
def bigint_Add.sp (f:Bool→ByteArray→Bool→ByteArray→(Bool×ByteArray)) (p:Bool→ByteArray→Bool→ByteArray→Bool):HSpec
 |[.agg ⟨[.bool A3,.string A2]⟩,.agg ⟨[.bool AD,.string AC]⟩],[]=>some (p A3 A2 AD AC,.agg ⟨[.bool (f A3 A2 AD AC).1,.string (f A3 A2 AD AC).2]⟩,[])
 |_,_=>none
def bigint_Sub.sp (f:Bool→ByteArray→Bool→ByteArray→(Bool×ByteArray)) (p:Bool→ByteArray→Bool→ByteArray→Bool):HSpec
 |[.agg ⟨[.bool A3,.string A2]⟩,.agg ⟨[.bool AD,.string AC]⟩],[]=>some (p A3 A2 AD AC,.agg ⟨[.bool (f A3 A2 AD AC).1,.string (f A3 A2 AD AC).2]⟩,[])
 |_,_=>none
def bigint_Of.sp (f:Int→(Bool×ByteArray)) (p:Int→Bool):HSpec
 |[.int .i64 a0],[]=>some (p a0,.agg ⟨[.bool (f a0).1,.string (f a0).2]⟩,[])
 |_,_=>none
def bigint_DivMod.sp (f:Bool→ByteArray→Bool→ByteArray→(Bool×ByteArray×Bool×ByteArray×Int)) (p:Bool→ByteArray→Bool→ByteArray→Bool):HSpec
 |[.agg ⟨[.bool A3,.string A2]⟩,.agg ⟨[.bool AD,.string AC]⟩],[]=>some (p A3 A2 AD AC,.tuple ⟨[.agg ⟨[.bool (f A3 A2 AD AC).1,.string (f A3 A2 AD AC).2.1]⟩,.agg ⟨[.bool (f A3 A2 AD AC).2.2.1,.string (f A3 A2 AD AC).2.2.2.1]⟩,.int .i64 (f A3 A2 AD AC).2.2.2.2]⟩,[])
 |_,_=>none
def bigint_Gcd.sp (f:Bool→ByteArray→Bool→ByteArray→(Bool×ByteArray)) (p:Bool→ByteArray→Bool→ByteArray→Bool):HSpec
 |[.agg ⟨[.bool A3,.string A2]⟩,.agg ⟨[.bool AD,.string AC]⟩],[]=>some (p A3 A2 AD AC,.agg ⟨[.bool (f A3 A2 AD AC).1,.string (f A3 A2 AD AC).2]⟩,[])
 |_,_=>none
def bigint_Cmp.sp (f:Bool→ByteArray→Bool→ByteArray→(Int)) (p:Bool→ByteArray→Bool→ByteArray→Bool):HSpec
 |[.agg ⟨[.bool A3,.string A2]⟩,.agg ⟨[.bool AD,.string AC]⟩],[]=>some (p A3 A2 AD AC,.int .i64 (f A3 A2 AD AC),[])
 |_,_=>none
def bigint_Valid.sp (f:Bool→ByteArray→(Bool)):HSpec
 |[.agg ⟨[.bool A3,.string A2]⟩],[]=>some (true,.bool (f A3 A2),[])
 |_,_=>none
def bigint_Sign.sp (f:Bool→ByteArray→(Int)):HSpec
 |[.agg ⟨[.bool A3,.string A2]⟩],[]=>some (true,.int .i64 (f A3 A2),[])
 |_,_=>none
def bigint_Neg.sp (f:Bool→ByteArray→(Bool×ByteArray)):HSpec
 |[.agg ⟨[.bool A3,.string A2]⟩],[]=>some (true,.agg ⟨[.bool (f A3 A2).1,.string (f A3 A2).2]⟩,[])
 |_,_=>none
end Go.Proofs.YtpejalpgficopaaGreatDoor.G
end
section
namespace Go.Proofs.YtpejalpgficopaaGreatDoor.G
open Go Go.Proofs Go.RowKit RX
def field_common.sp (f:TF5 (Bool×ByteArray)) (p:TF5 Bool):HSpec
 |[.agg ⟨[.bool A3,.string A2,.bool A6,.string A5,.bool A4,.string A9,.bool A8,.string A7]⟩,.agg ⟨[.bool AD,.string AC]⟩],[]=>some (p A3 A2 A6 A5 A4 A9 A8 A7 AD AC,.agg ⟨[.bool (f A3 A2 A6 A5 A4 A9 A8 A7 AD AC).1,.string (f A3 A2 A6 A5 A4 A9 A8 A7 AD AC).2]⟩,[])
 |_,_=>none
def field_over.sp (f:Bool→ByteArray→Bool→ByteArray→(Bool×ByteArray)) (p:Bool→ByteArray→Bool→ByteArray→Bool):HSpec
 |[.agg ⟨[.bool A3,.string A2]⟩,.agg ⟨[.bool AD,.string AC]⟩],[]=>some (p A3 A2 AD AC,.agg ⟨[.bool (f A3 A2 AD AC).1,.string (f A3 A2 AD AC).2]⟩,[])
 |_,_=>none
def field_lowest.sp (f:TF5 (TY5)) (p:TF5 Bool):HSpec
 |[.agg ⟨[.bool A3,.string A2,.bool A6,.string A5,.bool A4,.string A9,.bool A8,.string A7]⟩,.agg ⟨[.bool AD,.string AC]⟩],[]=>some (p A3 A2 A6 A5 A4 A9 A8 A7 AD AC,.agg ⟨[.bool (f A3 A2 A6 A5 A4 A9 A8 A7 AD AC).1,.string (f A3 A2 A6 A5 A4 A9 A8 A7 AD AC).2.1,.bool (f A3 A2 A6 A5 A4 A9 A8 A7 AD AC).2.2.1,.string (f A3 A2 A6 A5 A4 A9 A8 A7 AD AC).2.2.2.1,.bool (f A3 A2 A6 A5 A4 A9 A8 A7 AD AC).2.2.2.2.1,.string (f A3 A2 A6 A5 A4 A9 A8 A7 AD AC).2.2.2.2.2.1,.bool (f A3 A2 A6 A5 A4 A9 A8 A7 AD AC).2.2.2.2.2.2.1,.string (f A3 A2 A6 A5 A4 A9 A8 A7 AD AC).2.2.2.2.2.2.2.1,.bool (f A3 A2 A6 A5 A4 A9 A8 A7 AD AC).2.2.2.2.2.2.2.2.1,.string (f A3 A2 A6 A5 A4 A9 A8 A7 AD AC).2.2.2.2.2.2.2.2.2]⟩,[])
 |_,_=>none
def field_Valid.sp (f:TF5 (Bool)) (p:TF5 Bool):HSpec
 |[.agg ⟨[.bool A3,.string A2,.bool A6,.string A5,.bool A4,.string A9,.bool A8,.string A7,.bool AB,.string AA]⟩],[]=>some (p A3 A2 A6 A5 A4 A9 A8 A7 AB AA,.bool (f A3 A2 A6 A5 A4 A9 A8 A7 AB AA),[])
 |_,_=>none
def field_Of.sp (f:Int→(TY5)) (p:Int→Bool):HSpec
 |[.int .i64 a0],[]=>some (p a0,.agg ⟨[.bool (f a0).1,.string (f a0).2.1,.bool (f a0).2.2.1,.string (f a0).2.2.2.1,.bool (f a0).2.2.2.2.1,.string (f a0).2.2.2.2.2.1,.bool (f a0).2.2.2.2.2.2.1,.string (f a0).2.2.2.2.2.2.2.1,.bool (f a0).2.2.2.2.2.2.2.2.1,.string (f a0).2.2.2.2.2.2.2.2.2]⟩,[])
 |_,_=>none
end Go.Proofs.YtpejalpgficopaaGreatDoor.G
end
section
namespace Go.Proofs.YtpejalpgficopaaGreatDoor.G
open Go Go.Proofs Go.RowKit RX
def field_mixed.sp (f:Int→Int→Int→(Int)):HSpec
 |[.int .i64 a0,.int .i64 a1,.int .i64 a2],[]=>some (true,.int .i64 (f a0 a1 a2),[])
 |_,_=>none
def field_times.sp (f:Int→Bool→ByteArray→Bool→ByteArray→(Bool×ByteArray)) (p:Int→Bool→ByteArray→Bool→ByteArray→Bool):HSpec
 |[.int .i64 a0,.agg ⟨[.bool AD,.string AC]⟩,.agg ⟨[.bool ET,.string ES]⟩],[]=>some (p a0 AD AC ET ES,.agg ⟨[.bool (f a0 AD AC ET ES).1,.string (f a0 AD AC ET ES).2]⟩,[])
 |_,_=>none
def field_sign2.sp (f:Bool→ByteArray→Bool→ByteArray→(Int)) (p:Bool→ByteArray→Bool→ByteArray→Bool):HSpec
 |[.agg ⟨[.bool A3,.string A2]⟩,.agg ⟨[.bool AD,.string AC]⟩],[]=>some (p A3 A2 AD AC,.int .i64 (f A3 A2 AD AC),[])
 |_,_=>none
def field_Sign.sp (f:TF5 (Int)) (p:TF5 Bool):HSpec
 |[.agg ⟨[.bool A3,.string A2,.bool A6,.string A5,.bool A4,.string A9,.bool A8,.string A7,.bool AB,.string AA]⟩],[]=>some (p A3 A2 A6 A5 A4 A9 A8 A7 AB AA,.int .i64 (f A3 A2 A6 A5 A4 A9 A8 A7 AB AA),[])
 |_,_=>none
def field_Add.sp (f:TF10 (TY5)) (p:TF10 Bool):HSpec
 |[.agg ⟨[.bool A3,.string A2,.bool A6,.string A5,.bool A4,.string A9,.bool A8,.string A7,.bool AB,.string AA]⟩,.agg ⟨[.bool AD,.string AC,.bool AH,.string AG,.bool AJ,.string AI,.bool B7,.string B6,.bool AF,.string AE]⟩],[]=>some (p A3 A2 A6 A5 A4 A9 A8 A7 AB AA AD AC AH AG AJ AI B7 B6 AF AE,.agg ⟨[.bool (f A3 A2 A6 A5 A4 A9 A8 A7 AB AA AD AC AH AG AJ AI B7 B6 AF AE).1,.string (f A3 A2 A6 A5 A4 A9 A8 A7 AB AA AD AC AH AG AJ AI B7 B6 AF AE).2.1,.bool (f A3 A2 A6 A5 A4 A9 A8 A7 AB AA AD AC AH AG AJ AI B7 B6 AF AE).2.2.1,.string (f A3 A2 A6 A5 A4 A9 A8 A7 AB AA AD AC AH AG AJ AI B7 B6 AF AE).2.2.2.1,.bool (f A3 A2 A6 A5 A4 A9 A8 A7 AB AA AD AC AH AG AJ AI B7 B6 AF AE).2.2.2.2.1,.string (f A3 A2 A6 A5 A4 A9 A8 A7 AB AA AD AC AH AG AJ AI B7 B6 AF AE).2.2.2.2.2.1,.bool (f A3 A2 A6 A5 A4 A9 A8 A7 AB AA AD AC AH AG AJ AI B7 B6 AF AE).2.2.2.2.2.2.1,.string (f A3 A2 A6 A5 A4 A9 A8 A7 AB AA AD AC AH AG AJ AI B7 B6 AF AE).2.2.2.2.2.2.2.1,.bool (f A3 A2 A6 A5 A4 A9 A8 A7 AB AA AD AC AH AG AJ AI B7 B6 AF AE).2.2.2.2.2.2.2.2.1,.string (f A3 A2 A6 A5 A4 A9 A8 A7 AB AA AD AC AH AG AJ AI B7 B6 AF AE).2.2.2.2.2.2.2.2.2]⟩,[])
 |_,_=>none
def field_Neg.sp (f:TF5 (TY5)) (p:TF5 Bool):HSpec
 |[.agg ⟨[.bool A3,.string A2,.bool A6,.string A5,.bool A4,.string A9,.bool A8,.string A7,.bool AB,.string AA]⟩],[]=>some (p A3 A2 A6 A5 A4 A9 A8 A7 AB AA,.agg ⟨[.bool (f A3 A2 A6 A5 A4 A9 A8 A7 AB AA).1,.string (f A3 A2 A6 A5 A4 A9 A8 A7 AB AA).2.1,.bool (f A3 A2 A6 A5 A4 A9 A8 A7 AB AA).2.2.1,.string (f A3 A2 A6 A5 A4 A9 A8 A7 AB AA).2.2.2.1,.bool (f A3 A2 A6 A5 A4 A9 A8 A7 AB AA).2.2.2.2.1,.string (f A3 A2 A6 A5 A4 A9 A8 A7 AB AA).2.2.2.2.2.1,.bool (f A3 A2 A6 A5 A4 A9 A8 A7 AB AA).2.2.2.2.2.2.1,.string (f A3 A2 A6 A5 A4 A9 A8 A7 AB AA).2.2.2.2.2.2.2.1,.bool (f A3 A2 A6 A5 A4 A9 A8 A7 AB AA).2.2.2.2.2.2.2.2.1,.string (f A3 A2 A6 A5 A4 A9 A8 A7 AB AA).2.2.2.2.2.2.2.2.2]⟩,[])
 |_,_=>none
def field_Sub.sp (f:TF10 (TY5)) (p:TF10 Bool):HSpec
 |[.agg ⟨[.bool A3,.string A2,.bool A6,.string A5,.bool A4,.string A9,.bool A8,.string A7,.bool AB,.string AA]⟩,.agg ⟨[.bool AD,.string AC,.bool AH,.string AG,.bool AJ,.string AI,.bool B7,.string B6,.bool AF,.string AE]⟩],[]=>some (p A3 A2 A6 A5 A4 A9 A8 A7 AB AA AD AC AH AG AJ AI B7 B6 AF AE,.agg ⟨[.bool (f A3 A2 A6 A5 A4 A9 A8 A7 AB AA AD AC AH AG AJ AI B7 B6 AF AE).1,.string (f A3 A2 A6 A5 A4 A9 A8 A7 AB AA AD AC AH AG AJ AI B7 B6 AF AE).2.1,.bool (f A3 A2 A6 A5 A4 A9 A8 A7 AB AA AD AC AH AG AJ AI B7 B6 AF AE).2.2.1,.string (f A3 A2 A6 A5 A4 A9 A8 A7 AB AA AD AC AH AG AJ AI B7 B6 AF AE).2.2.2.1,.bool (f A3 A2 A6 A5 A4 A9 A8 A7 AB AA AD AC AH AG AJ AI B7 B6 AF AE).2.2.2.2.1,.string (f A3 A2 A6 A5 A4 A9 A8 A7 AB AA AD AC AH AG AJ AI B7 B6 AF AE).2.2.2.2.2.1,.bool (f A3 A2 A6 A5 A4 A9 A8 A7 AB AA AD AC AH AG AJ AI B7 B6 AF AE).2.2.2.2.2.2.1,.string (f A3 A2 A6 A5 A4 A9 A8 A7 AB AA AD AC AH AG AJ AI B7 B6 AF AE).2.2.2.2.2.2.2.1,.bool (f A3 A2 A6 A5 A4 A9 A8 A7 AB AA AD AC AH AG AJ AI B7 B6 AF AE).2.2.2.2.2.2.2.2.1,.string (f A3 A2 A6 A5 A4 A9 A8 A7 AB AA AD AC AH AG AJ AI B7 B6 AF AE).2.2.2.2.2.2.2.2.2]⟩,[])
 |_,_=>none
def field_Cmp.sp (f:TF10 (Int)) (p:TF10 Bool):HSpec
 |[.agg ⟨[.bool A3,.string A2,.bool A6,.string A5,.bool A4,.string A9,.bool A8,.string A7,.bool AB,.string AA]⟩,.agg ⟨[.bool AD,.string AC,.bool AH,.string AG,.bool AJ,.string AI,.bool B7,.string B6,.bool AF,.string AE]⟩],[]=>some (p A3 A2 A6 A5 A4 A9 A8 A7 AB AA AD AC AH AG AJ AI B7 B6 AF AE,.int .i64 (f A3 A2 A6 A5 A4 A9 A8 A7 AB AA AD AC AH AG AJ AI B7 B6 AF AE),[])
 |_,_=>none
def field_product.sp (f:TF10 (TY5)) (p:TF10 Bool):HSpec
 |[.agg ⟨[.bool A3,.string A2,.bool A6,.string A5,.bool A4,.string A9,.bool A8,.string A7,.bool AB,.string AA]⟩,.agg ⟨[.bool AD,.string AC,.bool AH,.string AG,.bool AJ,.string AI,.bool B7,.string B6,.bool AF,.string AE]⟩],[]=>some (p A3 A2 A6 A5 A4 A9 A8 A7 AB AA AD AC AH AG AJ AI B7 B6 AF AE,.agg ⟨[.bool (f A3 A2 A6 A5 A4 A9 A8 A7 AB AA AD AC AH AG AJ AI B7 B6 AF AE).1,.string (f A3 A2 A6 A5 A4 A9 A8 A7 AB AA AD AC AH AG AJ AI B7 B6 AF AE).2.1,.bool (f A3 A2 A6 A5 A4 A9 A8 A7 AB AA AD AC AH AG AJ AI B7 B6 AF AE).2.2.1,.string (f A3 A2 A6 A5 A4 A9 A8 A7 AB AA AD AC AH AG AJ AI B7 B6 AF AE).2.2.2.1,.bool (f A3 A2 A6 A5 A4 A9 A8 A7 AB AA AD AC AH AG AJ AI B7 B6 AF AE).2.2.2.2.1,.string (f A3 A2 A6 A5 A4 A9 A8 A7 AB AA AD AC AH AG AJ AI B7 B6 AF AE).2.2.2.2.2.1,.bool (f A3 A2 A6 A5 A4 A9 A8 A7 AB AA AD AC AH AG AJ AI B7 B6 AF AE).2.2.2.2.2.2.1,.string (f A3 A2 A6 A5 A4 A9 A8 A7 AB AA AD AC AH AG AJ AI B7 B6 AF AE).2.2.2.2.2.2.2.1,.bool (f A3 A2 A6 A5 A4 A9 A8 A7 AB AA AD AC AH AG AJ AI B7 B6 AF AE).2.2.2.2.2.2.2.2.1,.string (f A3 A2 A6 A5 A4 A9 A8 A7 AB AA AD AC AH AG AJ AI B7 B6 AF AE).2.2.2.2.2.2.2.2.2]⟩,[])
 |_,_=>none
def field_Mul.sp (f:TF10 (TY5)) (p:TF10 Bool):HSpec
 |[.agg ⟨[.bool A3,.string A2,.bool A6,.string A5,.bool A4,.string A9,.bool A8,.string A7,.bool AB,.string AA]⟩,.agg ⟨[.bool AD,.string AC,.bool AH,.string AG,.bool AJ,.string AI,.bool B7,.string B6,.bool AF,.string AE]⟩],[]=>some (p A3 A2 A6 A5 A4 A9 A8 A7 AB AA AD AC AH AG AJ AI B7 B6 AF AE,.agg ⟨[.bool (f A3 A2 A6 A5 A4 A9 A8 A7 AB AA AD AC AH AG AJ AI B7 B6 AF AE).1,.string (f A3 A2 A6 A5 A4 A9 A8 A7 AB AA AD AC AH AG AJ AI B7 B6 AF AE).2.1,.bool (f A3 A2 A6 A5 A4 A9 A8 A7 AB AA AD AC AH AG AJ AI B7 B6 AF AE).2.2.1,.string (f A3 A2 A6 A5 A4 A9 A8 A7 AB AA AD AC AH AG AJ AI B7 B6 AF AE).2.2.2.1,.bool (f A3 A2 A6 A5 A4 A9 A8 A7 AB AA AD AC AH AG AJ AI B7 B6 AF AE).2.2.2.2.1,.string (f A3 A2 A6 A5 A4 A9 A8 A7 AB AA AD AC AH AG AJ AI B7 B6 AF AE).2.2.2.2.2.1,.bool (f A3 A2 A6 A5 A4 A9 A8 A7 AB AA AD AC AH AG AJ AI B7 B6 AF AE).2.2.2.2.2.2.1,.string (f A3 A2 A6 A5 A4 A9 A8 A7 AB AA AD AC AH AG AJ AI B7 B6 AF AE).2.2.2.2.2.2.2.1,.bool (f A3 A2 A6 A5 A4 A9 A8 A7 AB AA AD AC AH AG AJ AI B7 B6 AF AE).2.2.2.2.2.2.2.2.1,.string (f A3 A2 A6 A5 A4 A9 A8 A7 AB AA AD AC AH AG AJ AI B7 B6 AF AE).2.2.2.2.2.2.2.2.2]⟩,[])
 |_,_=>none
def field_Div.sp (f:TF10 (Bool×ByteArray×Bool×ByteArray×Bool×ByteArray×Bool×ByteArray×Bool×ByteArray×Int)) (p:TF10 Bool):HSpec
 |[.agg ⟨[.bool A3,.string A2,.bool A6,.string A5,.bool A4,.string A9,.bool A8,.string A7,.bool AB,.string AA]⟩,.agg ⟨[.bool AD,.string AC,.bool AH,.string AG,.bool AJ,.string AI,.bool B7,.string B6,.bool AF,.string AE]⟩],[]=>some (p A3 A2 A6 A5 A4 A9 A8 A7 AB AA AD AC AH AG AJ AI B7 B6 AF AE,.tuple ⟨[.agg ⟨[.bool (f A3 A2 A6 A5 A4 A9 A8 A7 AB AA AD AC AH AG AJ AI B7 B6 AF AE).1,.string (f A3 A2 A6 A5 A4 A9 A8 A7 AB AA AD AC AH AG AJ AI B7 B6 AF AE).2.1,.bool (f A3 A2 A6 A5 A4 A9 A8 A7 AB AA AD AC AH AG AJ AI B7 B6 AF AE).2.2.1,.string (f A3 A2 A6 A5 A4 A9 A8 A7 AB AA AD AC AH AG AJ AI B7 B6 AF AE).2.2.2.1,.bool (f A3 A2 A6 A5 A4 A9 A8 A7 AB AA AD AC AH AG AJ AI B7 B6 AF AE).2.2.2.2.1,.string (f A3 A2 A6 A5 A4 A9 A8 A7 AB AA AD AC AH AG AJ AI B7 B6 AF AE).2.2.2.2.2.1,.bool (f A3 A2 A6 A5 A4 A9 A8 A7 AB AA AD AC AH AG AJ AI B7 B6 AF AE).2.2.2.2.2.2.1,.string (f A3 A2 A6 A5 A4 A9 A8 A7 AB AA AD AC AH AG AJ AI B7 B6 AF AE).2.2.2.2.2.2.2.1,.bool (f A3 A2 A6 A5 A4 A9 A8 A7 AB AA AD AC AH AG AJ AI B7 B6 AF AE).2.2.2.2.2.2.2.2.1,.string (f A3 A2 A6 A5 A4 A9 A8 A7 AB AA AD AC AH AG AJ AI B7 B6 AF AE).2.2.2.2.2.2.2.2.2.1]⟩,.int .i64 (f A3 A2 A6 A5 A4 A9 A8 A7 AB AA AD AC AH AG AJ AI B7 B6 AF AE).2.2.2.2.2.2.2.2.2.2]⟩,[])
 |_,_=>none
end Go.Proofs.YtpejalpgficopaaGreatDoor.G
end
section
namespace Go.Proofs.YtpejalpgficopaaGreatDoor.G
open Go Go.Proofs Go.RowKit RX
def direction_quotient.sp (f:TF10 (Int×Int×Int)) (p:TF10 Bool):HSpec
 |[.agg ⟨[.bool A3,.string A2,.bool A6,.string A5,.bool A4,.string A9,.bool A8,.string A7,.bool AB,.string AA]⟩,.agg ⟨[.bool AD,.string AC,.bool AH,.string AG,.bool AJ,.string AI,.bool B7,.string B6,.bool AF,.string AE]⟩],[]=>some (p A3 A2 A6 A5 A4 A9 A8 A7 AB AA AD AC AH AG AJ AI B7 B6 AF AE,.tuple ⟨[.agg ⟨[.int .i64 (f A3 A2 A6 A5 A4 A9 A8 A7 AB AA AD AC AH AG AJ AI B7 B6 AF AE).1,.int .i64 (f A3 A2 A6 A5 A4 A9 A8 A7 AB AA AD AC AH AG AJ AI B7 B6 AF AE).2.1]⟩,.int .i64 (f A3 A2 A6 A5 A4 A9 A8 A7 AB AA AD AC AH AG AJ AI B7 B6 AF AE).2.2]⟩,[])
 |_,_=>none
end Go.Proofs.YtpejalpgficopaaGreatDoor.G
end
section
namespace Go.Proofs.YtpejalpgficopaaGreatDoor.G
open Go Go.Proofs Go.RowKit RX
def culetref01_Cmp.sp (f:Bool→ByteArray→Bool→ByteArray→(Int)) (p:Bool→ByteArray→Bool→ByteArray→Bool):HSpec
 |[.agg ⟨[.bool A3,.string A2]⟩,.agg ⟨[.bool AD,.string AC]⟩],[]=>some (p A3 A2 AD AC,.int .i64 (f A3 A2 AD AC),[])
 |_,_=>none
def culetref01_Of.sp (f:Int→(Bool×ByteArray)) (p:Int→Bool):HSpec
 |[.int .i64 a0],[]=>some (p a0,.agg ⟨[.bool (f a0).1,.string (f a0).2]⟩,[])
 |_,_=>none
def culetref01_Gcd.sp (f:Bool→ByteArray→Bool→ByteArray→(Bool×ByteArray)) (p:Bool→ByteArray→Bool→ByteArray→Bool):HSpec
 |[.agg ⟨[.bool A3,.string A2]⟩,.agg ⟨[.bool AD,.string AC]⟩],[]=>some (p A3 A2 AD AC,.agg ⟨[.bool (f A3 A2 AD AC).1,.string (f A3 A2 AD AC).2]⟩,[])
 |_,_=>none
def culetref01_Valid.sp (f:Bool→ByteArray→(Bool)):HSpec
 |[.agg ⟨[.bool A3,.string A2]⟩],[]=>some (true,.bool (f A3 A2),[])
 |_,_=>none
def culetref01_Sign.sp (f:Bool→ByteArray→(Int)):HSpec
 |[.agg ⟨[.bool A3,.string A2]⟩],[]=>some (true,.int .i64 (f A3 A2),[])
 |_,_=>none
def culetref01_Neg.sp (f:Bool→ByteArray→(Bool×ByteArray)):HSpec
 |[.agg ⟨[.bool A3,.string A2]⟩],[]=>some (true,.agg ⟨[.bool (f A3 A2).1,.string (f A3 A2).2]⟩,[])
 |_,_=>none
def culetref01_Abs.sp (f:Bool→ByteArray→(Bool×ByteArray)):HSpec
 |[.agg ⟨[.bool A3,.string A2]⟩],[]=>some (true,.agg ⟨[.bool (f A3 A2).1,.string (f A3 A2).2]⟩,[])
 |_,_=>none
def culetref02_words.sp (f:TF5 (Int×Int×Int×Int×Int×Bool)):HSpec
 |[.agg ⟨[.bool A3,.string A2,.bool A6,.string A5,.bool A4,.string A9,.bool A8,.string A7,.bool AB,.string AA]⟩],[]=>some (true,.tuple ⟨[.agg ⟨[.int .i64 (f A3 A2 A6 A5 A4 A9 A8 A7 AB AA).1,.int .i64 (f A3 A2 A6 A5 A4 A9 A8 A7 AB AA).2.1,.int .i64 (f A3 A2 A6 A5 A4 A9 A8 A7 AB AA).2.2.1,.int .i64 (f A3 A2 A6 A5 A4 A9 A8 A7 AB AA).2.2.2.1,.int .i64 (f A3 A2 A6 A5 A4 A9 A8 A7 AB AA).2.2.2.2.1]⟩,.bool (f A3 A2 A6 A5 A4 A9 A8 A7 AB AA).2.2.2.2.2]⟩,[])
 |_,_=>none
def culetref02_gcd.sp (f:Int→Int→Int→Int→Int→(Int)) (p:Int→Int→Int→Int→Int→Bool):HSpec
 |[.agg ⟨[.int .i64 A3,.int .i64 A2,.int .i64 A6,.int .i64 A5,.int .i64 A4]⟩],[]=>some (p A3 A2 A6 A5 A4,.int .i64 (f A3 A2 A6 A5 A4),[])
 |_,_=>none
end Go.Proofs.YtpejalpgficopaaGreatDoor.G
end
section
namespace Go.Proofs.YtpejalpgficopaaGreatDoor.G
open Go Go.Proofs Go.RowKit RX
def culetref02_Valid.sp (f:TF5 (Bool)) (p:TF5 Bool):HSpec
 |[.agg ⟨[.bool A3,.string A2,.bool A6,.string A5,.bool A4,.string A9,.bool A8,.string A7,.bool AB,.string AA]⟩],[]=>some (p A3 A2 A6 A5 A4 A9 A8 A7 AB AA,.bool (f A3 A2 A6 A5 A4 A9 A8 A7 AB AA),[])
 |_,_=>none
def culetref02_Few.sp (f:TF5 (Bool)) (p:TF5 Bool):HSpec
 |[.agg ⟨[.bool A3,.string A2,.bool A6,.string A5,.bool A4,.string A9,.bool A8,.string A7,.bool AB,.string AA]⟩],[]=>some (p A3 A2 A6 A5 A4 A9 A8 A7 AB AA,.bool (f A3 A2 A6 A5 A4 A9 A8 A7 AB AA),[])
 |_,_=>none
end Go.Proofs.YtpejalpgficopaaGreatDoor.G
end
section
namespace Go.Proofs.YtpejalpgficopaaGreatDoor.G
open Go Go.Proofs Go.RowKit RX
def culetlaw28_few.sp (f:TF20 (Bool)) (p:TF20 Bool):HSpec
 |[.agg ⟨.bool A3:: .string A2:: .bool A6:: .string A5:: .bool A4:: .string A9:: .bool A8:: .string A7:: .bool AB:: .string AA:: .bool B5:: .string B4:: .bool B3:: .string B2:: .bool AZ:: .string AY:: .bool AX:: .string AW:: .bool AV:: .string AU:: .bool AT:: .string AS:: .bool AR:: .string AQ:: .bool AP:: .string AO:: .bool AN:: .string AM:: .bool AL:: .string AK:: .bool BJ:: .string BI:: .bool BH:: .string BG:: .bool BF:: .string BE:: .bool BD:: .string BC:: .bool BB:: .string BA::[]⟩],[]=>some (p A3 A2 A6 A5 A4 A9 A8 A7 AB AA B5 B4 B3 B2 AZ AY AX AW AV AU AT AS AR AQ AP AO AN AM AL AK BJ BI BH BG BF BE BD BC BB BA,.bool (f A3 A2 A6 A5 A4 A9 A8 A7 AB AA B5 B4 B3 B2 AZ AY AX AW AV AU AT AS AR AQ AP AO AN AM AL AK BJ BI BH BG BF BE BD BC BB BA),[])
 |_,_=>none
def vector_Valid.sp (f:TF15 (Bool)) (p:TF15 Bool):HSpec
 |[.agg ⟨[.bool A3,.string A2,.bool A6,.string A5,.bool A4,.string A9,.bool A8,.string A7,.bool AB,.string AA,.bool B5,.string B4,.bool B3,.string B2,.bool AZ,.string AY,.bool AX,.string AW,.bool AV,.string AU,.bool AT,.string AS,.bool AR,.string AQ,.bool AP,.string AO,.bool AN,.string AM,.bool AL,.string AK]⟩],[]=>some (p A3 A2 A6 A5 A4 A9 A8 A7 AB AA B5 B4 B3 B2 AZ AY AX AW AV AU AT AS AR AQ AP AO AN AM AL AK,.bool (f A3 A2 A6 A5 A4 A9 A8 A7 AB AA B5 B4 B3 B2 AZ AY AX AW AV AU AT AS AR AQ AP AO AN AM AL AK),[])
 |_,_=>none
def vector_Of.sp (f:Int→Int→Int→(TY15)) (p:Int→Int→Int→Bool):HSpec
 |[.int .i64 a0,.int .i64 a1,.int .i64 a2],[]=>some (p a0 a1 a2,.agg ⟨[.bool (f a0 a1 a2).1,.string (f a0 a1 a2).2.1,.bool (f a0 a1 a2).2.2.1,.string (f a0 a1 a2).2.2.2.1,.bool (f a0 a1 a2).2.2.2.2.1,.string (f a0 a1 a2).2.2.2.2.2.1,.bool (f a0 a1 a2).2.2.2.2.2.2.1,.string (f a0 a1 a2).2.2.2.2.2.2.2.1,.bool (f a0 a1 a2).2.2.2.2.2.2.2.2.1,.string (f a0 a1 a2).2.2.2.2.2.2.2.2.2.1,.bool (f a0 a1 a2).2.2.2.2.2.2.2.2.2.2.1,.string (f a0 a1 a2).2.2.2.2.2.2.2.2.2.2.2.1,.bool (f a0 a1 a2).2.2.2.2.2.2.2.2.2.2.2.2.1,.string (f a0 a1 a2).2.2.2.2.2.2.2.2.2.2.2.2.2.1,.bool (f a0 a1 a2).2.2.2.2.2.2.2.2.2.2.2.2.2.2.1,.string (f a0 a1 a2).2.2.2.2.2.2.2.2.2.2.2.2.2.2.2.1,.bool (f a0 a1 a2).2.2.2.2.2.2.2.2.2.2.2.2.2.2.2.2.1,.string (f a0 a1 a2).2.2.2.2.2.2.2.2.2.2.2.2.2.2.2.2.2.1,.bool (f a0 a1 a2).2.2.2.2.2.2.2.2.2.2.2.2.2.2.2.2.2.2.1,.string (f a0 a1 a2).2.2.2.2.2.2.2.2.2.2.2.2.2.2.2.2.2.2.2.1,.bool (f a0 a1 a2).2.2.2.2.2.2.2.2.2.2.2.2.2.2.2.2.2.2.2.2.1,.string (f a0 a1 a2).2.2.2.2.2.2.2.2.2.2.2.2.2.2.2.2.2.2.2.2.2.1,.bool (f a0 a1 a2).2.2.2.2.2.2.2.2.2.2.2.2.2.2.2.2.2.2.2.2.2.2.1,.string (f a0 a1 a2).2.2.2.2.2.2.2.2.2.2.2.2.2.2.2.2.2.2.2.2.2.2.2.1,.bool (f a0 a1 a2).2.2.2.2.2.2.2.2.2.2.2.2.2.2.2.2.2.2.2.2.2.2.2.2.1,.string (f a0 a1 a2).2.2.2.2.2.2.2.2.2.2.2.2.2.2.2.2.2.2.2.2.2.2.2.2.2.1,.bool (f a0 a1 a2).2.2.2.2.2.2.2.2.2.2.2.2.2.2.2.2.2.2.2.2.2.2.2.2.2.2.1,.string (f a0 a1 a2).2.2.2.2.2.2.2.2.2.2.2.2.2.2.2.2.2.2.2.2.2.2.2.2.2.2.2.1,.bool (f a0 a1 a2).2.2.2.2.2.2.2.2.2.2.2.2.2.2.2.2.2.2.2.2.2.2.2.2.2.2.2.2.1,.string (f a0 a1 a2).2.2.2.2.2.2.2.2.2.2.2.2.2.2.2.2.2.2.2.2.2.2.2.2.2.2.2.2.2]⟩,[])
 |_,_=>none
def vector_Zero.sp (f:TF15 (Bool)) (p:TF15 Bool):HSpec
 |[.agg ⟨[.bool A3,.string A2,.bool A6,.string A5,.bool A4,.string A9,.bool A8,.string A7,.bool AB,.string AA,.bool B5,.string B4,.bool B3,.string B2,.bool AZ,.string AY,.bool AX,.string AW,.bool AV,.string AU,.bool AT,.string AS,.bool AR,.string AQ,.bool AP,.string AO,.bool AN,.string AM,.bool AL,.string AK]⟩],[]=>some (p A3 A2 A6 A5 A4 A9 A8 A7 AB AA B5 B4 B3 B2 AZ AY AX AW AV AU AT AS AR AQ AP AO AN AM AL AK,.bool (f A3 A2 A6 A5 A4 A9 A8 A7 AB AA B5 B4 B3 B2 AZ AY AX AW AV AU AT AS AR AQ AP AO AN AM AL AK),[])
 |_,_=>none
def plane_Valid.sp (f:TF20 (Bool)) (p:TF20 Bool):HSpec
 |[.agg ⟨.bool A3:: .string A2:: .bool A6:: .string A5:: .bool A4:: .string A9:: .bool A8:: .string A7:: .bool AB:: .string AA:: .bool B5:: .string B4:: .bool B3:: .string B2:: .bool AZ:: .string AY:: .bool AX:: .string AW:: .bool AV:: .string AU:: .bool AT:: .string AS:: .bool AR:: .string AQ:: .bool AP:: .string AO:: .bool AN:: .string AM:: .bool AL:: .string AK:: .bool BJ:: .string BI:: .bool BH:: .string BG:: .bool BF:: .string BE:: .bool BD:: .string BC:: .bool BB:: .string BA::[]⟩],[]=>some (p A3 A2 A6 A5 A4 A9 A8 A7 AB AA B5 B4 B3 B2 AZ AY AX AW AV AU AT AS AR AQ AP AO AN AM AL AK BJ BI BH BG BF BE BD BC BB BA,.bool (f A3 A2 A6 A5 A4 A9 A8 A7 AB AA B5 B4 B3 B2 AZ AY AX AW AV AU AT AS AR AQ AP AO AN AM AL AK BJ BI BH BG BF BE BD BC BB BA),[])
 |_,_=>none
def vector_Dot.sp (f:TF30 (TY5)) (p:TF30 Bool):HSpec
 |[.agg ⟨[.bool A3,.string A2,.bool A6,.string A5,.bool A4,.string A9,.bool A8,.string A7,.bool AB,.string AA,.bool B5,.string B4,.bool B3,.string B2,.bool AZ,.string AY,.bool AX,.string AW,.bool AV,.string AU,.bool AT,.string AS,.bool AR,.string AQ,.bool AP,.string AO,.bool AN,.string AM,.bool AL,.string AK]⟩,.agg ⟨[.bool AD,.string AC,.bool AH,.string AG,.bool AJ,.string AI,.bool B7,.string B6,.bool AF,.string AE,.bool DS,.string DR,.bool DQ,.string DP,.bool DO,.string DN,.bool DM,.string DL,.bool DK,.string DJ,.bool DI,.string DH,.bool DG,.string DF,.bool DE,.string DD,.bool DC,.string DB,.bool DA,.string D9]⟩],[]=>some (p A3 A2 A6 A5 A4 A9 A8 A7 AB AA B5 B4 B3 B2 AZ AY AX AW AV AU AT AS AR AQ AP AO AN AM AL AK AD AC AH AG AJ AI B7 B6 AF AE DS DR DQ DP DO DN DM DL DK DJ DI DH DG DF DE DD DC DB DA D9,.agg ⟨[.bool (f A3 A2 A6 A5 A4 A9 A8 A7 AB AA B5 B4 B3 B2 AZ AY AX AW AV AU AT AS AR AQ AP AO AN AM AL AK AD AC AH AG AJ AI B7 B6 AF AE DS DR DQ DP DO DN DM DL DK DJ DI DH DG DF DE DD DC DB DA D9).1,.string (f A3 A2 A6 A5 A4 A9 A8 A7 AB AA B5 B4 B3 B2 AZ AY AX AW AV AU AT AS AR AQ AP AO AN AM AL AK AD AC AH AG AJ AI B7 B6 AF AE DS DR DQ DP DO DN DM DL DK DJ DI DH DG DF DE DD DC DB DA D9).2.1,.bool (f A3 A2 A6 A5 A4 A9 A8 A7 AB AA B5 B4 B3 B2 AZ AY AX AW AV AU AT AS AR AQ AP AO AN AM AL AK AD AC AH AG AJ AI B7 B6 AF AE DS DR DQ DP DO DN DM DL DK DJ DI DH DG DF DE DD DC DB DA D9).2.2.1,.string (f A3 A2 A6 A5 A4 A9 A8 A7 AB AA B5 B4 B3 B2 AZ AY AX AW AV AU AT AS AR AQ AP AO AN AM AL AK AD AC AH AG AJ AI B7 B6 AF AE DS DR DQ DP DO DN DM DL DK DJ DI DH DG DF DE DD DC DB DA D9).2.2.2.1,.bool (f A3 A2 A6 A5 A4 A9 A8 A7 AB AA B5 B4 B3 B2 AZ AY AX AW AV AU AT AS AR AQ AP AO AN AM AL AK AD AC AH AG AJ AI B7 B6 AF AE DS DR DQ DP DO DN DM DL DK DJ DI DH DG DF DE DD DC DB DA D9).2.2.2.2.1,.string (f A3 A2 A6 A5 A4 A9 A8 A7 AB AA B5 B4 B3 B2 AZ AY AX AW AV AU AT AS AR AQ AP AO AN AM AL AK AD AC AH AG AJ AI B7 B6 AF AE DS DR DQ DP DO DN DM DL DK DJ DI DH DG DF DE DD DC DB DA D9).2.2.2.2.2.1,.bool (f A3 A2 A6 A5 A4 A9 A8 A7 AB AA B5 B4 B3 B2 AZ AY AX AW AV AU AT AS AR AQ AP AO AN AM AL AK AD AC AH AG AJ AI B7 B6 AF AE DS DR DQ DP DO DN DM DL DK DJ DI DH DG DF DE DD DC DB DA D9).2.2.2.2.2.2.1,.string (f A3 A2 A6 A5 A4 A9 A8 A7 AB AA B5 B4 B3 B2 AZ AY AX AW AV AU AT AS AR AQ AP AO AN AM AL AK AD AC AH AG AJ AI B7 B6 AF AE DS DR DQ DP DO DN DM DL DK DJ DI DH DG DF DE DD DC DB DA D9).2.2.2.2.2.2.2.1,.bool (f A3 A2 A6 A5 A4 A9 A8 A7 AB AA B5 B4 B3 B2 AZ AY AX AW AV AU AT AS AR AQ AP AO AN AM AL AK AD AC AH AG AJ AI B7 B6 AF AE DS DR DQ DP DO DN DM DL DK DJ DI DH DG DF DE DD DC DB DA D9).2.2.2.2.2.2.2.2.1,.string (f A3 A2 A6 A5 A4 A9 A8 A7 AB AA B5 B4 B3 B2 AZ AY AX AW AV AU AT AS AR AQ AP AO AN AM AL AK AD AC AH AG AJ AI B7 B6 AF AE DS DR DQ DP DO DN DM DL DK DJ DI DH DG DF DE DD DC DB DA D9).2.2.2.2.2.2.2.2.2]⟩,[])
 |_,_=>none
def direction_calc_keep.sp (f:Int→Int→Int→Int→(Int×Int×Int)):HSpec
 |[.pointer (some ⟨0,0,none⟩),.agg ⟨[.int .i64 AD,.int .i64 AC]⟩,.int .i64 a2],[.cs [.int .i64 s0_0] 98]=>some (true,.agg ⟨[.int .i64 (f s0_0 AD AC a2).1,.int .i64 (f s0_0 AD AC a2).2.1]⟩,[.cs [.int .i64 (f s0_0 AD AC a2).2.2] 98])
 |_,_=>none
def direction_calc_box.sp (f:Int→Int→Int→Int→Int→Int→Int→(Int×Int×Int×Int×Int×Int×Int×Int)):HSpec
 |[.pointer (some ⟨0,0,none⟩),.agg ⟨[.int .i64 AD,.int .i64 AC,.int .i64 AH,.int .i64 AG,.int .i64 AJ,.int .i64 AI]⟩],[.cs [.int .i64 s0_0] 98]=>some (true,.tuple ⟨[.agg ⟨[.int .i64 (f s0_0 AD AC AH AG AJ AI).1,.int .i64 (f s0_0 AD AC AH AG AJ AI).2.1,.int .i64 (f s0_0 AD AC AH AG AJ AI).2.2.1,.int .i64 (f s0_0 AD AC AH AG AJ AI).2.2.2.1,.int .i64 (f s0_0 AD AC AH AG AJ AI).2.2.2.2.1,.int .i64 (f s0_0 AD AC AH AG AJ AI).2.2.2.2.2.1]⟩,.int .i64 (f s0_0 AD AC AH AG AJ AI).2.2.2.2.2.2.1]⟩,[.cs [.int .i64 (f s0_0 AD AC AH AG AJ AI).2.2.2.2.2.2.2] 98])
 |_,_=>none
def direction_Normal.sp (f:TF20 (Int×Int×Int×Int×Int×Int×Int)) (p:TF20 Bool):HSpec
 |[.agg ⟨.bool A3:: .string A2:: .bool A6:: .string A5:: .bool A4:: .string A9:: .bool A8:: .string A7:: .bool AB:: .string AA:: .bool B5:: .string B4:: .bool B3:: .string B2:: .bool AZ:: .string AY:: .bool AX:: .string AW:: .bool AV:: .string AU:: .bool AT:: .string AS:: .bool AR:: .string AQ:: .bool AP:: .string AO:: .bool AN:: .string AM:: .bool AL:: .string AK:: .bool BJ:: .string BI:: .bool BH:: .string BG:: .bool BF:: .string BE:: .bool BD:: .string BC:: .bool BB:: .string BA::[]⟩],[]=>some (p A3 A2 A6 A5 A4 A9 A8 A7 AB AA B5 B4 B3 B2 AZ AY AX AW AV AU AT AS AR AQ AP AO AN AM AL AK BJ BI BH BG BF BE BD BC BB BA,.tuple ⟨[.agg ⟨[.int .i64 (f A3 A2 A6 A5 A4 A9 A8 A7 AB AA B5 B4 B3 B2 AZ AY AX AW AV AU AT AS AR AQ AP AO AN AM AL AK BJ BI BH BG BF BE BD BC BB BA).1,.int .i64 (f A3 A2 A6 A5 A4 A9 A8 A7 AB AA B5 B4 B3 B2 AZ AY AX AW AV AU AT AS AR AQ AP AO AN AM AL AK BJ BI BH BG BF BE BD BC BB BA).2.1,.int .i64 (f A3 A2 A6 A5 A4 A9 A8 A7 AB AA B5 B4 B3 B2 AZ AY AX AW AV AU AT AS AR AQ AP AO AN AM AL AK BJ BI BH BG BF BE BD BC BB BA).2.2.1,.int .i64 (f A3 A2 A6 A5 A4 A9 A8 A7 AB AA B5 B4 B3 B2 AZ AY AX AW AV AU AT AS AR AQ AP AO AN AM AL AK BJ BI BH BG BF BE BD BC BB BA).2.2.2.1,.int .i64 (f A3 A2 A6 A5 A4 A9 A8 A7 AB AA B5 B4 B3 B2 AZ AY AX AW AV AU AT AS AR AQ AP AO AN AM AL AK BJ BI BH BG BF BE BD BC BB BA).2.2.2.2.1,.int .i64 (f A3 A2 A6 A5 A4 A9 A8 A7 AB AA B5 B4 B3 B2 AZ AY AX AW AV AU AT AS AR AQ AP AO AN AM AL AK BJ BI BH BG BF BE BD BC BB BA).2.2.2.2.2.1]⟩,.int .i64 (f A3 A2 A6 A5 A4 A9 A8 A7 AB AA B5 B4 B3 B2 AZ AY AX AW AV AU AT AS AR AQ AP AO AN AM AL AK BJ BI BH BG BF BE BD BC BB BA).2.2.2.2.2.2]⟩,[])
 |_,_=>none
end Go.Proofs.YtpejalpgficopaaGreatDoor.G
end
section
namespace Go.Proofs.YtpejalpgficopaaGreatDoor.G
open Go Go.Proofs Go.RowKit RX
def culetref04_Valid.sp (f:TF15 (Bool)) (p:TF15 Bool):HSpec
 |[.agg ⟨[.bool A3,.string A2,.bool A6,.string A5,.bool A4,.string A9,.bool A8,.string A7,.bool AB,.string AA,.bool B5,.string B4,.bool B3,.string B2,.bool AZ,.string AY,.bool AX,.string AW,.bool AV,.string AU,.bool AT,.string AS,.bool AR,.string AQ,.bool AP,.string AO,.bool AN,.string AM,.bool AL,.string AK]⟩],[]=>some (p A3 A2 A6 A5 A4 A9 A8 A7 AB AA B5 B4 B3 B2 AZ AY AX AW AV AU AT AS AR AQ AP AO AN AM AL AK,.bool (f A3 A2 A6 A5 A4 A9 A8 A7 AB AA B5 B4 B3 B2 AZ AY AX AW AV AU AT AS AR AQ AP AO AN AM AL AK),[])
 |_,_=>none
def culetref02_Of.sp (f:Int→(TY5)) (p:Int→Bool):HSpec
 |[.int .i64 a0],[]=>some (p a0,.agg ⟨[.bool (f a0).1,.string (f a0).2.1,.bool (f a0).2.2.1,.string (f a0).2.2.2.1,.bool (f a0).2.2.2.2.1,.string (f a0).2.2.2.2.2.1,.bool (f a0).2.2.2.2.2.2.1,.string (f a0).2.2.2.2.2.2.2.1,.bool (f a0).2.2.2.2.2.2.2.2.1,.string (f a0).2.2.2.2.2.2.2.2.2]⟩,[])
 |_,_=>none
def culetref04_Of.sp (f:Int→Int→Int→(TY15)) (p:Int→Int→Int→Bool):HSpec
 |[.int .i64 a0,.int .i64 a1,.int .i64 a2],[]=>some (p a0 a1 a2,.agg ⟨[.bool (f a0 a1 a2).1,.string (f a0 a1 a2).2.1,.bool (f a0 a1 a2).2.2.1,.string (f a0 a1 a2).2.2.2.1,.bool (f a0 a1 a2).2.2.2.2.1,.string (f a0 a1 a2).2.2.2.2.2.1,.bool (f a0 a1 a2).2.2.2.2.2.2.1,.string (f a0 a1 a2).2.2.2.2.2.2.2.1,.bool (f a0 a1 a2).2.2.2.2.2.2.2.2.1,.string (f a0 a1 a2).2.2.2.2.2.2.2.2.2.1,.bool (f a0 a1 a2).2.2.2.2.2.2.2.2.2.2.1,.string (f a0 a1 a2).2.2.2.2.2.2.2.2.2.2.2.1,.bool (f a0 a1 a2).2.2.2.2.2.2.2.2.2.2.2.2.1,.string (f a0 a1 a2).2.2.2.2.2.2.2.2.2.2.2.2.2.1,.bool (f a0 a1 a2).2.2.2.2.2.2.2.2.2.2.2.2.2.2.1,.string (f a0 a1 a2).2.2.2.2.2.2.2.2.2.2.2.2.2.2.2.1,.bool (f a0 a1 a2).2.2.2.2.2.2.2.2.2.2.2.2.2.2.2.2.1,.string (f a0 a1 a2).2.2.2.2.2.2.2.2.2.2.2.2.2.2.2.2.2.1,.bool (f a0 a1 a2).2.2.2.2.2.2.2.2.2.2.2.2.2.2.2.2.2.2.1,.string (f a0 a1 a2).2.2.2.2.2.2.2.2.2.2.2.2.2.2.2.2.2.2.2.1,.bool (f a0 a1 a2).2.2.2.2.2.2.2.2.2.2.2.2.2.2.2.2.2.2.2.2.1,.string (f a0 a1 a2).2.2.2.2.2.2.2.2.2.2.2.2.2.2.2.2.2.2.2.2.2.1,.bool (f a0 a1 a2).2.2.2.2.2.2.2.2.2.2.2.2.2.2.2.2.2.2.2.2.2.2.1,.string (f a0 a1 a2).2.2.2.2.2.2.2.2.2.2.2.2.2.2.2.2.2.2.2.2.2.2.2.1,.bool (f a0 a1 a2).2.2.2.2.2.2.2.2.2.2.2.2.2.2.2.2.2.2.2.2.2.2.2.2.1,.string (f a0 a1 a2).2.2.2.2.2.2.2.2.2.2.2.2.2.2.2.2.2.2.2.2.2.2.2.2.2.1,.bool (f a0 a1 a2).2.2.2.2.2.2.2.2.2.2.2.2.2.2.2.2.2.2.2.2.2.2.2.2.2.2.1,.string (f a0 a1 a2).2.2.2.2.2.2.2.2.2.2.2.2.2.2.2.2.2.2.2.2.2.2.2.2.2.2.2.1,.bool (f a0 a1 a2).2.2.2.2.2.2.2.2.2.2.2.2.2.2.2.2.2.2.2.2.2.2.2.2.2.2.2.2.1,.string (f a0 a1 a2).2.2.2.2.2.2.2.2.2.2.2.2.2.2.2.2.2.2.2.2.2.2.2.2.2.2.2.2.2]⟩,[])
 |_,_=>none
def culetref04_Zero.sp (f:TF15 (Bool)) (p:TF15 Bool):HSpec
 |[.agg ⟨[.bool A3,.string A2,.bool A6,.string A5,.bool A4,.string A9,.bool A8,.string A7,.bool AB,.string AA,.bool B5,.string B4,.bool B3,.string B2,.bool AZ,.string AY,.bool AX,.string AW,.bool AV,.string AU,.bool AT,.string AS,.bool AR,.string AQ,.bool AP,.string AO,.bool AN,.string AM,.bool AL,.string AK]⟩],[]=>some (p A3 A2 A6 A5 A4 A9 A8 A7 AB AA B5 B4 B3 B2 AZ AY AX AW AV AU AT AS AR AQ AP AO AN AM AL AK,.bool (f A3 A2 A6 A5 A4 A9 A8 A7 AB AA B5 B4 B3 B2 AZ AY AX AW AV AU AT AS AR AQ AP AO AN AM AL AK),[])
 |_,_=>none
def culetref05_Valid.sp (f:TF20 (Bool)) (p:TF20 Bool):HSpec
 |[.agg ⟨.bool A3:: .string A2:: .bool A6:: .string A5:: .bool A4:: .string A9:: .bool A8:: .string A7:: .bool AB:: .string AA:: .bool B5:: .string B4:: .bool B3:: .string B2:: .bool AZ:: .string AY:: .bool AX:: .string AW:: .bool AV:: .string AU:: .bool AT:: .string AS:: .bool AR:: .string AQ:: .bool AP:: .string AO:: .bool AN:: .string AM:: .bool AL:: .string AK:: .bool BJ:: .string BI:: .bool BH:: .string BG:: .bool BF:: .string BE:: .bool BD:: .string BC:: .bool BB:: .string BA::[]⟩],[]=>some (p A3 A2 A6 A5 A4 A9 A8 A7 AB AA B5 B4 B3 B2 AZ AY AX AW AV AU AT AS AR AQ AP AO AN AM AL AK BJ BI BH BG BF BE BD BC BB BA,.bool (f A3 A2 A6 A5 A4 A9 A8 A7 AB AA B5 B4 B3 B2 AZ AY AX AW AV AU AT AS AR AQ AP AO AN AM AL AK BJ BI BH BG BF BE BD BC BB BA),[])
 |_,_=>none
def culetref02_Neg.sp (f:TF5 (TY5)) (p:TF5 Bool):HSpec
 |[.agg ⟨[.bool A3,.string A2,.bool A6,.string A5,.bool A4,.string A9,.bool A8,.string A7,.bool AB,.string AA]⟩],[]=>some (p A3 A2 A6 A5 A4 A9 A8 A7 AB AA,.agg ⟨[.bool (f A3 A2 A6 A5 A4 A9 A8 A7 AB AA).1,.string (f A3 A2 A6 A5 A4 A9 A8 A7 AB AA).2.1,.bool (f A3 A2 A6 A5 A4 A9 A8 A7 AB AA).2.2.1,.string (f A3 A2 A6 A5 A4 A9 A8 A7 AB AA).2.2.2.1,.bool (f A3 A2 A6 A5 A4 A9 A8 A7 AB AA).2.2.2.2.1,.string (f A3 A2 A6 A5 A4 A9 A8 A7 AB AA).2.2.2.2.2.1,.bool (f A3 A2 A6 A5 A4 A9 A8 A7 AB AA).2.2.2.2.2.2.1,.string (f A3 A2 A6 A5 A4 A9 A8 A7 AB AA).2.2.2.2.2.2.2.1,.bool (f A3 A2 A6 A5 A4 A9 A8 A7 AB AA).2.2.2.2.2.2.2.2.1,.string (f A3 A2 A6 A5 A4 A9 A8 A7 AB AA).2.2.2.2.2.2.2.2.2]⟩,[])
 |_,_=>none
def culetref04_Neg.sp (f:TF15 (TY15)) (p:TF15 Bool):HSpec
 |[.agg ⟨[.bool A3,.string A2,.bool A6,.string A5,.bool A4,.string A9,.bool A8,.string A7,.bool AB,.string AA,.bool B5,.string B4,.bool B3,.string B2,.bool AZ,.string AY,.bool AX,.string AW,.bool AV,.string AU,.bool AT,.string AS,.bool AR,.string AQ,.bool AP,.string AO,.bool AN,.string AM,.bool AL,.string AK]⟩],[]=>some (p A3 A2 A6 A5 A4 A9 A8 A7 AB AA B5 B4 B3 B2 AZ AY AX AW AV AU AT AS AR AQ AP AO AN AM AL AK,.agg ⟨[.bool (f A3 A2 A6 A5 A4 A9 A8 A7 AB AA B5 B4 B3 B2 AZ AY AX AW AV AU AT AS AR AQ AP AO AN AM AL AK).1,.string (f A3 A2 A6 A5 A4 A9 A8 A7 AB AA B5 B4 B3 B2 AZ AY AX AW AV AU AT AS AR AQ AP AO AN AM AL AK).2.1,.bool (f A3 A2 A6 A5 A4 A9 A8 A7 AB AA B5 B4 B3 B2 AZ AY AX AW AV AU AT AS AR AQ AP AO AN AM AL AK).2.2.1,.string (f A3 A2 A6 A5 A4 A9 A8 A7 AB AA B5 B4 B3 B2 AZ AY AX AW AV AU AT AS AR AQ AP AO AN AM AL AK).2.2.2.1,.bool (f A3 A2 A6 A5 A4 A9 A8 A7 AB AA B5 B4 B3 B2 AZ AY AX AW AV AU AT AS AR AQ AP AO AN AM AL AK).2.2.2.2.1,.string (f A3 A2 A6 A5 A4 A9 A8 A7 AB AA B5 B4 B3 B2 AZ AY AX AW AV AU AT AS AR AQ AP AO AN AM AL AK).2.2.2.2.2.1,.bool (f A3 A2 A6 A5 A4 A9 A8 A7 AB AA B5 B4 B3 B2 AZ AY AX AW AV AU AT AS AR AQ AP AO AN AM AL AK).2.2.2.2.2.2.1,.string (f A3 A2 A6 A5 A4 A9 A8 A7 AB AA B5 B4 B3 B2 AZ AY AX AW AV AU AT AS AR AQ AP AO AN AM AL AK).2.2.2.2.2.2.2.1,.bool (f A3 A2 A6 A5 A4 A9 A8 A7 AB AA B5 B4 B3 B2 AZ AY AX AW AV AU AT AS AR AQ AP AO AN AM AL AK).2.2.2.2.2.2.2.2.1,.string (f A3 A2 A6 A5 A4 A9 A8 A7 AB AA B5 B4 B3 B2 AZ AY AX AW AV AU AT AS AR AQ AP AO AN AM AL AK).2.2.2.2.2.2.2.2.2.1,.bool (f A3 A2 A6 A5 A4 A9 A8 A7 AB AA B5 B4 B3 B2 AZ AY AX AW AV AU AT AS AR AQ AP AO AN AM AL AK).2.2.2.2.2.2.2.2.2.2.1,.string (f A3 A2 A6 A5 A4 A9 A8 A7 AB AA B5 B4 B3 B2 AZ AY AX AW AV AU AT AS AR AQ AP AO AN AM AL AK).2.2.2.2.2.2.2.2.2.2.2.1,.bool (f A3 A2 A6 A5 A4 A9 A8 A7 AB AA B5 B4 B3 B2 AZ AY AX AW AV AU AT AS AR AQ AP AO AN AM AL AK).2.2.2.2.2.2.2.2.2.2.2.2.1,.string (f A3 A2 A6 A5 A4 A9 A8 A7 AB AA B5 B4 B3 B2 AZ AY AX AW AV AU AT AS AR AQ AP AO AN AM AL AK).2.2.2.2.2.2.2.2.2.2.2.2.2.1,.bool (f A3 A2 A6 A5 A4 A9 A8 A7 AB AA B5 B4 B3 B2 AZ AY AX AW AV AU AT AS AR AQ AP AO AN AM AL AK).2.2.2.2.2.2.2.2.2.2.2.2.2.2.1,.string (f A3 A2 A6 A5 A4 A9 A8 A7 AB AA B5 B4 B3 B2 AZ AY AX AW AV AU AT AS AR AQ AP AO AN AM AL AK).2.2.2.2.2.2.2.2.2.2.2.2.2.2.2.1,.bool (f A3 A2 A6 A5 A4 A9 A8 A7 AB AA B5 B4 B3 B2 AZ AY AX AW AV AU AT AS AR AQ AP AO AN AM AL AK).2.2.2.2.2.2.2.2.2.2.2.2.2.2.2.2.1,.string (f A3 A2 A6 A5 A4 A9 A8 A7 AB AA B5 B4 B3 B2 AZ AY AX AW AV AU AT AS AR AQ AP AO AN AM AL AK).2.2.2.2.2.2.2.2.2.2.2.2.2.2.2.2.2.1,.bool (f A3 A2 A6 A5 A4 A9 A8 A7 AB AA B5 B4 B3 B2 AZ AY AX AW AV AU AT AS AR AQ AP AO AN AM AL AK).2.2.2.2.2.2.2.2.2.2.2.2.2.2.2.2.2.2.1,.string (f A3 A2 A6 A5 A4 A9 A8 A7 AB AA B5 B4 B3 B2 AZ AY AX AW AV AU AT AS AR AQ AP AO AN AM AL AK).2.2.2.2.2.2.2.2.2.2.2.2.2.2.2.2.2.2.2.1,.bool (f A3 A2 A6 A5 A4 A9 A8 A7 AB AA B5 B4 B3 B2 AZ AY AX AW AV AU AT AS AR AQ AP AO AN AM AL AK).2.2.2.2.2.2.2.2.2.2.2.2.2.2.2.2.2.2.2.2.1,.string (f A3 A2 A6 A5 A4 A9 A8 A7 AB AA B5 B4 B3 B2 AZ AY AX AW AV AU AT AS AR AQ AP AO AN AM AL AK).2.2.2.2.2.2.2.2.2.2.2.2.2.2.2.2.2.2.2.2.2.1,.bool (f A3 A2 A6 A5 A4 A9 A8 A7 AB AA B5 B4 B3 B2 AZ AY AX AW AV AU AT AS AR AQ AP AO AN AM AL AK).2.2.2.2.2.2.2.2.2.2.2.2.2.2.2.2.2.2.2.2.2.2.1,.string (f A3 A2 A6 A5 A4 A9 A8 A7 AB AA B5 B4 B3 B2 AZ AY AX AW AV AU AT AS AR AQ AP AO AN AM AL AK).2.2.2.2.2.2.2.2.2.2.2.2.2.2.2.2.2.2.2.2.2.2.2.1,.bool (f A3 A2 A6 A5 A4 A9 A8 A7 AB AA B5 B4 B3 B2 AZ AY AX AW AV AU AT AS AR AQ AP AO AN AM AL AK).2.2.2.2.2.2.2.2.2.2.2.2.2.2.2.2.2.2.2.2.2.2.2.2.1,.string (f A3 A2 A6 A5 A4 A9 A8 A7 AB AA B5 B4 B3 B2 AZ AY AX AW AV AU AT AS AR AQ AP AO AN AM AL AK).2.2.2.2.2.2.2.2.2.2.2.2.2.2.2.2.2.2.2.2.2.2.2.2.2.1,.bool (f A3 A2 A6 A5 A4 A9 A8 A7 AB AA B5 B4 B3 B2 AZ AY AX AW AV AU AT AS AR AQ AP AO AN AM AL AK).2.2.2.2.2.2.2.2.2.2.2.2.2.2.2.2.2.2.2.2.2.2.2.2.2.2.1,.string (f A3 A2 A6 A5 A4 A9 A8 A7 AB AA B5 B4 B3 B2 AZ AY AX AW AV AU AT AS AR AQ AP AO AN AM AL AK).2.2.2.2.2.2.2.2.2.2.2.2.2.2.2.2.2.2.2.2.2.2.2.2.2.2.2.1,.bool (f A3 A2 A6 A5 A4 A9 A8 A7 AB AA B5 B4 B3 B2 AZ AY AX AW AV AU AT AS AR AQ AP AO AN AM AL AK).2.2.2.2.2.2.2.2.2.2.2.2.2.2.2.2.2.2.2.2.2.2.2.2.2.2.2.2.1,.string (f A3 A2 A6 A5 A4 A9 A8 A7 AB AA B5 B4 B3 B2 AZ AY AX AW AV AU AT AS AR AQ AP AO AN AM AL AK).2.2.2.2.2.2.2.2.2.2.2.2.2.2.2.2.2.2.2.2.2.2.2.2.2.2.2.2.2]⟩,[])
 |_,_=>none
def culetref02_number.sp (f:Int→Int→Int→Int→Int→(TY5)) (p:Int→Int→Int→Int→Int→Bool):HSpec
 |[.agg ⟨[.int .i64 A3,.int .i64 A2,.int .i64 A6,.int .i64 A5,.int .i64 A4]⟩],[]=>some (p A3 A2 A6 A5 A4,.agg ⟨[.bool (f A3 A2 A6 A5 A4).1,.string (f A3 A2 A6 A5 A4).2.1,.bool (f A3 A2 A6 A5 A4).2.2.1,.string (f A3 A2 A6 A5 A4).2.2.2.1,.bool (f A3 A2 A6 A5 A4).2.2.2.2.1,.string (f A3 A2 A6 A5 A4).2.2.2.2.2.1,.bool (f A3 A2 A6 A5 A4).2.2.2.2.2.2.1,.string (f A3 A2 A6 A5 A4).2.2.2.2.2.2.2.1,.bool (f A3 A2 A6 A5 A4).2.2.2.2.2.2.2.2.1,.string (f A3 A2 A6 A5 A4).2.2.2.2.2.2.2.2.2]⟩,[])
 |_,_=>none
def culetref02_Mul.sp (f:TF10 (TY5)) (p:TF10 Bool):HSpec
 |[.agg ⟨[.bool A3,.string A2,.bool A6,.string A5,.bool A4,.string A9,.bool A8,.string A7,.bool AB,.string AA]⟩,.agg ⟨[.bool AD,.string AC,.bool AH,.string AG,.bool AJ,.string AI,.bool B7,.string B6,.bool AF,.string AE]⟩],[]=>some (p A3 A2 A6 A5 A4 A9 A8 A7 AB AA AD AC AH AG AJ AI B7 B6 AF AE,.agg ⟨[.bool (f A3 A2 A6 A5 A4 A9 A8 A7 AB AA AD AC AH AG AJ AI B7 B6 AF AE).1,.string (f A3 A2 A6 A5 A4 A9 A8 A7 AB AA AD AC AH AG AJ AI B7 B6 AF AE).2.1,.bool (f A3 A2 A6 A5 A4 A9 A8 A7 AB AA AD AC AH AG AJ AI B7 B6 AF AE).2.2.1,.string (f A3 A2 A6 A5 A4 A9 A8 A7 AB AA AD AC AH AG AJ AI B7 B6 AF AE).2.2.2.1,.bool (f A3 A2 A6 A5 A4 A9 A8 A7 AB AA AD AC AH AG AJ AI B7 B6 AF AE).2.2.2.2.1,.string (f A3 A2 A6 A5 A4 A9 A8 A7 AB AA AD AC AH AG AJ AI B7 B6 AF AE).2.2.2.2.2.1,.bool (f A3 A2 A6 A5 A4 A9 A8 A7 AB AA AD AC AH AG AJ AI B7 B6 AF AE).2.2.2.2.2.2.1,.string (f A3 A2 A6 A5 A4 A9 A8 A7 AB AA AD AC AH AG AJ AI B7 B6 AF AE).2.2.2.2.2.2.2.1,.bool (f A3 A2 A6 A5 A4 A9 A8 A7 AB AA AD AC AH AG AJ AI B7 B6 AF AE).2.2.2.2.2.2.2.2.1,.string (f A3 A2 A6 A5 A4 A9 A8 A7 AB AA AD AC AH AG AJ AI B7 B6 AF AE).2.2.2.2.2.2.2.2.2]⟩,[])
 |_,_=>none
def culetref04_Scale.sp (f:TF20 (TY15)) (p:TF20 Bool):HSpec
 |[.agg ⟨[.bool A3,.string A2,.bool A6,.string A5,.bool A4,.string A9,.bool A8,.string A7,.bool AB,.string AA,.bool B5,.string B4,.bool B3,.string B2,.bool AZ,.string AY,.bool AX,.string AW,.bool AV,.string AU,.bool AT,.string AS,.bool AR,.string AQ,.bool AP,.string AO,.bool AN,.string AM,.bool AL,.string AK]⟩,.agg ⟨[.bool AD,.string AC,.bool AH,.string AG,.bool AJ,.string AI,.bool B7,.string B6,.bool AF,.string AE]⟩],[]=>some (p A3 A2 A6 A5 A4 A9 A8 A7 AB AA B5 B4 B3 B2 AZ AY AX AW AV AU AT AS AR AQ AP AO AN AM AL AK AD AC AH AG AJ AI B7 B6 AF AE,.agg ⟨[.bool (f A3 A2 A6 A5 A4 A9 A8 A7 AB AA B5 B4 B3 B2 AZ AY AX AW AV AU AT AS AR AQ AP AO AN AM AL AK AD AC AH AG AJ AI B7 B6 AF AE).1,.string (f A3 A2 A6 A5 A4 A9 A8 A7 AB AA B5 B4 B3 B2 AZ AY AX AW AV AU AT AS AR AQ AP AO AN AM AL AK AD AC AH AG AJ AI B7 B6 AF AE).2.1,.bool (f A3 A2 A6 A5 A4 A9 A8 A7 AB AA B5 B4 B3 B2 AZ AY AX AW AV AU AT AS AR AQ AP AO AN AM AL AK AD AC AH AG AJ AI B7 B6 AF AE).2.2.1,.string (f A3 A2 A6 A5 A4 A9 A8 A7 AB AA B5 B4 B3 B2 AZ AY AX AW AV AU AT AS AR AQ AP AO AN AM AL AK AD AC AH AG AJ AI B7 B6 AF AE).2.2.2.1,.bool (f A3 A2 A6 A5 A4 A9 A8 A7 AB AA B5 B4 B3 B2 AZ AY AX AW AV AU AT AS AR AQ AP AO AN AM AL AK AD AC AH AG AJ AI B7 B6 AF AE).2.2.2.2.1,.string (f A3 A2 A6 A5 A4 A9 A8 A7 AB AA B5 B4 B3 B2 AZ AY AX AW AV AU AT AS AR AQ AP AO AN AM AL AK AD AC AH AG AJ AI B7 B6 AF AE).2.2.2.2.2.1,.bool (f A3 A2 A6 A5 A4 A9 A8 A7 AB AA B5 B4 B3 B2 AZ AY AX AW AV AU AT AS AR AQ AP AO AN AM AL AK AD AC AH AG AJ AI B7 B6 AF AE).2.2.2.2.2.2.1,.string (f A3 A2 A6 A5 A4 A9 A8 A7 AB AA B5 B4 B3 B2 AZ AY AX AW AV AU AT AS AR AQ AP AO AN AM AL AK AD AC AH AG AJ AI B7 B6 AF AE).2.2.2.2.2.2.2.1,.bool (f A3 A2 A6 A5 A4 A9 A8 A7 AB AA B5 B4 B3 B2 AZ AY AX AW AV AU AT AS AR AQ AP AO AN AM AL AK AD AC AH AG AJ AI B7 B6 AF AE).2.2.2.2.2.2.2.2.1,.string (f A3 A2 A6 A5 A4 A9 A8 A7 AB AA B5 B4 B3 B2 AZ AY AX AW AV AU AT AS AR AQ AP AO AN AM AL AK AD AC AH AG AJ AI B7 B6 AF AE).2.2.2.2.2.2.2.2.2.1,.bool (f A3 A2 A6 A5 A4 A9 A8 A7 AB AA B5 B4 B3 B2 AZ AY AX AW AV AU AT AS AR AQ AP AO AN AM AL AK AD AC AH AG AJ AI B7 B6 AF AE).2.2.2.2.2.2.2.2.2.2.1,.string (f A3 A2 A6 A5 A4 A9 A8 A7 AB AA B5 B4 B3 B2 AZ AY AX AW AV AU AT AS AR AQ AP AO AN AM AL AK AD AC AH AG AJ AI B7 B6 AF AE).2.2.2.2.2.2.2.2.2.2.2.1,.bool (f A3 A2 A6 A5 A4 A9 A8 A7 AB AA B5 B4 B3 B2 AZ AY AX AW AV AU AT AS AR AQ AP AO AN AM AL AK AD AC AH AG AJ AI B7 B6 AF AE).2.2.2.2.2.2.2.2.2.2.2.2.1,.string (f A3 A2 A6 A5 A4 A9 A8 A7 AB AA B5 B4 B3 B2 AZ AY AX AW AV AU AT AS AR AQ AP AO AN AM AL AK AD AC AH AG AJ AI B7 B6 AF AE).2.2.2.2.2.2.2.2.2.2.2.2.2.1,.bool (f A3 A2 A6 A5 A4 A9 A8 A7 AB AA B5 B4 B3 B2 AZ AY AX AW AV AU AT AS AR AQ AP AO AN AM AL AK AD AC AH AG AJ AI B7 B6 AF AE).2.2.2.2.2.2.2.2.2.2.2.2.2.2.1,.string (f A3 A2 A6 A5 A4 A9 A8 A7 AB AA B5 B4 B3 B2 AZ AY AX AW AV AU AT AS AR AQ AP AO AN AM AL AK AD AC AH AG AJ AI B7 B6 AF AE).2.2.2.2.2.2.2.2.2.2.2.2.2.2.2.1,.bool (f A3 A2 A6 A5 A4 A9 A8 A7 AB AA B5 B4 B3 B2 AZ AY AX AW AV AU AT AS AR AQ AP AO AN AM AL AK AD AC AH AG AJ AI B7 B6 AF AE).2.2.2.2.2.2.2.2.2.2.2.2.2.2.2.2.1,.string (f A3 A2 A6 A5 A4 A9 A8 A7 AB AA B5 B4 B3 B2 AZ AY AX AW AV AU AT AS AR AQ AP AO AN AM AL AK AD AC AH AG AJ AI B7 B6 AF AE).2.2.2.2.2.2.2.2.2.2.2.2.2.2.2.2.2.1,.bool (f A3 A2 A6 A5 A4 A9 A8 A7 AB AA B5 B4 B3 B2 AZ AY AX AW AV AU AT AS AR AQ AP AO AN AM AL AK AD AC AH AG AJ AI B7 B6 AF AE).2.2.2.2.2.2.2.2.2.2.2.2.2.2.2.2.2.2.1,.string (f A3 A2 A6 A5 A4 A9 A8 A7 AB AA B5 B4 B3 B2 AZ AY AX AW AV AU AT AS AR AQ AP AO AN AM AL AK AD AC AH AG AJ AI B7 B6 AF AE).2.2.2.2.2.2.2.2.2.2.2.2.2.2.2.2.2.2.2.1,.bool (f A3 A2 A6 A5 A4 A9 A8 A7 AB AA B5 B4 B3 B2 AZ AY AX AW AV AU AT AS AR AQ AP AO AN AM AL AK AD AC AH AG AJ AI B7 B6 AF AE).2.2.2.2.2.2.2.2.2.2.2.2.2.2.2.2.2.2.2.2.1,.string (f A3 A2 A6 A5 A4 A9 A8 A7 AB AA B5 B4 B3 B2 AZ AY AX AW AV AU AT AS AR AQ AP AO AN AM AL AK AD AC AH AG AJ AI B7 B6 AF AE).2.2.2.2.2.2.2.2.2.2.2.2.2.2.2.2.2.2.2.2.2.1,.bool (f A3 A2 A6 A5 A4 A9 A8 A7 AB AA B5 B4 B3 B2 AZ AY AX AW AV AU AT AS AR AQ AP AO AN AM AL AK AD AC AH AG AJ AI B7 B6 AF AE).2.2.2.2.2.2.2.2.2.2.2.2.2.2.2.2.2.2.2.2.2.2.1,.string (f A3 A2 A6 A5 A4 A9 A8 A7 AB AA B5 B4 B3 B2 AZ AY AX AW AV AU AT AS AR AQ AP AO AN AM AL AK AD AC AH AG AJ AI B7 B6 AF AE).2.2.2.2.2.2.2.2.2.2.2.2.2.2.2.2.2.2.2.2.2.2.2.1,.bool (f A3 A2 A6 A5 A4 A9 A8 A7 AB AA B5 B4 B3 B2 AZ AY AX AW AV AU AT AS AR AQ AP AO AN AM AL AK AD AC AH AG AJ AI B7 B6 AF AE).2.2.2.2.2.2.2.2.2.2.2.2.2.2.2.2.2.2.2.2.2.2.2.2.1,.string (f A3 A2 A6 A5 A4 A9 A8 A7 AB AA B5 B4 B3 B2 AZ AY AX AW AV AU AT AS AR AQ AP AO AN AM AL AK AD AC AH AG AJ AI B7 B6 AF AE).2.2.2.2.2.2.2.2.2.2.2.2.2.2.2.2.2.2.2.2.2.2.2.2.2.1,.bool (f A3 A2 A6 A5 A4 A9 A8 A7 AB AA B5 B4 B3 B2 AZ AY AX AW AV AU AT AS AR AQ AP AO AN AM AL AK AD AC AH AG AJ AI B7 B6 AF AE).2.2.2.2.2.2.2.2.2.2.2.2.2.2.2.2.2.2.2.2.2.2.2.2.2.2.1,.string (f A3 A2 A6 A5 A4 A9 A8 A7 AB AA B5 B4 B3 B2 AZ AY AX AW AV AU AT AS AR AQ AP AO AN AM AL AK AD AC AH AG AJ AI B7 B6 AF AE).2.2.2.2.2.2.2.2.2.2.2.2.2.2.2.2.2.2.2.2.2.2.2.2.2.2.2.1,.bool (f A3 A2 A6 A5 A4 A9 A8 A7 AB AA B5 B4 B3 B2 AZ AY AX AW AV AU AT AS AR AQ AP AO AN AM AL AK AD AC AH AG AJ AI B7 B6 AF AE).2.2.2.2.2.2.2.2.2.2.2.2.2.2.2.2.2.2.2.2.2.2.2.2.2.2.2.2.1,.string (f A3 A2 A6 A5 A4 A9 A8 A7 AB AA B5 B4 B3 B2 AZ AY AX AW AV AU AT AS AR AQ AP AO AN AM AL AK AD AC AH AG AJ AI B7 B6 AF AE).2.2.2.2.2.2.2.2.2.2.2.2.2.2.2.2.2.2.2.2.2.2.2.2.2.2.2.2.2]⟩,[])
 |_,_=>none
end Go.Proofs.YtpejalpgficopaaGreatDoor.G
end
section
namespace Go.Proofs.YtpejalpgficopaaGreatDoor.G
open Go Go.Proofs Go.RowKit RX
def direction_Distance.sp (f:TF20 (Int×Int×Int)) (p:TF20 Bool):HSpec
 |[.agg ⟨.bool A3:: .string A2:: .bool A6:: .string A5:: .bool A4:: .string A9:: .bool A8:: .string A7:: .bool AB:: .string AA:: .bool B5:: .string B4:: .bool B3:: .string B2:: .bool AZ:: .string AY:: .bool AX:: .string AW:: .bool AV:: .string AU:: .bool AT:: .string AS:: .bool AR:: .string AQ:: .bool AP:: .string AO:: .bool AN:: .string AM:: .bool AL:: .string AK:: .bool BJ:: .string BI:: .bool BH:: .string BG:: .bool BF:: .string BE:: .bool BD:: .string BC:: .bool BB:: .string BA::[]⟩],[]=>some (p A3 A2 A6 A5 A4 A9 A8 A7 AB AA B5 B4 B3 B2 AZ AY AX AW AV AU AT AS AR AQ AP AO AN AM AL AK BJ BI BH BG BF BE BD BC BB BA,.tuple ⟨[.agg ⟨[.int .i64 (f A3 A2 A6 A5 A4 A9 A8 A7 AB AA B5 B4 B3 B2 AZ AY AX AW AV AU AT AS AR AQ AP AO AN AM AL AK BJ BI BH BG BF BE BD BC BB BA).1,.int .i64 (f A3 A2 A6 A5 A4 A9 A8 A7 AB AA B5 B4 B3 B2 AZ AY AX AW AV AU AT AS AR AQ AP AO AN AM AL AK BJ BI BH BG BF BE BD BC BB BA).2.1]⟩,.int .i64 (f A3 A2 A6 A5 A4 A9 A8 A7 AB AA B5 B4 B3 B2 AZ AY AX AW AV AU AT AS AR AQ AP AO AN AM AL AK BJ BI BH BG BF BE BD BC BB BA).2.2]⟩,[])
 |_,_=>none
end Go.Proofs.YtpejalpgficopaaGreatDoor.G
end
section
namespace Go.Proofs.YtpejalpgficopaaGreatDoor.G
open Go
theorem w64 {n:Int} (h: -9223372036854775808≤n) (h':n≤9223372036854775807):IntKind.i64.wrap n=n:=by
 simp only [IntKind.wrap,IntKind.signed,IntKind.bits]
 simp only [Bool.true_and]
 split
 ·rename_i hc
  have:=of_decide_eq_true hc
  omega
 ·rename_i hc
  have:¬(n%2^64≥2^(64-1)):=fun h=>hc (decide_eq_true h)
  omega
theorem bne_of {a b:Int} (h:a≠b):(a !=b)=true:=by simp [h]
theorem beq_of {a b:Int} (h:a≠b):(a==b)=false:=by simp [h]
end Go.Proofs.YtpejalpgficopaaGreatDoor.G
end
section
namespace Go.Proofs.YtpejalpgficopaaGreatDoor.G
open Go
def V (a b:Int):Bool:=decide (-1073741824≤a∧a≤b∧b≤1073741824)
def chk (lo hi:Int):Int×Int×Int:=bif V lo hi then (lo,hi,0) else (0,0,3)
def cl (x y:Int):Int:= -((-x)/y)
def mn4 (x y z w:Int):Int:=min (min x y) (min z w)
def mx4 (x y z w:Int):Int:=max (max x y) (max z w)
def iadd (a b c d:Int):Int×Int×Int:=bif V a b&&V c d then chk (a+c) (b+d) else (0,0,1)
def isub (a b c d:Int):Int×Int×Int:=bif V a b&&V c d then chk (a-d) (b-c) else (0,0,1)
def imul (a b c d:Int):Int×Int×Int:=bif V a b&&V c d then chk (mn4 (a*c) (a*d) (b*c) (b*d)/16777216) (cl (mx4 (a*c) (a*d) (b*c) (b*d)) 16777216) else (0,0,1)
def pdiv (a b c d:Int):Int×Int×Int:=chk (min (a*16777216/c) (a*16777216/d)) (max (cl (b*16777216) c) (cl (b*16777216) d))
def idiv (a b c d:Int):Int×Int×Int:=bif V a b&&V c d then (if c≤0∧0≤d then (0,0,10) else if d<0 then pdiv (-b) (-a) (-d) (-c) else pdiv a b c d) else (0,0,1)
def isq (a b:Int):Int×Int×Int:=bif V a b then chk ((if a≤0∧0≤b then 0 else min (a*a) (b*b))/16777216) (cl (max (a*a) (b*b)) 16777216) else (0,0,1)
def cut (x:Int):Int:=max 0 (min 16777216 x)
def kp (s:Int) (e:Int):Int:=bif s==0 then e else s
theorem kp0 (e:Int):kp 0 e=e:=rfl
end Go.Proofs.YtpejalpgficopaaGreatDoor.G
end
section
namespace Go.Proofs.YtpejalpgficopaaGreatDoor.G
open Go
def bnd (r:Int×Int×Int) (k:Int→Int→Int×Int×Int):Int×Int×Int:=bif r.2.2 !=0 then (0,0,r.2.2) else k r.1 r.2.1
def fin (r:Int×Int×Int):Int×Int×Int:=bnd r fun x y=>(cut x,cut y,0)
def wn (a b k l:Int):Bool:=V a b&&(decide (k*16777216≤a)&&decide (b≤l*16777216))
def shr (p0 p1 q0 q1:Int):Int×Int×Int:=bnd (isub p0 p1 q0 q1) fun d0 d1=>bnd (iadd p0 p1 q0 q1) fun s0 s1=>bnd (idiv d0 d1 s0 s1) fun x0 x1=>fin (isq x0 x1)
def srf (a0 a1 a2 a3 a4 a5 a6 a7:Int):Bool:=wn a0 a1 0 1&&(wn a2 a3 0 1&&(wn a4 a5 1 4&&wn a6 a7 1 4))
def pol (a0 a1 a2 a3 a4 a5 a6 a7 x0 x1 y0 y1:Int):Int×Int×Int:=bif srf a0 a1 a2 a3 a4 a5 a6 a7 then bnd (imul a4 a5 x0 x1) (fun p0 p1=>bnd (imul a6 a7 y0 y1) fun q0 q1=>shr p0 p1 q0 q1) else (0,0,1)
def mean (r s:Int×Int×Int):Int×Int×Int:=bnd r fun p0 p1=>bnd s fun q0 q1=>bnd (iadd p0 p1 q0 q1) fun s0 s1=>fin (imul s0 s1 8388608 8388608)
def refl (a0 a1 a2 a3 a4 a5 a6 a7:Int):Int×Int×Int:=mean (pol a0 a1 a2 a3 a4 a5 a6 a7 a0 a1 a2 a3) (pol a0 a1 a2 a3 a4 a5 a6 a7 a2 a3 a0 a1)
def In (a b c d:Int):Prop:=c≤a∧a≤b∧b≤d
end Go.Proofs.YtpejalpgficopaaGreatDoor.G
end
section
namespace Go.Proofs.YtpejalpgficopaaGreatDoor.G
open Go
inductive Re (α:Type) where
 |er (e:Int):Re α
 |ok (a:α):Re α
abbrev I2:=Int×Int
abbrev Bx:=I2×I2×I2
def t3 (r:Int×Int×Int):Re I2:=bif r.2.2 !=0 then .er r.2.2 else .ok (r.1,r.2.1)
def o3:Re I2→Int×Int×Int
 | .er e=>(0,0,e)
 | .ok x=>(x.1,x.2,0)
def V2 (x:I2):Bool:=V x.1 x.2
def S2 (x X:I2):Prop:=In x.1 x.2 X.1 X.2∧V X.1 X.2=true
def o2:Re Int→Int×Int
 | .er e=>(0,e)
 | .ok x=>(x,0)
def st (s a b:Int) (r:Int×Int×Int):Int×Int×Int:=bif s !=0 then (a,b,s) else r
end Go.Proofs.YtpejalpgficopaaGreatDoor.G
end
section
namespace Go.Proofs.YtpejalpgficopaaGreatDoor.G
open Go
structure Pt (p q:Int) (X:I2):Prop where
 lo:X.1*q≤p
 hi:p≤X.2*q
end Go.Proofs.YtpejalpgficopaaGreatDoor.G
end
section
namespace RX
open Go Go.RowKit
theorem ct {α:Type} {b:Bool} {x y:α} (h:b=true):(bif b then x else y)=x:=by rw [h]; rfl
theorem cf {α:Type} {b:Bool} {x y:α} (h:b=false):(bif b then x else y)=y:=by rw [h]; rfl
theorem bint {n:Nat} {k:IntKind} {i:Int} :Bnd n (.int k i):=fun g g' _=>by simp
theorem bslice {n b o l c:Nat} (h:b<n):Bnd n (.slice (some ⟨b,o,none⟩) l c):=fun g g' e=>by simp [e b h]
theorem bptr {n b o:Nat} (h:b<n):Bnd n (.pointer (some ⟨b,o,none⟩)):=fun g g' e=>by simp [e b h]
theorem bclo {n:Nat} {v:Value} (h:clo 8 v=true):Bnd n v:=(clo_spec 8 v h).bnd n
theorem bnth {n i:Nat} {S:St} {v:Value} (h:Small n S) (hv:nth S.tmps i=v):Bnd n v:=by
 subst hv
 exact nth_all h.1 (Clo.undef.bnd n) i
def ieq (x y:Int):Bool:=decide (x=y)
theorem ieq_eq {x y:Int} :ieq x y=true↔x=y:=by simp [ieq]
theorem bname {n m:Nat} {S:St} {b:Blk} (h:Small n S) (hb:look S.heap m=some b):m<n:=(h.2 m b hb).1
def gbuild (tm:List (Nat×Value)):Nat→Nat→List Value
 |_,0=>[]
 |i,k+1=>(match look tm i with|some v=>v|none=>GONE)::gbuild tm (i+1) k
theorem nth_gbuild (tm:List (Nat×Value)):∀(k i j:Nat),nth (gbuild tm i k) j=if j<k then (match look tm (i+j) with|some v=>v|none=>GONE) else undef
 |0,i,j=>by simp [gbuild,nth]
 |k+1,i,0=>by simp [gbuild,nth]
 | k+1,i,j+1=>by
  simp only [gbuild,nth]
  rw [nth_gbuild tm k (i+1) j,show i+1+j=i+(j+1) from by omega]
  by_cases h:j<k
  ·rw [if_pos h,if_pos (by omega)]
  ·rw [if_neg h,if_neg (by omega)]
theorem length_gbuild (tm:List (Nat×Value)):∀(k i:Nat),(gbuild tm i k).length=k
 |0,i=>rfl
 |k+1,i=>by simp [gbuild,length_gbuild tm k (i+1)]
theorem mem_gbuild {tm:List (Nat×Value)} {v:Value} :∀ {k i:Nat},v∈gbuild tm i k→v=GONE∨∃j,look tm j=some v
 |0,i,h=>by simp [gbuild] at h
 | k +1,i,h=>by
  simp only [gbuild,List.mem_cons] at h
  rcases h with h|h
  ·subst h
   cases hl:look tm i with
   |none=>exact .inl rfl
   |some v=>exact .inr ⟨i,hl⟩
  ·exact mem_gbuild h
inductive Each {α:Type} (p:α→Prop):List α→Prop
 |nil:Each p []
 |cons {x:α} {l:List α} :p x→Each p l→Each p (x::l)
theorem Each.mem {α:Type} {p:α→Prop} {l:List α} (h:Each p l):∀x∈l,p x:=by
 induction h with
 |nil=>intro x hx; cases hx
 | cons h _ ih=>
  intro x hx
  cases hx with
  |head=>exact h
  |tail _ hx=>exact ih x hx
theorem wk_of {T:List Value} {H:Heap} {n k:Nat} {tm:List (Nat×Value)} {H':Heap} (hl:T.length=k) (ht:Each (fun p:Nat×Value=>nth T p.1=p.2∧Bnd n p.2) tm) (hh:Each (fun q:Nat×Blk=>look H q.1=some q.2∧q.1<n∧q.2.clo=true) H'):Wk T H n ⟨gbuild tm 0 k,H',n⟩:=by
 refine ⟨rfl,by rw [length_gbuild,hl],fun i hi=> ?_,fun m b hm=>(hh.mem _ (look_mem hm)).1,⟨fun v hv=> ?_,fun m b hm=>⟨(hh.mem _ (look_mem hm)).2.1,fun c hc=>(Blk.clo_spec (hh.mem _ (look_mem hm)).2.2 c hc).bnd n⟩⟩⟩
 ·show nth (gbuild tm 0 k) i=nth T i
  have hi':isGone (nth (gbuild tm 0 k) i)=false:=hi
  rw [nth_gbuild,Nat.zero_add] at hi' ⊢
  by_cases hk:i<k
  ·rw [if_pos hk] at hi' ⊢
   cases hlk:look tm i with
   |none=>rw [hlk] at hi'; simp [GONE,isGone] at hi'
   |some v=>exact (ht.mem _ (look_mem hlk)).1.symm
  ·rw [if_neg hk,nth_ge (by omega)]
 ·rcases mem_gbuild hv with rfl|⟨j,hj⟩
  ·exact bclo rfl
  ·exact (ht.mem _ (look_mem hj)).2
section
variable {P:Program} {N:Nat→Prop} {E:Env} {L:List (Nat×LSpec)} {f:Nat} {c:Code}
theorem lok_or {t u:LSpec} (h1:LOKn P N c t) (h2:LOKn P N c u):LOKn P N c (fun S=>match t S with|some lt=>some lt|none=>u S):=fun S lt x S' ht hat=>by
 simp only at ht
 split at ht
 ·rename_i lt' h
  injection ht with ht
  subst ht
  exact h1 S _ x S' h hat
 ·exact h2 S lt x S' ht hat
end
theorem loops_cons {P:Program} {N:Nat→Prop} {b c:Code} {i:Nat} {t:LSpec} {L:List (Nat×LSpec)} (hl:(loopsIn b).filter (fun p=>Nat.beq i p.1)=[(i,c)]) (h:LOKn P N c t) (r:LsOkn P N L b):LsOkn P N ((i,t)::L) b:=fun p hp t' ht=>by
 simp only [look] at ht
 cases he:Nat.beq i p.1 with
 |false=>rw [he] at ht; exact r p hp t' ht
 | true=>
  rw [he] at ht
  simp only [cond_true,Option.some.injEq] at ht
  subst ht
  have hm:p∈(loopsIn b).filter (fun p=>Nat.beq i p.1):=List.mem_filter.2 ⟨hp,he⟩
  rw [hl,List.mem_singleton] at hm
  subst hm
  exact h
def loopIn (c:Code) (i:Nat):Code:=match look (loopsIn c) i with|some c=>c|none=> .skip
end RX
end
section
namespace RX
open Go Go.RowKit
structure WkR (ρ:Nat→Nat) (T:List Value) (H:Heap) (n:Nat) (S:St):Prop where
 nx:S.nxt=n
 len:S.tmps.length=T.length
 tms:∀i,isGone (nth S.tmps i)=false→isGone (nth T i)=false∧∀g:Nat→Nat,ren g (nth T i)=ren (fun m=>g (ρ m)) (nth S.tmps i)
 hp:∀m b,look S.heap m=some b→look H (ρ m)=some b∧∀c∈b.cells,Clo c
 inj:∀m k b c,look S.heap m=some b→look S.heap k=some c→ρ m=ρ k→m=k
 sm:Small n S
theorem SRel.wkR {W0:World} {out:Nat→Prop} {g0:Nat→Nat} {n:Nat} {S S':St} {ρ:Nat→Nat} {a:Act} {w:World} (h:SRel W0 out g0 0 S a w) (hw:WkR ρ S.tmps S.heap n S'):SRel W0 out g0 0 S' a w:=by
 obtain ⟨g,_,_,tr,hr⟩:=h
 refine ⟨fun m=>g (ρ m),fun n hn=>absurd hn (Nat.not_lt_zero _),Nat.zero_le _,⟨by rw [tr.sz,hw.len],fun i hi=> ?_,tr.df,by rw [hw.nx]; exact hw.sm.1⟩,?_⟩
 ·obtain ⟨h1,h2⟩:=hw.tms i hi
  rw [tr.tm i h1,h2 g]
 ·rw [hw.nx]
  refine ⟨fun m b hm=>(hw.sm.2 m b hm).1,fun m b hm=>(hw.sm.2 m b hm).2,fun m b hm=> ?_,fun m k b c hm hk e=> ?_,fun m b hm=>hr.own _ b (hw.hp m b hm).1,hr.keep,hr.tabs,fun m b hm=>hr.ntab _ b (hw.hp m b hm).1⟩
  ·obtain ⟨h1,h2⟩:=hw.hp m b hm
   have:=hr.mem _ b h1
   rw [map_clo h2] at this
   rw [map_clo h2]
   exact this
  ·exact hw.inj m k b c hm hk (hr.inj _ _ b c (hw.hp m b hm).1 (hw.hp k c hk).1 e)
def mp (l:List (Nat×Nat)) (n:Nat):Nat:=match look l n with|some m=>m|none=>n
def nodB:List Nat→Bool
 |[]=>true
 |a::r=> !(memN a r)&&nodB r
theorem nodB_of:∀ {l:List Nat},nodB l=true→l.Nodup
 |[],_=>List.nodup_nil
 | a::r,h=>by
  simp only [nodB,Bool.and_eq_true,Bool.not_eq_true'] at h
  refine List.nodup_cons.2 ⟨fun hm=> ?_,nodB_of h.2⟩
  rw [memN_spec.2 hm] at h
  cases h.1
theorem wkR_of {ρ:Nat→Nat} {T:List Value} {H:Heap} {n k:Nat} {tm:List (Nat×Value)} {H':Heap} (hl:T.length=k) (ht:Each (fun p:Nat×Value=>(isGone (nth T p.1)=false∧∀g:Nat→Nat,ren g (nth T p.1)=ren (fun m=>g (ρ m)) p.2)∧Bnd n p.2) tm) (hh:Each (fun q:Nat×Blk=>look H (ρ q.1)=some q.2∧q.1<n∧q.2.clo=true) H') (hi0:nodB (H'.map fun q=>ρ q.1)=true):WkR ρ T H n ⟨gbuild tm 0 k,H',n⟩:=by
 have hi:=nodB_of hi0
 refine ⟨rfl,by rw [length_gbuild,hl],fun i hi=> ?_,fun m b hm=>⟨(hh.mem _ (look_mem hm)).1,Blk.clo_spec (hh.mem _ (look_mem hm)).2.2⟩,fun m k' b c hm hk e=> ?_,⟨fun v hv=> ?_,fun m b hm=>⟨(hh.mem _ (look_mem hm)).2.1,fun c hc=>(Blk.clo_spec (hh.mem _ (look_mem hm)).2.2 c hc).bnd n⟩⟩⟩
 ·show isGone (nth T i)=false∧∀g:Nat→Nat,ren g (nth T i)=ren (fun m=>g (ρ m)) (nth (gbuild tm 0 k) i)
  have hi':isGone (nth (gbuild tm 0 k) i)=false:=hi
  rw [nth_gbuild,Nat.zero_add] at hi' ⊢
  by_cases hk:i<k
  ·rw [if_pos hk] at hi' ⊢
   cases hlk:look tm i with
   |none=>rw [hlk] at hi'; simp [GONE,isGone] at hi'
   |some v=>exact (ht.mem _ (look_mem hlk)).1
  ·rw [if_neg hk] at hi' ⊢
   have hT:nth T i=undef:=nth_ge (by omega)
   rw [hT]
   exact ⟨hi',fun g=>rfl⟩
 ·have h1:=look_mem hm
  have h2:=look_mem hk
  obtain ⟨i,hi1,hi2⟩:=List.getElem_of_mem h1
  obtain ⟨j,hj1,hj2⟩:=List.getElem_of_mem h2
  have hij:i=j:=nodup_inj hi (by simpa using hi1) (by simpa using hj1) (by simp only [List.getElem_map,hi2,hj2]; exact e)
  subst hij
  rw [hi2] at hj2
  injection hj2
 ·rcases mem_gbuild hv with rfl|⟨j,hj⟩
  ·exact bclo rfl
  ·exact (ht.mem _ (look_mem hj)).2
inductive Lpe (P:Program) (c:Code):St→X→St→Prop
 |step {E:Env} {f:Nat} {S:St} {T:List Value} {H:Heap} {x:X} {S2 S':St} {ρ:Nat→Nat} :EnvOk P E→exec P E [] (hs P E f).lf (hs P E f).cf c S (fun x S=>some (x,S.tmps,S.heap))=some (.normal,T,H)→(Small S.nxt S→WkR ρ T H S.nxt S2)→Lpe P c S2 x S'→Lpe P c S x S'
 |stop {E:Env} {f:Nat} {S:St} {T:List Value} {H:Heap} {x:X} {S2:St} {ρ:Nat→Nat} :EnvOk P E→exec P E [] (hs P E f).lf (hs P E f).cf c S (fun x S=>some (x,S.tmps,S.heap))=some (x,T,H)→x≠ .normal→(Small S.nxt S→WkR ρ T H S.nxt S2)→Lpe P c S x S2
 |enter {S S2:St} {x:X} {S':St} :(Small S.nxt S→Wk S.tmps S.heap S.nxt S2)→Lpe P c S2 x S'→Lpe P c S x S'
end RX
end
