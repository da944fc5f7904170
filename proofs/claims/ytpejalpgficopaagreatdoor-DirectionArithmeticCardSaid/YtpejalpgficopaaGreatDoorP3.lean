/- A part of what the law's proof leans on. PACKED BY pack.py of this repo. -/
import Derived.Test.YtpejalpgficopaaGreatDoorP2
section
namespace RX
open Go Go.RowKit
set_option linter.unusedVariables false
def enum:List Blk→Nat→Heap
  |[],_=>[]
  |b::r,n=>(n,b)::enum r (n+1)
theorem look_enum:∀(l:List Blk) (n m:Nat),look (enum l n) m=if m<n then none else l[m-n]?
  |[],n,m=>by simp [enum,look]
  | b ::r,n,m=>by
    simp only [enum,look]
    cases h:Nat.beq n m with
    | true=>
      have:=Nat.eq_of_beq_eq_true h
      subst this
      simp
    | false=>
      have hne:n≠m:=fun e=>by subst e; simp at h
      simp only [cond_false,look_enum r (n+1) m]
      by_cases hlt:m<n
      · simp [hlt,show m<n+1 from by omega]
      · have:¬m<n+1:=by omega
        simp only [hlt,this,if_false]
        rw [show m-n=(m-(n+1))+1 from by omega,List.getElem?_cons_succ]
def firstB (H:Heap):Nat→Nat→Option (List Blk)
  |_,0=>some []
  | i,n+1=>match look H i,firstB H (i+1) n with
    |some b,some l=>some (b::l)
    |_,_=>none
theorem firstB_get {H:Heap} :∀ {n i:Nat} {l:List Blk},firstB H i n=some l→l.length=n∧∀(j:Nat) (b:Blk),l[j]? =some b→look H (i+j)=some b
  |0,i,l,h=>by simp [firstB] at h; subst h; simp
  | n + 1,i,l,h=>by
    simp only [firstB] at h
    split at h
    · rename_i b r hb hr
      injection h with h; subst h
      obtain ⟨h1,h2⟩:=firstB_get hr
      refine ⟨by simp [h1],fun j c hj=> ?_⟩
      cases j with
      |zero=>simp at hj; subst hj; exact hb
      | succ j=>
        have:=h2 j c (by simpa using hj)
        rwa [show i+1+j=i+(j+1) from by omega] at this
    · simp at h
def xfn (P:Program) (E:Env) (L:List (Nat×LSpec)) (n:Nat) (fn:Func) (vs:List Value) (bl:List Blk):Option (Value×List Blk):=
  execFn P E L (hs P E n).lf (hs P E n).cf fn vs (enum bl 0) bl.length fun v H _=>match firstB H 0 bl.length with|some l=>some (v,l)|none=>none
structure Told (P:Program) (E:Env) (L:List (Nat×LSpec)) (n:Nat) (fn:Func) (vs:List Value) (bl:List Blk) (v:Value) (bl':List Blk):Prop where
  run:xfn P E L n fn vs bl=some (v,bl')
  args:∀u∈vs,okV (fun m=>Nat.blt m bl.length) 8 u=true
  clo:Clo v
  blk:∀b∈bl',∀c∈b.cells,Clo c
theorem sok_of' {P:Program} {E:Env} {L:List (Nat×LSpec)} {N:Nat→Prop} (hE:EnvOk P E) (n:Nat) {f:FuncId} {fn:Func} (hf:P.funcs[f]? =some fn) (hn:fn.name≠ "runtime.NumGoroutine") (hb:fn.body.isSome=true) (hL:∀c,fn.body=some c→LsOkn P N L c) {s:HSpec}
    (h:∀vs bl v bl',s vs bl=some (true,v,bl')→Told P E L n fn vs bl v bl'∧N bl.length):SOK P f s:=by
  refine ⟨⟨fn,hf,hn,hb⟩,fun vs bl v bl' hs hcl g w hmem hinj htab hnt=> ?_⟩
  obtain ⟨⟨hrun,hargs,hcv,hcb⟩,hN⟩:=h vs bl v bl' hs
  have bnd:∀u∈vs,Bnd bl.length u:=fun u hu g g' e=>okV_spec (fun m hm=>e m (by simpa [Nat.blt_eq] using hm)) 8 u (hargs u hu)
  have lk:∀m b,look (enum bl 0) m=some b→bl[m]? =some b:=fun m b h=>by
    rw [look_enum] at h
    simpa using h
  have hr:HRel w (fun k=>∃i,i<bl.length∧k=g i) g (enum bl 0) bl.length w:=by
    refine ⟨fun m b hm=> ?_,fun m b hm=> ?_,fun m b hm=> ?_,fun m k b c hm hk e=> ?_,fun m b hm=> ?_,Keep.refl w _,htab,fun m b hm=>hnt m (List.getElem?_eq_some_iff.1 (lk m b hm)).1⟩
    · exact (List.getElem?_eq_some_iff.1 (lk m b hm)).1
    · exact fun c hc=>(hcl b (List.mem_of_getElem? (lk m b hm)) c hc).bnd _
    · rw [hmem m b (lk m b hm),map_clo (hcl b (List.mem_of_getElem? (lk m b hm)))]
    · exact hinj m k (List.getElem?_eq_some_iff.1 (lk m b hm)).1 (List.getElem?_eq_some_iff.1 (lk k c hk)).1 e
    · exact .inr ⟨m,(List.getElem?_eq_some_iff.1 (lk m b hm)).1,rfl⟩
  refine (execFn_sound hE (hs_lf hE n) (hs_cf hE n) hf hL hN hrun hr bnd).mono fun e w' ⟨v',g',H',nx',he,hk,hag,hle,hr',hbv⟩=> ?_
  split at hk
  · rename_i l hl
    simp only [Option.some.injEq,Prod.mk.injEq] at hk
    obtain ⟨rfl,rfl⟩:=hk
    obtain ⟨h1,h2⟩:=firstB_get hl
    have hlen:l.length=bl.length:=h1
    refine ⟨g,fun _ _=>rfl,by rw [he,hcv g',hcv g],fun i b hi=> ?_,fun i h3 h4=>by omega,fun i j h3 h4=>by omega,hr'.keep⟩
    have:=hr'.mem i b (by have:=h2 i b hi; rwa [Nat.zero_add] at this)
    have hlt:i<bl.length:=by rw [←h1]; exact (List.getElem?_eq_some_iff.1 hi).1
    rw [hag i hlt,map_clo (hcb b (List.mem_of_getElem? hi))] at this
    exact this
  · simp at hk
theorem sok_of {P:Program} {E:Env} {L:List (Nat×LSpec)} (hE:EnvOk P E) (n:Nat) {f:FuncId} {fn:Func} (hf:P.funcs[f]? =some fn) (hn:fn.name≠ "runtime.NumGoroutine") (hb:fn.body.isSome=true) (hL:∀c,fn.body=some c→LsOk P L c) {s:HSpec}
    (h:∀vs bl v bl',s vs bl=some (true,v,bl')→Told P E L n fn vs bl v bl'):SOK P f s:=
  sok_of' hE n hf hn hb hL fun vs bl v bl' hs=>⟨h vs bl v bl' hs,trivial⟩
def xfnN (P:Program) (E:Env) (L:List (Nat×LSpec)) (n:Nat) (fn:Func) (vs:List Value) (bl:List Blk) (rn:List Nat):Option (Value×List Blk):=
  execFn P E L (hs P E n).lf (hs P E n).cf fn vs (enum bl 0) bl.length fun v H _=>match firstB H 0 bl.length,getB H rn with|some l,some l2=>some (v,l++l2)|_,_=>none
def rho (m:Nat) (rn:List Nat) (i:Nat):Nat:=if i<m then i else rn.getD (i-m) 0
structure ToldN (P:Program) (E:Env) (L:List (Nat×LSpec)) (n:Nat) (fn:Func) (vs:List Value) (bl:List Blk) (v:Value) (bl':List Blk) (rn:List Nat):Prop where
  run:xfnN P E L n fn vs bl rn=some (ren (rho bl.length rn) v,bl')
  args:∀u∈vs,okV (fun m=>Nat.blt m bl.length) 8 u=true
  ok:okN bl'.length 8 v=true
  blk:∀b∈bl',∀c∈b.cells,Clo c
  nod:rn.Nodup
  big:∀x∈rn,bl.length≤x
theorem sok_ofN' {P:Program} {E:Env} {L:List (Nat×LSpec)} {N:Nat→Prop} (hE:EnvOk P E) (n:Nat) {f:FuncId} {fn:Func} (hf:P.funcs[f]? =some fn) (hn:fn.name≠ "runtime.NumGoroutine") (hb:fn.body.isSome=true) (hL:∀c,fn.body=some c→LsOkn P N L c) {s:HSpec}
    (h:∀vs bl v bl',s vs bl=some (true,v,bl')→(∃rn,ToldN P E L n fn vs bl v bl' rn)∧N bl.length):SOK P f s:=by
  refine ⟨⟨fn,hf,hn,hb⟩,fun vs bl v bl' hs hcl g w hmem hinj htab hnt=> ?_⟩
  obtain ⟨⟨rn,hrun,hargs,hok,hcb,hnod,hbig⟩,hN⟩:=h vs bl v bl' hs
  have bnd:∀u∈vs,Bnd bl.length u:=fun u hu g g' e=>okV_spec (fun m hm=>e m (by simpa [Nat.blt_eq] using hm)) 8 u (hargs u hu)
  have lk:∀m b,look (enum bl 0) m=some b→bl[m]? =some b:=fun m b h=>by
    rw [look_enum] at h
    simpa using h
  have hr:HRel w (fun k=>∃i,i<bl.length∧k=g i) g (enum bl 0) bl.length w:=by
    refine ⟨fun m b hm=> ?_,fun m b hm=> ?_,fun m b hm=> ?_,fun m k b c hm hk e=> ?_,fun m b hm=> ?_,Keep.refl w _,htab,fun m b hm=>hnt m (List.getElem?_eq_some_iff.1 (lk m b hm)).1⟩
    · exact (List.getElem?_eq_some_iff.1 (lk m b hm)).1
    · exact fun c hc=>(hcl b (List.mem_of_getElem? (lk m b hm)) c hc).bnd _
    · rw [hmem m b (lk m b hm),map_clo (hcl b (List.mem_of_getElem? (lk m b hm)))]
    · exact hinj m k (List.getElem?_eq_some_iff.1 (lk m b hm)).1 (List.getElem?_eq_some_iff.1 (lk k c hk)).1 e
    · exact .inr ⟨m,(List.getElem?_eq_some_iff.1 (lk m b hm)).1,rfl⟩
  refine (execFn_sound hE (hs_lf hE n) (hs_cf hE n) hf hL hN hrun hr bnd).mono fun e w' ⟨v',g',H',nx',he,hk,hag,hle,hr',hbv⟩=> ?_
  split at hk
  · rename_i l l2 hl hl2
    simp only [Option.some.injEq,Prod.mk.injEq] at hk
    obtain ⟨rfl,rfl⟩:=hk
    obtain ⟨h1,h2⟩:=firstB_get hl
    obtain ⟨h3,h4⟩:=getB_get hl2
    have hlook:∀i,bl.length≤i→i<(l++l2).length→∃x b,rn[i-bl.length]? =some x∧l2[i-bl.length]? =some b∧look H' x=some b∧rho bl.length rn i=x:=fun i hi hi2=>by
      have hi3:i-bl.length<l2.length:=by simp only [List.length_append] at hi2; omega
      obtain ⟨x,hx1,hx2⟩:=h4 _ _ (List.getElem?_eq_getElem hi3)
      refine ⟨x,_,hx1,List.getElem?_eq_getElem hi3,hx2,?_⟩
      unfold rho
      rw [if_neg (by omega),List.getD_eq_getElem?_getD,hx1]
      rfl
    refine ⟨fun i=>g' (rho bl.length rn i),fun i hi=> ?_,?_,fun i b hi=> ?_,fun i hi hi2=> ?_,fun i j hi hi2 hj hj2 e=> ?_,hr'.keep⟩
    · show g' (rho bl.length rn i)=g i
      unfold rho
      rw [if_pos hi,hag i hi]
    · rw [he,okN_comp (g:=g') (h:=rho bl.length rn) (k:=fun i=>g' (rho bl.length rn i)) (fun i _=>rfl) 8 v hok]
    · have hb0:=hcb b (List.mem_of_getElem? hi)
      show w'.heap[g' (rho bl.length rn i)]? =_
      by_cases hlt:i<bl.length
      · rw [List.getElem?_append_left (by omega)] at hi
        have:=hr'.mem i b (by have:=h2 i b hi; rwa [Nat.zero_add] at this)
        unfold rho
        rw [if_pos hlt,this,map_clo hb0]
      · obtain ⟨x,b',hx1,hx2,hx3,hx4⟩:=hlook i (by omega) (List.getElem?_eq_some_iff.1 hi).1
        rw [List.getElem?_append_right (by omega),h1,hx2] at hi
        injection hi with hi
        subst hi
        rw [hx4,hr'.mem x _ hx3,map_clo hb0]
    · obtain ⟨x,b',hx1,hx2,hx3,hx4⟩:=hlook i hi hi2
      show w.heap.size≤g' (rho bl.length rn i)
      rw [hx4]
      rcases hr'.own x b' hx3 with ho|⟨j,hj,ho⟩
      · exact ho
      · exfalso
        have hlj:∃b,look H' j=some b:=⟨l[j]'(by omega),by have:=h2 j _ (List.getElem?_eq_getElem (by omega)); rwa [Nat.zero_add] at this⟩
        obtain ⟨b2,hb2⟩:=hlj
        have:=hr'.inj x j b' b2 hx3 hb2 (by rw [ho,hag j hj])
        have:=hbig x (List.mem_of_getElem? hx1)
        omega
    · obtain ⟨x,b1,hx1,hx2,hx3,hx4⟩:=hlook i hi hi2
      obtain ⟨y,b2,hy1,hy2,hy3,hy4⟩:=hlook j hj hj2
      simp only [hx4,hy4] at e
      have:=hr'.inj x y b1 b2 hx3 hy3 e
      subst this
      obtain ⟨p1,q1⟩:=List.getElem?_eq_some_iff.1 hx1
      obtain ⟨p2,q2⟩:=List.getElem?_eq_some_iff.1 hy1
      have:=nodup_inj hnod p1 p2 (q1.trans q2.symm)
      omega
  · simp at hk
theorem sok_ofN {P:Program} {E:Env} {L:List (Nat×LSpec)} (hE:EnvOk P E) (n:Nat) {f:FuncId} {fn:Func} (hf:P.funcs[f]? =some fn) (hn:fn.name≠ "runtime.NumGoroutine") (hb:fn.body.isSome=true) (hL:∀c,fn.body=some c→LsOk P L c) {s:HSpec}
    (h:∀vs bl v bl',s vs bl=some (true,v,bl')→∃rn,ToldN P E L n fn vs bl v bl' rn):SOK P f s:=
  sok_ofN' hE n hf hn hb hL fun vs bl v bl' hs=>⟨h vs bl v bl' hs,trivial⟩
theorem calls_of {P:Program} {f:FuncId} {s:HSpec} (h:SOK P f s) {vs:List Value} {v:Value} (hs:s vs []=some (true,v,[])) (hv:∀u∈vs,Clo u) (hcv:Clo v) (w:World) (ht:TabOk w):
    Calls P f ⟨vs⟩ w fun e w'=>e= .returned v∧Below w.heap.size w w':=by
  have:=h.run vs [] v [] hs (by simp) (fun n=>n) w (by simp) (by simp) ht (fun i hi=>absurd hi (by simp))
  rw [map_clo hv] at this
  refine this.mono fun e w' ⟨g2,_,he,_,_,_,hk⟩=>⟨by rw [he,hcv g2],⟨hk.os,hk.tape,hk.output,hk.size,fun k hk'=>hk.block k hk' (by simp)⟩⟩
theorem specs_nil {P:Program} :∀(f:Nat) (s:HSpec),look ([]:List (Nat×HSpec)) f=some s→SOK P f s:=fun f s h=>by simp [look] at h
theorem specs_cons {P:Program} {n:Nat} {s:HSpec} {l:List (Nat×HSpec)} (h:SOK P n s) (r:∀f s,look l f=some s→SOK P f s):∀(f:Nat) (s':HSpec),look ((n,s)::l) f=some s'→SOK P f s':=fun f s' h'=>by
  simp only [look] at h'
  cases hb:Nat.beq n f with
  | true=>
    have:=Nat.eq_of_beq_eq_true hb
    subst this
    rw [hb] at h'
    simp only [cond_true,Option.some.injEq] at h'
    subst h'
    exact h
  | false=>
    rw [hb] at h'
    exact r f s' h'
def FnOk (P:Program) (f:Nat) (fn:Func):Prop:=P.funcs[f]? =some fn∧fn.name≠ "runtime.NumGoroutine" ∧fn.body.isSome=true
theorem inl_nil {P:Program} :∀(f:Nat) (fn:Func),look ([]:List (Nat×Func)) f=some fn→FnOk P f fn:=fun f s h=>by simp [look] at h
theorem inl_cons {P:Program} {n:Nat} {s:Func} {l:List (Nat×Func)} (h:FnOk P n s) (r:∀f s,look l f=some s→FnOk P f s):∀(f:Nat) (s':Func),look ((n,s)::l) f=some s'→FnOk P f s':=fun f s' h'=>by
  simp only [look] at h'
  cases hb:Nat.beq n f with
  | true=>
    have:=Nat.eq_of_beq_eq_true hb
    subst this
    rw [hb] at h'
    simp only [cond_true,Option.some.injEq] at h'
    subst h'
    exact h
  | false=>
    rw [hb] at h'
    exact r f s' h'
theorem acond {α β:Type} (k:α→β) (b:Bool) (x y:α):k (bif b then x else y)=bif b then k x else k y:=by cases b<;>rfl
theorem bcond {α β:Type} (k:α→Option β) (b:Bool) (x y:Option α):(bif b then x else y).bind k=bif b then x.bind k else y.bind k:=by cases b<;>rfl
theorem told_blk {l:List Blk} (h:l.all Blk.clo=true):∀b∈l,∀c∈b.cells,Clo c:=fun b hb=>Blk.clo_spec (by rw [List.all_eq_true] at h; exact h b hb)
theorem no_loops {P:Program} {N:Nat→Prop} {fn:Func} :∀c,fn.body=some c→LsOkn P N [] c:=fun _ _=>lsOk_nil
theorem one_loop {P:Program} {N:Nat→Prop} {fn:Func} {i:Nat} {b c:Code} {t:LSpec} (hb:fn.body=some b) (hl:(loopsIn b).filter (fun p=>Nat.beq i p.1)=[(i,c)]) (h:LOKn P N c t):∀c,fn.body=some c→LsOkn P N [(i,t)] c:=fun b' hb' p hp t' ht=>by
  rw [hb] at hb'
  injection hb' with hb'
  subst hb'
  simp only [look] at ht
  cases he:Nat.beq i p.1 with
  |false=>rw [he] at ht; cases ht
  | true=>
    rw [he] at ht
    simp only [cond_true,Option.some.injEq] at ht
    subst ht
    have hm:p∈(loopsIn b).filter (fun p=>Nat.beq i p.1):=List.mem_filter.2 ⟨hp,he⟩
    rw [hl,List.mem_singleton] at hm
    subst hm
    exact h
def Small (n:Nat) (S:St):Prop:=(∀v∈S.tmps,Bnd n v)∧(∀m b,look S.heap m=some b→m<n∧∀c∈b.cells,Bnd n c)
theorem SRel.small {W0:World} {out:Nat→Prop} {g0:Nat→Nat} {n0:Nat} {S:St} {a:Act} {w:World} (h:SRel W0 out g0 n0 S a w):n0≤S.nxt∧Small S.nxt S:=by
  obtain ⟨g,_,hn,tr,hr⟩:=h
  exact ⟨hn,tr.tb,fun m b hm=>⟨hr.dom m b hm,fun c hc=>hr.bnd m b hm c hc⟩⟩
def Sub (N:Nat→Prop) (S S':St):Prop:=∀(W0:World) (out:Nat→Prop) (g0:Nat→Nat) (n0:Nat) (a:Act) (w:World),N n0→SRel W0 out g0 n0 S a w→SRel W0 out g0 n0 S' a w
structure Wk (T:List Value) (H:Heap) (n:Nat) (S:St):Prop where
  nx:S.nxt=n
  len:S.tmps.length=T.length
  tms:∀i,isGone (nth S.tmps i)=false→nth S.tmps i=nth T i
  hp:∀m b,look S.heap m=some b→look H m=some b
  sm:Small n S
theorem SRel.wk {W0:World} {out:Nat→Prop} {g0:Nat→Nat} {n0 n:Nat} {S S':St} {a:Act} {w:World} (h:SRel W0 out g0 n0 S a w) (hn:n0≤n) (hw:Wk S.tmps S.heap n S'):SRel W0 out g0 n0 S' a w:=by
  obtain ⟨g,hg,_,tr,hr⟩:=h
  refine ⟨g,hg,by rw [hw.nx]; exact hn,⟨by rw [tr.sz,hw.len],fun i hi=> ?_,tr.df,by rw [hw.nx]; exact hw.sm.1⟩,?_⟩
  · have:=hw.tms i hi
    rw [this] at hi ⊢
    exact tr.tm i hi
  · rw [hw.nx]
    exact ⟨fun m b hm=>(hw.sm.2 m b hm).1,fun m b hm=>(hw.sm.2 m b hm).2,fun m b hm=>hr.mem m b (hw.hp m b hm),fun m k b c hm hk=>hr.inj m k b c (hw.hp m b hm) (hw.hp k c hk),fun m b hm=>hr.own m b (hw.hp m b hm),hr.keep,hr.tabs,fun m b hm=>hr.ntab m b (hw.hp m b hm)⟩
inductive Lpn (P:Program) (N:Nat→Prop) (E:Env) (L:List (Nat×LSpec)) (f:Nat) (c:Code):St→X→St→Prop
  |done {S:St} {x:X} {T:List Value} {H:Heap} :exec P E L (hs P E f).lf (hs P E f).cf c S (fun x S=>some (x,S.tmps,S.heap))=some (x,T,H)→(match x with| .normal=>False|_=>True)→(Small S.nxt S→Small S.nxt ⟨T,H,S.nxt⟩)→Lpn P N E L f c S x ⟨T,H,S.nxt⟩
  |more {S:St} {T:List Value} {H:Heap} {x:X} {S':St} :exec P E L (hs P E f).lf (hs P E f).cf c S (fun x S=>some (x,S.tmps,S.heap))=some (.normal,T,H)→(Small S.nxt S→Small S.nxt ⟨T,H,S.nxt⟩)→Lpn P N E L f c ⟨T,H,S.nxt⟩ x S'→Lpn P N E L f c S x S'
  |next {S S1:St} {x:X} {S':St} :exec P E L (hs P E f).lf (hs P E f).cf c S (fun x S=>some (x,S))=some (.normal,S1)→Lpn P N E L f c S1 x S'→Lpn P N E L f c S x S'
  |last {S S1:St} {x:X} :exec P E L (hs P E f).lf (hs P E f).cf c S (fun x S=>some (x,S))=some (x,S1)→(match x with| .normal=>False|_=>True)→Lpn P N E L f c S x S1
  |more' {S:St} {T:List Value} {H:Heap} {x:X} {S2 S':St} :exec P E L (hs P E f).lf (hs P E f).cf c S (fun x S=>some (x,S.tmps,S.heap))=some (.normal,T,H)→(Small S.nxt S→Wk T H S.nxt S2)→Lpn P N E L f c S2 x S'→Lpn P N E L f c S x S'
  |done' {S:St} {T:List Value} {H:Heap} {x:X} {S2:St} :exec P E L (hs P E f).lf (hs P E f).cf c S (fun x S=>some (x,S.tmps,S.heap))=some (x,T,H)→x≠ .normal→(Small S.nxt S→Wk T H S.nxt S2)→Lpn P N E L f c S x S2
  |weak {S S1:St} {x:X} {S':St} :Sub N S S1→Lpn P N E L f c S1 x S'→Lpn P N E L f c S x S'
  |weaken {S:St} {x:X} {S1 S':St} :Lpn P N E L f c S x S1→Sub N S1 S'→Lpn P N E L f c S x S'
abbrev Lp (P:Program) (E:Env) (L:List (Nat×LSpec)) (f:Nat) (c:Code):St→X→St→Prop:=Lpn P (fun _=>True) E L f c
theorem Lp.done {P:Program} {E:Env} {L:List (Nat×LSpec)} {f:Nat} {c:Code} {S:St} {x:X} {T:List Value} {H:Heap} :exec P E L (hs P E f).lf (hs P E f).cf c S (fun x S=>some (x,S.tmps,S.heap))=some (x,T,H)→(match x with| .normal=>False|_=>True)→(Small S.nxt S→Small S.nxt ⟨T,H,S.nxt⟩)→Lp P E L f c S x ⟨T,H,S.nxt⟩:=Lpn.done
theorem Lp.more {P:Program} {E:Env} {L:List (Nat×LSpec)} {f:Nat} {c:Code} {S:St} {T:List Value} {H:Heap} {x:X} {S':St} :exec P E L (hs P E f).lf (hs P E f).cf c S (fun x S=>some (x,S.tmps,S.heap))=some (.normal,T,H)→(Small S.nxt S→Small S.nxt ⟨T,H,S.nxt⟩)→Lp P E L f c ⟨T,H,S.nxt⟩ x S'→Lp P E L f c S x S':=Lpn.more
theorem Small.of {n:Nat} {S:St} (h:Small n S) {T:List Value} (ht:∀v∈T,Clo v∨v∈S.tmps):Small n ⟨T,S.heap,n⟩:=
  ⟨fun v hv=>(ht v hv).elim (fun c=>c.bnd n) (fun c=>h.1 v c),h.2⟩
def loopCode (fn:Func) (i:Nat):Code:=match fn.body with
  |some b=>(match look (loopsIn b) i with|some c=>c|none=> .skip)
  |none=> .skip
theorem calls_run {P:Program} {E:Env} {L:List (Nat×LSpec)} (hE:EnvOk P E) (n:Nat) {f:FuncId} {fn:Func} (hf:P.funcs[f]? =some fn) (hn:fn.name≠ "runtime.NumGoroutine") (hb:fn.body.isSome=true) (hL:∀c,fn.body=some c→LsOk P L c) {vs:List Value} {v:Value} (h:xfn P E L n fn vs []=some (v,[]))
    (ha:∀u∈vs,okV (fun m=>Nat.blt m 0) 8 u=true) (hv:Clo v) (w:World) (htab:TabOk w):Calls P f ⟨vs⟩ w fun e w'=>e= .returned v∧Below w.heap.size w w':=by
  have hs:SOK P f (fun us bl=>match bl with|[]=>(match Classical.propDecidable (us=vs) with| .isTrue _=>some (true,v,[])| .isFalse _=>none)|_=>none):=by
    refine sok_of hE n hf hn hb hL fun us bl u bl' hh=> ?_
    split at hh
    · split at hh
      · rename_i e _
        subst e
        simp only [Option.some.injEq,Prod.mk.injEq,true_and] at hh
        obtain ⟨rfl,rfl⟩:=hh
        exact ⟨h,by simpa using ha,hv,by simp⟩
      · cases hh
    · cases hh
  refine calls_of hs (vs:=vs) (v:=v) ?_ (fun u hu=> ?_) hv w htab
  · simp only
    split
    · rfl
    · rename_i e _
      exact absurd rfl e
  · intro g
    have:=okV_spec (p:=fun m=>Nat.blt m 0) (g:=g) (g':=fun n=>n) (fun n hn=>by simp [Nat.blt] at hn) 8 u (ha u hu)
    rw [this]
    have key:∀(k:Nat) (x:Value),okV (fun m=>Nat.blt m 0) k x=true→ren (fun n=>n) x=x:=by
      intro k
      induction k with
      |zero=>intro x hx; simp [okV] at hx
      | succ k ih=>
        have hl:∀l:List Value,l.all (okV (fun m=>Nat.blt m 0) k)=true→l.map (ren fun n=>n)=l:=fun l hl=>by
          rw [List.all_eq_true] at hl
          calc l.map (ren fun n=>n)=l.map id:=List.map_congr_left fun x hx=>ih x (hl x hx)
            _=l:=by simp
        intro x hx
        unfold okV at hx
        split at hx
        any_goals simp [ren]
        · exact absurd hx (by simp [Nat.blt])
        · exact absurd hx (by simp [Nat.blt])
        any_goals rw [renL_map]
        any_goals exact hl _ hx
        · simp only [Bool.and_eq_true] at hx
          rw [renL_map]
          exact ⟨hl _ hx.1,hl _ hx.2⟩
        · exact ih _ hx
        · simp at hx
    exact key 8 u (ha u hu)
end RX
end
section
namespace Go.Proofs.YtpejalpgficopaaGreatDoor.G
open Go Go.Proofs Go.RowKit RX
set_option linter.unusedVariables false
set_option linter.unusedSimpArgs false
theorem mixed_ok:Tryz.prog.follows .mixedOrders=true:=by kernel_rfl
end Go.Proofs.YtpejalpgficopaaGreatDoor.G
end
section
namespace Go.Proofs.YtpejalpgficopaaGreatDoor.G
open Go Go.Proofs Go.RowKit RX
set_option linter.unusedVariables false
set_option linter.unusedSimpArgs false
def interval_Valid.sp (f:Int→Int→(Bool)):HSpec
  |[.agg ⟨[.int .i64 a0_0,.int .i64 a0_1]⟩],[]=>some (true,.bool (f a0_0 a0_1),[])
  |_,_=>none
def direction_Valid.sp (f:Int→Int→Int→Int→Int→Int→(Bool)):HSpec
  |[.agg ⟨[.int .i64 a0_0,.int .i64 a0_1,.int .i64 a0_2,.int .i64 a0_3,.int .i64 a0_4,.int .i64 a0_5]⟩],[]=>some (true,.bool (f a0_0 a0_1 a0_2 a0_3 a0_4 a0_5),[])
  |_,_=>none
def direction_calc_box.sp (f:Int→Int→Int→Int→Int→Int→Int→(Int×Int×Int×Int×Int×Int×Int×Int)):HSpec
  |[.pointer (some ⟨0,0,none⟩),.agg ⟨[.int .i64 a1_0,.int .i64 a1_1,.int .i64 a1_2,.int .i64 a1_3,.int .i64 a1_4,.int .i64 a1_5]⟩],[.cs [.int .i64 s0_0] 98]=>some (true,.tuple ⟨[.agg ⟨[.int .i64 (f s0_0 a1_0 a1_1 a1_2 a1_3 a1_4 a1_5).1,.int .i64 (f s0_0 a1_0 a1_1 a1_2 a1_3 a1_4 a1_5).2.1,.int .i64 (f s0_0 a1_0 a1_1 a1_2 a1_3 a1_4 a1_5).2.2.1,.int .i64 (f s0_0 a1_0 a1_1 a1_2 a1_3 a1_4 a1_5).2.2.2.1,.int .i64 (f s0_0 a1_0 a1_1 a1_2 a1_3 a1_4 a1_5).2.2.2.2.1,.int .i64 (f s0_0 a1_0 a1_1 a1_2 a1_3 a1_4 a1_5).2.2.2.2.2.1]⟩,.int .i64 (f s0_0 a1_0 a1_1 a1_2 a1_3 a1_4 a1_5).2.2.2.2.2.2.1]⟩,[.cs [.int .i64 (f s0_0 a1_0 a1_1 a1_2 a1_3 a1_4 a1_5).2.2.2.2.2.2.2] 98])
  |_,_=>none
def direction_calc_keep.sp (f:Int→Int→Int→Int→(Int×Int×Int)):HSpec
  |[.pointer (some ⟨0,0,none⟩),.agg ⟨[.int .i64 a1_0,.int .i64 a1_1]⟩,.int .i64 a2],[.cs [.int .i64 s0_0] 98]=>some (true,.agg ⟨[.int .i64 (f s0_0 a1_0 a1_1 a2).1,.int .i64 (f s0_0 a1_0 a1_1 a2).2.1]⟩,[.cs [.int .i64 (f s0_0 a1_0 a1_1 a2).2.2] 98])
  |_,_=>none
def interval_made.sp (f:Int→Int→(Int×Int×Int)):HSpec
  |[.int .i64 a0,.int .i64 a1],[]=>some (true,.tuple ⟨[.agg ⟨[.int .i64 (f a0 a1).1,.int .i64 (f a0 a1).2.1]⟩,.int .i64 (f a0 a1).2.2]⟩,[])
  |_,_=>none
def interval_Add.sp (f:Int→Int→Int→Int→(Int×Int×Int)):HSpec
  |[.agg ⟨[.int .i64 a0_0,.int .i64 a0_1]⟩,.agg ⟨[.int .i64 a1_0,.int .i64 a1_1]⟩],[]=>some (true,.tuple ⟨[.agg ⟨[.int .i64 (f a0_0 a0_1 a1_0 a1_1).1,.int .i64 (f a0_0 a0_1 a1_0 a1_1).2.1]⟩,.int .i64 (f a0_0 a0_1 a1_0 a1_1).2.2]⟩,[])
  |_,_=>none
def interval_floor.sp (f:Int→Int→(Int)):HSpec
  |[.int .i64 a0,.int .i64 a1],[]=>some (a1 !=0,.int .i64 (f a0 a1),[])
  |_,_=>none
def interval_ceil.sp (f:Int→Int→(Int)):HSpec
  |[.int .i64 a0,.int .i64 a1],[]=>some (a1 !=0,.int .i64 (f a0 a1),[])
  |_,_=>none
def interval_Div.sp (f:Int→Int→Int→Int→(Int×Int×Int)):HSpec
  |[.agg ⟨[.int .i64 a0_0,.int .i64 a0_1]⟩,.agg ⟨[.int .i64 a1_0,.int .i64 a1_1]⟩],[]=>some (true,.tuple ⟨[.agg ⟨[.int .i64 (f a0_0 a0_1 a1_0 a1_1).1,.int .i64 (f a0_0 a0_1 a1_0 a1_1).2.1]⟩,.int .i64 (f a0_0 a0_1 a1_0 a1_1).2.2]⟩,[])
  |_,_=>none
def interval_Sub.sp (f:Int→Int→Int→Int→(Int×Int×Int)):HSpec
  |[.agg ⟨[.int .i64 a0_0,.int .i64 a0_1]⟩,.agg ⟨[.int .i64 a1_0,.int .i64 a1_1]⟩],[]=>some (true,.tuple ⟨[.agg ⟨[.int .i64 (f a0_0 a0_1 a1_0 a1_1).1,.int .i64 (f a0_0 a0_1 a1_0 a1_1).2.1]⟩,.int .i64 (f a0_0 a0_1 a1_0 a1_1).2.2]⟩,[])
  |_,_=>none
def interval_Mul.sp (f:Int→Int→Int→Int→(Int×Int×Int)):HSpec
  |[.agg ⟨[.int .i64 a0_0,.int .i64 a0_1]⟩,.agg ⟨[.int .i64 a1_0,.int .i64 a1_1]⟩],[]=>some (true,.tuple ⟨[.agg ⟨[.int .i64 (f a0_0 a0_1 a1_0 a1_1).1,.int .i64 (f a0_0 a0_1 a1_0 a1_1).2.1]⟩,.int .i64 (f a0_0 a0_1 a1_0 a1_1).2.2]⟩,[])
  |_,_=>none
def direction_calc_add.sp (f:Int→Int→Int→Int→Int→(Int×Int×Int)):HSpec
  |[.pointer (some ⟨0,0,none⟩),.agg ⟨[.int .i64 a1_0,.int .i64 a1_1]⟩,.agg ⟨[.int .i64 a2_0,.int .i64 a2_1]⟩],[.cs [.int .i64 s0_0] 98]=>some (true,.agg ⟨[.int .i64 (f s0_0 a1_0 a1_1 a2_0 a2_1).1,.int .i64 (f s0_0 a1_0 a1_1 a2_0 a2_1).2.1]⟩,[.cs [.int .i64 (f s0_0 a1_0 a1_1 a2_0 a2_1).2.2] 98])
  |_,_=>none
def direction_Add.sp (f:Int→Int→Int→Int→Int→Int→Int→Int→Int→Int→Int→Int→(Int×Int×Int×Int×Int×Int×Int)):HSpec
  |[.agg ⟨[.int .i64 a0_0,.int .i64 a0_1,.int .i64 a0_2,.int .i64 a0_3,.int .i64 a0_4,.int .i64 a0_5]⟩,.agg ⟨[.int .i64 a1_0,.int .i64 a1_1,.int .i64 a1_2,.int .i64 a1_3,.int .i64 a1_4,.int .i64 a1_5]⟩],[]=>some (true,.tuple ⟨[.agg ⟨[.int .i64 (f a0_0 a0_1 a0_2 a0_3 a0_4 a0_5 a1_0 a1_1 a1_2 a1_3 a1_4 a1_5).1,.int .i64 (f a0_0 a0_1 a0_2 a0_3 a0_4 a0_5 a1_0 a1_1 a1_2 a1_3 a1_4 a1_5).2.1,.int .i64 (f a0_0 a0_1 a0_2 a0_3 a0_4 a0_5 a1_0 a1_1 a1_2 a1_3 a1_4 a1_5).2.2.1,.int .i64 (f a0_0 a0_1 a0_2 a0_3 a0_4 a0_5 a1_0 a1_1 a1_2 a1_3 a1_4 a1_5).2.2.2.1,.int .i64 (f a0_0 a0_1 a0_2 a0_3 a0_4 a0_5 a1_0 a1_1 a1_2 a1_3 a1_4 a1_5).2.2.2.2.1,.int .i64 (f a0_0 a0_1 a0_2 a0_3 a0_4 a0_5 a1_0 a1_1 a1_2 a1_3 a1_4 a1_5).2.2.2.2.2.1]⟩,.int .i64 (f a0_0 a0_1 a0_2 a0_3 a0_4 a0_5 a1_0 a1_1 a1_2 a1_3 a1_4 a1_5).2.2.2.2.2.2]⟩,[])
  |_,_=>none
def culetref27_Valid.sp (f:Int→Int→(Bool)):HSpec
  |[.agg ⟨[.int .i64 a0_0,.int .i64 a0_1]⟩],[]=>some (true,.bool (f a0_0 a0_1),[])
  |_,_=>none
def culetref28_Valid.sp (f:Int→Int→Int→Int→Int→Int→(Bool)):HSpec
  |[.agg ⟨[.int .i64 a0_0,.int .i64 a0_1,.int .i64 a0_2,.int .i64 a0_3,.int .i64 a0_4,.int .i64 a0_5]⟩],[]=>some (true,.bool (f a0_0 a0_1 a0_2 a0_3 a0_4 a0_5),[])
  |_,_=>none
def culetref28_Calc_kept.sp (f:Int→Int→Int→Int→(Int×Int×Int)):HSpec
  |[.pointer (some ⟨0,0,none⟩),.agg ⟨[.int .i64 a1_0,.int .i64 a1_1]⟩,.int .i64 a2],[.cs [.int .i64 s0_0] 106]=>some (true,.agg ⟨[.int .i64 (f s0_0 a1_0 a1_1 a2).1,.int .i64 (f s0_0 a1_0 a1_1 a2).2.1]⟩,[.cs [.int .i64 (f s0_0 a1_0 a1_1 a2).2.2] 106])
  |_,_=>none
def culetref27_both.sp (f:Int→Int→Int→Int→(Bool)):HSpec
  |[.agg ⟨[.int .i64 a0_0,.int .i64 a0_1]⟩,.agg ⟨[.int .i64 a1_0,.int .i64 a1_1]⟩],[]=>some (true,.bool (f a0_0 a0_1 a1_0 a1_1),[])
  |_,_=>none
def culetref27_checked.sp (f:Int→Int→(Int×Int×Int)):HSpec
  |[.int .i64 a0,.int .i64 a1],[]=>some (true,.tuple ⟨[.agg ⟨[.int .i64 (f a0 a1).1,.int .i64 (f a0 a1).2.1]⟩,.int .i64 (f a0 a1).2.2]⟩,[])
  |_,_=>none
def culetref27_Add.sp (f:Int→Int→Int→Int→(Int×Int×Int)):HSpec
  |[.agg ⟨[.int .i64 a0_0,.int .i64 a0_1]⟩,.agg ⟨[.int .i64 a1_0,.int .i64 a1_1]⟩],[]=>some (true,.tuple ⟨[.agg ⟨[.int .i64 (f a0_0 a0_1 a1_0 a1_1).1,.int .i64 (f a0_0 a0_1 a1_0 a1_1).2.1]⟩,.int .i64 (f a0_0 a0_1 a1_0 a1_1).2.2]⟩,[])
  |_,_=>none
def culetref28_Calc_Add.sp (f:Int→Int→Int→Int→Int→(Int×Int×Int)):HSpec
  |[.pointer (some ⟨0,0,none⟩),.agg ⟨[.int .i64 a1_0,.int .i64 a1_1]⟩,.agg ⟨[.int .i64 a2_0,.int .i64 a2_1]⟩],[.cs [.int .i64 s0_0] 106]=>some (true,.agg ⟨[.int .i64 (f s0_0 a1_0 a1_1 a2_0 a2_1).1,.int .i64 (f s0_0 a1_0 a1_1 a2_0 a2_1).2.1]⟩,[.cs [.int .i64 (f s0_0 a1_0 a1_1 a2_0 a2_1).2.2] 106])
  |_,_=>none
def culetref28_Calc_done.sp (f:Int→Int→Int→Int→Int→Int→Int→(Int×Int×Int×Int×Int×Int×Int×Int)):HSpec
  |[.pointer (some ⟨0,0,none⟩),.agg ⟨[.int .i64 a1_0,.int .i64 a1_1,.int .i64 a1_2,.int .i64 a1_3,.int .i64 a1_4,.int .i64 a1_5]⟩],[.cs [.int .i64 s0_0] 106]=>some (true,.tuple ⟨[.agg ⟨[.int .i64 (f s0_0 a1_0 a1_1 a1_2 a1_3 a1_4 a1_5).1,.int .i64 (f s0_0 a1_0 a1_1 a1_2 a1_3 a1_4 a1_5).2.1,.int .i64 (f s0_0 a1_0 a1_1 a1_2 a1_3 a1_4 a1_5).2.2.1,.int .i64 (f s0_0 a1_0 a1_1 a1_2 a1_3 a1_4 a1_5).2.2.2.1,.int .i64 (f s0_0 a1_0 a1_1 a1_2 a1_3 a1_4 a1_5).2.2.2.2.1,.int .i64 (f s0_0 a1_0 a1_1 a1_2 a1_3 a1_4 a1_5).2.2.2.2.2.1]⟩,.int .i64 (f s0_0 a1_0 a1_1 a1_2 a1_3 a1_4 a1_5).2.2.2.2.2.2.1]⟩,[.cs [.int .i64 (f s0_0 a1_0 a1_1 a1_2 a1_3 a1_4 a1_5).2.2.2.2.2.2.2] 106])
  |_,_=>none
def culetref28_Add.sp (f:Int→Int→Int→Int→Int→Int→Int→Int→Int→Int→Int→Int→(Int×Int×Int×Int×Int×Int×Int)):HSpec
  |[.agg ⟨[.int .i64 a0_0,.int .i64 a0_1,.int .i64 a0_2,.int .i64 a0_3,.int .i64 a0_4,.int .i64 a0_5]⟩,.agg ⟨[.int .i64 a1_0,.int .i64 a1_1,.int .i64 a1_2,.int .i64 a1_3,.int .i64 a1_4,.int .i64 a1_5]⟩],[]=>some (true,.tuple ⟨[.agg ⟨[.int .i64 (f a0_0 a0_1 a0_2 a0_3 a0_4 a0_5 a1_0 a1_1 a1_2 a1_3 a1_4 a1_5).1,.int .i64 (f a0_0 a0_1 a0_2 a0_3 a0_4 a0_5 a1_0 a1_1 a1_2 a1_3 a1_4 a1_5).2.1,.int .i64 (f a0_0 a0_1 a0_2 a0_3 a0_4 a0_5 a1_0 a1_1 a1_2 a1_3 a1_4 a1_5).2.2.1,.int .i64 (f a0_0 a0_1 a0_2 a0_3 a0_4 a0_5 a1_0 a1_1 a1_2 a1_3 a1_4 a1_5).2.2.2.1,.int .i64 (f a0_0 a0_1 a0_2 a0_3 a0_4 a0_5 a1_0 a1_1 a1_2 a1_3 a1_4 a1_5).2.2.2.2.1,.int .i64 (f a0_0 a0_1 a0_2 a0_3 a0_4 a0_5 a1_0 a1_1 a1_2 a1_3 a1_4 a1_5).2.2.2.2.2.1]⟩,.int .i64 (f a0_0 a0_1 a0_2 a0_3 a0_4 a0_5 a1_0 a1_1 a1_2 a1_3 a1_4 a1_5).2.2.2.2.2.2]⟩,[])
  |_,_=>none
def culetlaw28_theirs.sp (f:Int→Int→Int→Int→Int→Int→(Int×Int×Int×Int×Int×Int)):HSpec
  |[.agg ⟨[.int .i64 a0_0,.int .i64 a0_1,.int .i64 a0_2,.int .i64 a0_3,.int .i64 a0_4,.int .i64 a0_5]⟩],[]=>some (true,.agg ⟨[.int .i64 (f a0_0 a0_1 a0_2 a0_3 a0_4 a0_5).1,.int .i64 (f a0_0 a0_1 a0_2 a0_3 a0_4 a0_5).2.1,.int .i64 (f a0_0 a0_1 a0_2 a0_3 a0_4 a0_5).2.2.1,.int .i64 (f a0_0 a0_1 a0_2 a0_3 a0_4 a0_5).2.2.2.1,.int .i64 (f a0_0 a0_1 a0_2 a0_3 a0_4 a0_5).2.2.2.2.1,.int .i64 (f a0_0 a0_1 a0_2 a0_3 a0_4 a0_5).2.2.2.2.2]⟩,[])
  |_,_=>none
def direction_calc_sub.sp (f:Int→Int→Int→Int→Int→(Int×Int×Int)):HSpec
  |[.pointer (some ⟨0,0,none⟩),.agg ⟨[.int .i64 a1_0,.int .i64 a1_1]⟩,.agg ⟨[.int .i64 a2_0,.int .i64 a2_1]⟩],[.cs [.int .i64 s0_0] 98]=>some (true,.agg ⟨[.int .i64 (f s0_0 a1_0 a1_1 a2_0 a2_1).1,.int .i64 (f s0_0 a1_0 a1_1 a2_0 a2_1).2.1]⟩,[.cs [.int .i64 (f s0_0 a1_0 a1_1 a2_0 a2_1).2.2] 98])
  |_,_=>none
def direction_Sub.sp (f:Int→Int→Int→Int→Int→Int→Int→Int→Int→Int→Int→Int→(Int×Int×Int×Int×Int×Int×Int)):HSpec
  |[.agg ⟨[.int .i64 a0_0,.int .i64 a0_1,.int .i64 a0_2,.int .i64 a0_3,.int .i64 a0_4,.int .i64 a0_5]⟩,.agg ⟨[.int .i64 a1_0,.int .i64 a1_1,.int .i64 a1_2,.int .i64 a1_3,.int .i64 a1_4,.int .i64 a1_5]⟩],[]=>some (true,.tuple ⟨[.agg ⟨[.int .i64 (f a0_0 a0_1 a0_2 a0_3 a0_4 a0_5 a1_0 a1_1 a1_2 a1_3 a1_4 a1_5).1,.int .i64 (f a0_0 a0_1 a0_2 a0_3 a0_4 a0_5 a1_0 a1_1 a1_2 a1_3 a1_4 a1_5).2.1,.int .i64 (f a0_0 a0_1 a0_2 a0_3 a0_4 a0_5 a1_0 a1_1 a1_2 a1_3 a1_4 a1_5).2.2.1,.int .i64 (f a0_0 a0_1 a0_2 a0_3 a0_4 a0_5 a1_0 a1_1 a1_2 a1_3 a1_4 a1_5).2.2.2.1,.int .i64 (f a0_0 a0_1 a0_2 a0_3 a0_4 a0_5 a1_0 a1_1 a1_2 a1_3 a1_4 a1_5).2.2.2.2.1,.int .i64 (f a0_0 a0_1 a0_2 a0_3 a0_4 a0_5 a1_0 a1_1 a1_2 a1_3 a1_4 a1_5).2.2.2.2.2.1]⟩,.int .i64 (f a0_0 a0_1 a0_2 a0_3 a0_4 a0_5 a1_0 a1_1 a1_2 a1_3 a1_4 a1_5).2.2.2.2.2.2]⟩,[])
  |_,_=>none
def culetref27_Sub.sp (f:Int→Int→Int→Int→(Int×Int×Int)):HSpec
  |[.agg ⟨[.int .i64 a0_0,.int .i64 a0_1]⟩,.agg ⟨[.int .i64 a1_0,.int .i64 a1_1]⟩],[]=>some (true,.tuple ⟨[.agg ⟨[.int .i64 (f a0_0 a0_1 a1_0 a1_1).1,.int .i64 (f a0_0 a0_1 a1_0 a1_1).2.1]⟩,.int .i64 (f a0_0 a0_1 a1_0 a1_1).2.2]⟩,[])
  |_,_=>none
def culetref28_Calc_Sub.sp (f:Int→Int→Int→Int→Int→(Int×Int×Int)):HSpec
  |[.pointer (some ⟨0,0,none⟩),.agg ⟨[.int .i64 a1_0,.int .i64 a1_1]⟩,.agg ⟨[.int .i64 a2_0,.int .i64 a2_1]⟩],[.cs [.int .i64 s0_0] 106]=>some (true,.agg ⟨[.int .i64 (f s0_0 a1_0 a1_1 a2_0 a2_1).1,.int .i64 (f s0_0 a1_0 a1_1 a2_0 a2_1).2.1]⟩,[.cs [.int .i64 (f s0_0 a1_0 a1_1 a2_0 a2_1).2.2] 106])
  |_,_=>none
def culetref28_Sub.sp (f:Int→Int→Int→Int→Int→Int→Int→Int→Int→Int→Int→Int→(Int×Int×Int×Int×Int×Int×Int)):HSpec
  |[.agg ⟨[.int .i64 a0_0,.int .i64 a0_1,.int .i64 a0_2,.int .i64 a0_3,.int .i64 a0_4,.int .i64 a0_5]⟩,.agg ⟨[.int .i64 a1_0,.int .i64 a1_1,.int .i64 a1_2,.int .i64 a1_3,.int .i64 a1_4,.int .i64 a1_5]⟩],[]=>some (true,.tuple ⟨[.agg ⟨[.int .i64 (f a0_0 a0_1 a0_2 a0_3 a0_4 a0_5 a1_0 a1_1 a1_2 a1_3 a1_4 a1_5).1,.int .i64 (f a0_0 a0_1 a0_2 a0_3 a0_4 a0_5 a1_0 a1_1 a1_2 a1_3 a1_4 a1_5).2.1,.int .i64 (f a0_0 a0_1 a0_2 a0_3 a0_4 a0_5 a1_0 a1_1 a1_2 a1_3 a1_4 a1_5).2.2.1,.int .i64 (f a0_0 a0_1 a0_2 a0_3 a0_4 a0_5 a1_0 a1_1 a1_2 a1_3 a1_4 a1_5).2.2.2.1,.int .i64 (f a0_0 a0_1 a0_2 a0_3 a0_4 a0_5 a1_0 a1_1 a1_2 a1_3 a1_4 a1_5).2.2.2.2.1,.int .i64 (f a0_0 a0_1 a0_2 a0_3 a0_4 a0_5 a1_0 a1_1 a1_2 a1_3 a1_4 a1_5).2.2.2.2.2.1]⟩,.int .i64 (f a0_0 a0_1 a0_2 a0_3 a0_4 a0_5 a1_0 a1_1 a1_2 a1_3 a1_4 a1_5).2.2.2.2.2.2]⟩,[])
  |_,_=>none
def direction_calc_mul.sp (f:Int→Int→Int→Int→Int→(Int×Int×Int)):HSpec
  |[.pointer (some ⟨0,0,none⟩),.agg ⟨[.int .i64 a1_0,.int .i64 a1_1]⟩,.agg ⟨[.int .i64 a2_0,.int .i64 a2_1]⟩],[.cs [.int .i64 s0_0] 98]=>some (true,.agg ⟨[.int .i64 (f s0_0 a1_0 a1_1 a2_0 a2_1).1,.int .i64 (f s0_0 a1_0 a1_1 a2_0 a2_1).2.1]⟩,[.cs [.int .i64 (f s0_0 a1_0 a1_1 a2_0 a2_1).2.2] 98])
  |_,_=>none
def direction_Scale.sp (f:Int→Int→Int→Int→Int→Int→Int→Int→(Int×Int×Int×Int×Int×Int×Int)):HSpec
  |[.agg ⟨[.int .i64 a0_0,.int .i64 a0_1,.int .i64 a0_2,.int .i64 a0_3,.int .i64 a0_4,.int .i64 a0_5]⟩,.agg ⟨[.int .i64 a1_0,.int .i64 a1_1]⟩],[]=>some (true,.tuple ⟨[.agg ⟨[.int .i64 (f a0_0 a0_1 a0_2 a0_3 a0_4 a0_5 a1_0 a1_1).1,.int .i64 (f a0_0 a0_1 a0_2 a0_3 a0_4 a0_5 a1_0 a1_1).2.1,.int .i64 (f a0_0 a0_1 a0_2 a0_3 a0_4 a0_5 a1_0 a1_1).2.2.1,.int .i64 (f a0_0 a0_1 a0_2 a0_3 a0_4 a0_5 a1_0 a1_1).2.2.2.1,.int .i64 (f a0_0 a0_1 a0_2 a0_3 a0_4 a0_5 a1_0 a1_1).2.2.2.2.1,.int .i64 (f a0_0 a0_1 a0_2 a0_3 a0_4 a0_5 a1_0 a1_1).2.2.2.2.2.1]⟩,.int .i64 (f a0_0 a0_1 a0_2 a0_3 a0_4 a0_5 a1_0 a1_1).2.2.2.2.2.2]⟩,[])
  |_,_=>none
def culetref27_floor.sp (f:Int→Int→(Int)):HSpec
  |[.int .i64 a0,.int .i64 a1],[]=>some (bif decide (a1<0) then IntKind.i64.wrap (-a1) !=0 else a1 !=0,.int .i64 (f a0 a1),[])
  |_,_=>none
def culetref27_ceil.sp (f:Int→Int→(Int)):HSpec
  |[.int .i64 a0,.int .i64 a1],[]=>some (bif decide (a1<0) then IntKind.i64.wrap (-a1) !=0 else a1 !=0,.int .i64 (f a0 a1),[])
  |_,_=>none
def culetref27_Mul.sp (f:Int→Int→Int→Int→(Int×Int×Int)):HSpec
  |[.agg ⟨[.int .i64 a0_0,.int .i64 a0_1]⟩,.agg ⟨[.int .i64 a1_0,.int .i64 a1_1]⟩],[]=>some (true,.tuple ⟨[.agg ⟨[.int .i64 (f a0_0 a0_1 a1_0 a1_1).1,.int .i64 (f a0_0 a0_1 a1_0 a1_1).2.1]⟩,.int .i64 (f a0_0 a0_1 a1_0 a1_1).2.2]⟩,[])
  |_,_=>none
def culetref28_Calc_Mul.sp (f:Int→Int→Int→Int→Int→(Int×Int×Int)):HSpec
  |[.pointer (some ⟨0,0,none⟩),.agg ⟨[.int .i64 a1_0,.int .i64 a1_1]⟩,.agg ⟨[.int .i64 a2_0,.int .i64 a2_1]⟩],[.cs [.int .i64 s0_0] 106]=>some (true,.agg ⟨[.int .i64 (f s0_0 a1_0 a1_1 a2_0 a2_1).1,.int .i64 (f s0_0 a1_0 a1_1 a2_0 a2_1).2.1]⟩,[.cs [.int .i64 (f s0_0 a1_0 a1_1 a2_0 a2_1).2.2] 106])
  |_,_=>none
def culetref28_Scale.sp (f:Int→Int→Int→Int→Int→Int→Int→Int→(Int×Int×Int×Int×Int×Int×Int)):HSpec
  |[.agg ⟨[.int .i64 a0_0,.int .i64 a0_1,.int .i64 a0_2,.int .i64 a0_3,.int .i64 a0_4,.int .i64 a0_5]⟩,.agg ⟨[.int .i64 a1_0,.int .i64 a1_1]⟩],[]=>some (true,.tuple ⟨[.agg ⟨[.int .i64 (f a0_0 a0_1 a0_2 a0_3 a0_4 a0_5 a1_0 a1_1).1,.int .i64 (f a0_0 a0_1 a0_2 a0_3 a0_4 a0_5 a1_0 a1_1).2.1,.int .i64 (f a0_0 a0_1 a0_2 a0_3 a0_4 a0_5 a1_0 a1_1).2.2.1,.int .i64 (f a0_0 a0_1 a0_2 a0_3 a0_4 a0_5 a1_0 a1_1).2.2.2.1,.int .i64 (f a0_0 a0_1 a0_2 a0_3 a0_4 a0_5 a1_0 a1_1).2.2.2.2.1,.int .i64 (f a0_0 a0_1 a0_2 a0_3 a0_4 a0_5 a1_0 a1_1).2.2.2.2.2.1]⟩,.int .i64 (f a0_0 a0_1 a0_2 a0_3 a0_4 a0_5 a1_0 a1_1).2.2.2.2.2.2]⟩,[])
  |_,_=>none
def direction_calc_result.sp (f:Int→Int→Int→(Int×Int×Int×Int)):HSpec
  |[.pointer (some ⟨0,0,none⟩),.agg ⟨[.int .i64 a1_0,.int .i64 a1_1]⟩],[.cs [.int .i64 s0_0] 98]=>some (true,.tuple ⟨[.agg ⟨[.int .i64 (f s0_0 a1_0 a1_1).1,.int .i64 (f s0_0 a1_0 a1_1).2.1]⟩,.int .i64 (f s0_0 a1_0 a1_1).2.2.1]⟩,[.cs [.int .i64 (f s0_0 a1_0 a1_1).2.2.2] 98])
  |_,_=>none
def direction_Dot.sp (f:Int→Int→Int→Int→Int→Int→Int→Int→Int→Int→Int→Int→(Int×Int×Int)):HSpec
  |[.agg ⟨[.int .i64 a0_0,.int .i64 a0_1,.int .i64 a0_2,.int .i64 a0_3,.int .i64 a0_4,.int .i64 a0_5]⟩,.agg ⟨[.int .i64 a1_0,.int .i64 a1_1,.int .i64 a1_2,.int .i64 a1_3,.int .i64 a1_4,.int .i64 a1_5]⟩],[]=>some (true,.tuple ⟨[.agg ⟨[.int .i64 (f a0_0 a0_1 a0_2 a0_3 a0_4 a0_5 a1_0 a1_1 a1_2 a1_3 a1_4 a1_5).1,.int .i64 (f a0_0 a0_1 a0_2 a0_3 a0_4 a0_5 a1_0 a1_1 a1_2 a1_3 a1_4 a1_5).2.1]⟩,.int .i64 (f a0_0 a0_1 a0_2 a0_3 a0_4 a0_5 a1_0 a1_1 a1_2 a1_3 a1_4 a1_5).2.2]⟩,[])
  |_,_=>none
def culetref28_Calc_only.sp (f:Int→Int→Int→(Int×Int×Int×Int)):HSpec
  |[.pointer (some ⟨0,0,none⟩),.agg ⟨[.int .i64 a1_0,.int .i64 a1_1]⟩],[.cs [.int .i64 s0_0] 106]=>some (true,.tuple ⟨[.agg ⟨[.int .i64 (f s0_0 a1_0 a1_1).1,.int .i64 (f s0_0 a1_0 a1_1).2.1]⟩,.int .i64 (f s0_0 a1_0 a1_1).2.2.1]⟩,[.cs [.int .i64 (f s0_0 a1_0 a1_1).2.2.2] 106])
  |_,_=>none
def culetref28_Dot.sp (f:Int→Int→Int→Int→Int→Int→Int→Int→Int→Int→Int→Int→(Int×Int×Int)):HSpec
  |[.agg ⟨[.int .i64 a0_0,.int .i64 a0_1,.int .i64 a0_2,.int .i64 a0_3,.int .i64 a0_4,.int .i64 a0_5]⟩,.agg ⟨[.int .i64 a1_0,.int .i64 a1_1,.int .i64 a1_2,.int .i64 a1_3,.int .i64 a1_4,.int .i64 a1_5]⟩],[]=>some (true,.tuple ⟨[.agg ⟨[.int .i64 (f a0_0 a0_1 a0_2 a0_3 a0_4 a0_5 a1_0 a1_1 a1_2 a1_3 a1_4 a1_5).1,.int .i64 (f a0_0 a0_1 a0_2 a0_3 a0_4 a0_5 a1_0 a1_1 a1_2 a1_3 a1_4 a1_5).2.1]⟩,.int .i64 (f a0_0 a0_1 a0_2 a0_3 a0_4 a0_5 a1_0 a1_1 a1_2 a1_3 a1_4 a1_5).2.2]⟩,[])
  |_,_=>none
def interval_Inside.sp (f:Int→Int→Int→Int→(Bool)):HSpec
  |[.agg ⟨[.int .i64 a0_0,.int .i64 a0_1]⟩,.agg ⟨[.int .i64 a1_0,.int .i64 a1_1]⟩],[]=>some (true,.bool (f a0_0 a0_1 a1_0 a1_1),[])
  |_,_=>none
def direction_Inside.sp (f:Int→Int→Int→Int→Int→Int→Int→Int→Int→Int→Int→Int→(Bool)):HSpec
  |[.agg ⟨[.int .i64 a0_0,.int .i64 a0_1,.int .i64 a0_2,.int .i64 a0_3,.int .i64 a0_4,.int .i64 a0_5]⟩,.agg ⟨[.int .i64 a1_0,.int .i64 a1_1,.int .i64 a1_2,.int .i64 a1_3,.int .i64 a1_4,.int .i64 a1_5]⟩],[]=>some (true,.bool (f a0_0 a0_1 a0_2 a0_3 a0_4 a0_5 a1_0 a1_1 a1_2 a1_3 a1_4 a1_5),[])
  |_,_=>none
def culetref27_Inside.sp (f:Int→Int→Int→Int→(Bool)):HSpec
  |[.agg ⟨[.int .i64 a0_0,.int .i64 a0_1]⟩,.agg ⟨[.int .i64 a1_0,.int .i64 a1_1]⟩],[]=>some (true,.bool (f a0_0 a0_1 a1_0 a1_1),[])
  |_,_=>none
def culetref28_Inside.sp (f:Int→Int→Int→Int→Int→Int→Int→Int→Int→Int→Int→Int→(Bool)):HSpec
  |[.agg ⟨[.int .i64 a0_0,.int .i64 a0_1,.int .i64 a0_2,.int .i64 a0_3,.int .i64 a0_4,.int .i64 a0_5]⟩,.agg ⟨[.int .i64 a1_0,.int .i64 a1_1,.int .i64 a1_2,.int .i64 a1_3,.int .i64 a1_4,.int .i64 a1_5]⟩],[]=>some (true,.bool (f a0_0 a0_1 a0_2 a0_3 a0_4 a0_5 a1_0 a1_1 a1_2 a1_3 a1_4 a1_5),[])
  |_,_=>none
def culetlaw28_DirectionArithmetic.sp (f:Int→Int→Int→Int→Int→Int→Int→Int→Int→Int→Int→Int→Int→Int→(Bool)):HSpec
  |[.agg ⟨[.int .i64 a0_0,.int .i64 a0_1,.int .i64 a0_2,.int .i64 a0_3,.int .i64 a0_4,.int .i64 a0_5]⟩,.agg ⟨[.int .i64 a1_0,.int .i64 a1_1,.int .i64 a1_2,.int .i64 a1_3,.int .i64 a1_4,.int .i64 a1_5]⟩,.agg ⟨[.int .i64 a2_0,.int .i64 a2_1]⟩],[]=>some (true,.bool (f a0_0 a0_1 a0_2 a0_3 a0_4 a0_5 a1_0 a1_1 a1_2 a1_3 a1_4 a1_5 a2_0 a2_1),[])
  |_,_=>none
def direction_calc_two.sp (f_direction_calc_two_interval_Add:Int→Int→Int→Int→Int→(Int×Int×Int)) (f_direction_calc_two_interval_Sub:Int→Int→Int→Int→Int→(Int×Int×Int)) (f_direction_calc_two_interval_Mul:Int→Int→Int→Int→Int→(Int×Int×Int)) (f_direction_calc_two_interval_Div:Int→Int→Int→Int→Int→(Int×Int×Int)):HSpec
  |[.pointer (some ⟨0,0,none⟩),.func (.func 122) ⟨[]⟩ ⟨[]⟩,.agg ⟨[.int .i64 a2_0,.int .i64 a2_1]⟩,.agg ⟨[.int .i64 a3_0,.int .i64 a3_1]⟩],[.cs [.int .i64 s0_0] 98]=>some (true,.agg ⟨[.int .i64 (f_direction_calc_two_interval_Add s0_0 a2_0 a2_1 a3_0 a3_1).1,.int .i64 (f_direction_calc_two_interval_Add s0_0 a2_0 a2_1 a3_0 a3_1).2.1]⟩,[.cs [.int .i64 (f_direction_calc_two_interval_Add s0_0 a2_0 a2_1 a3_0 a3_1).2.2] 98])
  |[.pointer (some ⟨0,0,none⟩),.func (.func 124) ⟨[]⟩ ⟨[]⟩,.agg ⟨[.int .i64 a2_0,.int .i64 a2_1]⟩,.agg ⟨[.int .i64 a3_0,.int .i64 a3_1]⟩],[.cs [.int .i64 s0_0] 98]=>some (true,.agg ⟨[.int .i64 (f_direction_calc_two_interval_Sub s0_0 a2_0 a2_1 a3_0 a3_1).1,.int .i64 (f_direction_calc_two_interval_Sub s0_0 a2_0 a2_1 a3_0 a3_1).2.1]⟩,[.cs [.int .i64 (f_direction_calc_two_interval_Sub s0_0 a2_0 a2_1 a3_0 a3_1).2.2] 98])
  |[.pointer (some ⟨0,0,none⟩),.func (.func 127) ⟨[]⟩ ⟨[]⟩,.agg ⟨[.int .i64 a2_0,.int .i64 a2_1]⟩,.agg ⟨[.int .i64 a3_0,.int .i64 a3_1]⟩],[.cs [.int .i64 s0_0] 98]=>some (true,.agg ⟨[.int .i64 (f_direction_calc_two_interval_Mul s0_0 a2_0 a2_1 a3_0 a3_1).1,.int .i64 (f_direction_calc_two_interval_Mul s0_0 a2_0 a2_1 a3_0 a3_1).2.1]⟩,[.cs [.int .i64 (f_direction_calc_two_interval_Mul s0_0 a2_0 a2_1 a3_0 a3_1).2.2] 98])
  |[.pointer (some ⟨0,0,none⟩),.func (.func 123) ⟨[]⟩ ⟨[]⟩,.agg ⟨[.int .i64 a2_0,.int .i64 a2_1]⟩,.agg ⟨[.int .i64 a3_0,.int .i64 a3_1]⟩],[.cs [.int .i64 s0_0] 98]=>some (true,.agg ⟨[.int .i64 (f_direction_calc_two_interval_Div s0_0 a2_0 a2_1 a3_0 a3_1).1,.int .i64 (f_direction_calc_two_interval_Div s0_0 a2_0 a2_1 a3_0 a3_1).2.1]⟩,[.cs [.int .i64 (f_direction_calc_two_interval_Div s0_0 a2_0 a2_1 a3_0 a3_1).2.2] 98])
  |_,_=>none
end Go.Proofs.YtpejalpgficopaaGreatDoor.G
end
section
namespace Go.Proofs.YtpejalpgficopaaGreatDoor.G
open Go
theorem w64 {n:Int} (h: -9223372036854775808≤n) (h':n≤9223372036854775807):IntKind.i64.wrap n=n:=by
  simp only [IntKind.wrap,IntKind.signed,IntKind.bits]
  simp only [Bool.true_and]
  split
  · rename_i hc
    have:=of_decide_eq_true hc
    omega
  · rename_i hc
    have:¬(n%2^64≥2^(64-1)):=fun h=>hc (decide_eq_true h)
    omega
theorem bne_of {a b:Int} (h:a≠b):(a !=b)=true:=by simp [h]
theorem beq_of {a b:Int} (h:a≠b):(a==b)=false:=by simp [h]
theorem isSome_cond {α:Type} (b:Bool) (x y:Option α):(bif b then x else y).isSome=bif b then x.isSome else y.isSome:=by cases b<;>rfl
theorem bool_cond_true (b:Bool):(bif b then true else true)=true:=by cases b<;>rfl
end Go.Proofs.YtpejalpgficopaaGreatDoor.G
end
section
namespace Go.Proofs.YtpejalpgficopaaGreatDoor.G
open Go
set_option linter.unusedVariables false
def V (a b:Int):Bool:=decide (-1073741824≤a∧a≤b∧b≤1073741824)
theorem V_iff {a b:Int} :V a b=true↔ -1073741824≤a∧a≤b∧b≤1073741824:=by simp [V]
theorem V_not {a b:Int} :V a b=false↔¬(-1073741824≤a∧a≤b∧b≤1073741824):=by simp only [V,decide_eq_false_iff_not]
def chk (lo hi:Int):Int×Int×Int:=bif V lo hi then (lo,hi,0) else (0,0,3)
def cl (x y:Int):Int:= -((-x)/y)
def mn4 (x y z w:Int):Int:=min (min x y) (min z w)
def mx4 (x y z w:Int):Int:=max (max x y) (max z w)
def iadd (a b c d:Int):Int×Int×Int:=bif V a b&&V c d then chk (a+c) (b+d) else (0,0,1)
def isub (a b c d:Int):Int×Int×Int:=bif V a b&&V c d then chk (a-d) (b-c) else (0,0,1)
def imul (a b c d:Int):Int×Int×Int:=bif V a b&&V c d then chk (mn4 (a*c) (a*d) (b*c) (b*d)/16777216) (cl (mx4 (a*c) (a*d) (b*c) (b*d)) 16777216) else (0,0,1)
def pdiv (a b c d:Int):Int×Int×Int:=chk (min (a*16777216/c) (a*16777216/d)) (max (cl (b*16777216) c) (cl (b*16777216) d))
def idiv (a b c d:Int):Int×Int×Int:=bif V a b&&V c d then (if c≤0∧0≤d then (0,0,10) else if d<0 then pdiv (-b) (-a) (-d) (-c) else pdiv a b c d) else (0,0,1)
def isq (a b:Int):Int×Int×Int:=bif V a b then chk ((if a≤0∧0≤b then 0 else min (a*a) (b*b))/16777216) (cl (max (a*a) (b*b)) 16777216) else (0,0,1)
def cut (x:Int):Int:=max 0 (min 16777216 x)
theorem mul_bnd {x y A B:Int} (hA:0≤A) (hB:0≤B) (h1: -A≤x) (h2:x≤A) (h3: -B≤y) (h4:y≤B): -(A*B)≤x*y∧x*y≤A*B:=by
  have key:(x*y).natAbs≤A.natAbs*B.natAbs:=by
    rw [Int.natAbs_mul]
    exact Nat.mul_le_mul (by omega) (by omega)
  have h5:((A.natAbs*B.natAbs:Nat):Int)=A*B:=by
    rw [Int.natCast_mul,Int.natAbs_of_nonneg hA,Int.natAbs_of_nonneg hB]
  omega
theorem mul_bnd30 {x y:Int} (h1: -1073741824≤x) (h2:x≤1073741824) (h3: -1073741824≤y) (h4:y≤1073741824): -1152921504606846976≤x*y∧x*y≤1152921504606846976:=by
  have:=mul_bnd (A:=1073741824) (B:=1073741824) (by omega) (by omega) h1 h2 h3 h4
  omega
theorem fl_mono {x y k:Int} (hk:0<k) (h:x≤y):x/k≤y/k:=Int.ediv_le_ediv hk h
theorem fl_spec {x k:Int} (hk:0<k):x/k*k≤x∧x<x/k*k+k:=by
  have h1:=Int.emod_add_mul_ediv x k
  have h2:=Int.emod_nonneg x (show k≠0 by omega)
  have h3:=Int.emod_lt_of_pos x hk
  rw [Int.mul_comm] at h1
  omega
theorem cl_spec {x k:Int} (hk:0<k):x≤cl x k*k∧cl x k*k<x+k:=by
  have:=fl_spec (x:= -x) hk
  simp only [cl,Int.neg_mul]
  omega
theorem fl_le_cl {x k:Int} (hk:0<k):x/k≤cl x k:=by
  have h1:=fl_spec (x:=x) hk
  have h2:=cl_spec (x:=x) hk
  exact Int.le_of_mul_le_mul_right (a:=k) (by omega) hk
theorem fl_le_cl' {x y k:Int} (hk:0<k) (h:x≤y):x/k≤cl y k:=Int.le_trans (fl_mono hk h) (fl_le_cl hk)
theorem le_fl {x k q:Int} (hk:0<k):q≤x/k↔q*k≤x:=Int.le_ediv_iff_mul_le hk
theorem fl_nonneg {x k:Int} (hk:0<k) (h:0≤x):0≤x/k:=by
  have:=fl_mono hk h
  simpa using this
theorem chk_eq (lo hi:Int):chk lo hi=(lo,hi,0)∧V lo hi=true∨chk lo hi=(0,0,3)∧V lo hi=false:=by
  unfold chk
  cases V lo hi<;>simp
theorem tdiv_bnd {a b:Int} (hb:0<b) (h1: -4611686018427387904≤a) (h2:a≤4611686018427387904): -4611686018427387904≤a/b∧a/b≤4611686018427387904:=by
  constructor
  · rw [le_fl hb]
    have:(4611686018427387904:Int)*1≤4611686018427387904*b:=Int.mul_le_mul_of_nonneg_left (by omega) (by omega)
    omega
  · by_cases ha:0≤a
    · exact Int.le_trans (Int.ediv_le_self b ha) h2
    · have:=fl_mono (x:=a) (y:=0) hb (by omega)
      have:(0:Int)/b=0:=Int.zero_ediv b
      omega
theorem mnE (x y:Int):(if y<x then y else x)=min x y:=by split<;>omega
theorem mxE (x y:Int):(if y>x then y else x)=max x y:=by split<;>omega
def kp (s:Int) (e:Int):Int:=bif s==0 then e else s
theorem kp0 (e:Int):kp 0 e=e:=rfl
theorem kpn {s:Int} (e:Int) (h:s≠0):kp s e=s:=by simp [kp,beq_of h]
end Go.Proofs.YtpejalpgficopaaGreatDoor.G
end
section
namespace Go.Proofs.YtpejalpgficopaaGreatDoor.G
open Go
set_option linter.unusedVariables false
def bnd (r:Int×Int×Int) (k:Int→Int→Int×Int×Int):Int×Int×Int:=bif r.2.2 !=0 then (0,0,r.2.2) else k r.1 r.2.1
def fin (r:Int×Int×Int):Int×Int×Int:=bnd r fun x y=>(cut x,cut y,0)
def wn (a b k l:Int):Bool:=V a b&&(decide (k*16777216≤a)&&decide (b≤l*16777216))
def shr (p0 p1 q0 q1:Int):Int×Int×Int:=bnd (isub p0 p1 q0 q1) fun d0 d1=>bnd (iadd p0 p1 q0 q1) fun s0 s1=>bnd (idiv d0 d1 s0 s1) fun x0 x1=>fin (isq x0 x1)
def srf (a0 a1 a2 a3 a4 a5 a6 a7:Int):Bool:=wn a0 a1 0 1&&(wn a2 a3 0 1&&(wn a4 a5 1 4&&wn a6 a7 1 4))
def pol (a0 a1 a2 a3 a4 a5 a6 a7 x0 x1 y0 y1:Int):Int×Int×Int:=bif srf a0 a1 a2 a3 a4 a5 a6 a7 then bnd (imul a4 a5 x0 x1) (fun p0 p1=>bnd (imul a6 a7 y0 y1) fun q0 q1=>shr p0 p1 q0 q1) else (0,0,1)
def mean (r s:Int×Int×Int):Int×Int×Int:=bnd r fun p0 p1=>bnd s fun q0 q1=>bnd (iadd p0 p1 q0 q1) fun s0 s1=>fin (imul s0 s1 8388608 8388608)
def refl (a0 a1 a2 a3 a4 a5 a6 a7:Int):Int×Int×Int:=mean (pol a0 a1 a2 a3 a4 a5 a6 a7 a0 a1 a2 a3) (pol a0 a1 a2 a3 a4 a5 a6 a7 a2 a3 a0 a1)
def In (a b c d:Int):Prop:=c≤a∧a≤b∧b≤d
theorem In.v {a b c d:Int} (h:In a b c d) (hv:V c d=true):V a b=true:=by
  have:=V_iff.1 hv
  unfold In at h
  exact V_iff.2 (by omega)
end Go.Proofs.YtpejalpgficopaaGreatDoor.G
end
section
namespace Go.Proofs.YtpejalpgficopaaGreatDoor.G
open Go
set_option linter.unusedVariables false
inductive Re (α:Type) where
  |er (e:Int):Re α
  |ok (a:α):Re α
def Re.bind {α β:Type} (r:Re α) (k:α→Re β):Re β:=match r with| .er e=> .er e| .ok a=>k a
theorem bind_er {α β:Type} (e:Int) (k:α→Re β):(Re.er e).bind k= .er e:=rfl
theorem bind_ok {α β:Type} (a:α) (k:α→Re β):(Re.ok a).bind k=k a:=rfl
theorem bind_inv {α β:Type} {r:Re α} {k:α→Re β} {b:β} (h:r.bind k= .ok b):∃a,r= .ok a∧k a= .ok b:=by
  cases r with
  |er e=>cases h
  |ok a=>exact ⟨a,rfl,h⟩
abbrev I2:=Int×Int
abbrev Bx:=I2×I2×I2
def t3 (r:Int×Int×Int):Re I2:=bif r.2.2 !=0 then .er r.2.2 else .ok (r.1,r.2.1)
def o3:Re I2→Int×Int×Int
  | .er e=>(0,0,e)
  | .ok x=>(x.1,x.2,0)
def o7:Re Bx→Int×Int×Int×Int×Int×Int×Int
  | .er e=>(0,0,0,0,0,0,e)
  | .ok x=>(x.1.1,x.1.2,x.2.1.1,x.2.1.2,x.2.2.1,x.2.2.2,0)
theorem t3_ok {a b:Int} :t3 (a,b,0)= .ok (a,b):=rfl
theorem t3_er {a b e:Int} (h:e≠0):t3 (a,b,e)= .er e:=by simp [t3,bne_of h]
theorem t3_inv {r:Int×Int×Int} {x:I2} (h:t3 r= .ok x):r=(x.1,x.2,0):=by
  obtain ⟨a,b,e⟩:=r
  by_cases he:e=0
  · subst he; rw [t3_ok] at h; injection h with h; subst h; rfl
  · rw [t3_er he] at h; cases h
def addR (x y:I2):Re I2:=t3 (iadd x.1 x.2 y.1 y.2)
def subR (x y:I2):Re I2:=t3 (isub x.1 x.2 y.1 y.2)
def mulR (x y:I2):Re I2:=t3 (imul x.1 x.2 y.1 y.2)
def V2 (x:I2):Bool:=V x.1 x.2
def VB (a:Bx):Bool:=V2 a.1&&(V2 a.2.1&&V2 a.2.2)
def dzip (f:I2→I2→Re I2) (a b:Bx):Re Bx:=(f a.1 b.1).bind fun x=>(f a.2.1 b.2.1).bind fun y=>(f a.2.2 b.2.2).bind fun z=> .ok (x,y,z)
def dadd (a b:Bx):Re Bx:=bif VB a&&VB b then dzip addR a b else .er 1
def dsub (a b:Bx):Re Bx:=bif VB a&&VB b then dzip subR a b else .er 1
def dscale (a:Bx) (k:I2):Re Bx:=bif VB a&&V2 k then dzip mulR a (k,k,k) else .er 1
def ddot (a b:Bx):Re I2:=bif VB a&&VB b then (mulR a.1 b.1).bind fun x=>(mulR a.2.1 b.2.1).bind fun y=>(mulR a.2.2 b.2.2).bind fun z=>(addR x y).bind fun s=>addR s z else .er 1
def S2 (x X:I2):Prop:=In x.1 x.2 X.1 X.2∧V X.1 X.2=true
def SB (a A:Bx):Prop:=S2 a.1 A.1∧S2 a.2.1 A.2.1∧S2 a.2.2 A.2.2
def Inc {α:Type} (rel:α→α→Prop) (r R:Re α):Prop:=∀A,R= .ok A→∃a,r= .ok a∧rel a A
theorem Inc.ok {α:Type} {rel:α→α→Prop} {a A:α} (h:rel a A):Inc rel (.ok a) (.ok A):=fun _ hA=>by
  injection hA with hA; subst hA; exact ⟨a,rfl,h⟩
theorem Inc.bind {α β:Type} {rel:α→α→Prop} {rel':β→β→Prop} {r R:Re α} {k K:α→Re β} (h:Inc rel r R) (hk:∀a A,rel a A→Inc rel' (k a) (K A)):Inc rel' (r.bind k) (R.bind K):=fun B hB=>by
  obtain ⟨A,h1,h2⟩:=bind_inv hB
  obtain ⟨a,e1,e2⟩:=h A h1
  obtain ⟨b,e3,e4⟩:=hk a A e2 B h2
  exact ⟨b,by rw [e1]; exact e3,e4⟩
theorem Inc.t3 {r R:Int×Int×Int} (h:∀L H,R=(L,H,0)→∃l u,r=(l,u,0)∧In l u L H∧V L H=true):Inc S2 (t3 r) (t3 R):=fun A hA=>by
  obtain ⟨l,u,h1,h2,h3⟩:=h _ _ (t3_inv hA)
  exact ⟨(l,u),by rw [h1]; rfl,h2,h3⟩
theorem S2.v {x X:I2} (h:S2 x X):V2 x=true:=h.1.v h.2
theorem SB.v {a A:Bx} (h:SB a A):VB a=true:=by simp only [VB,h.1.v,h.2.1.v,h.2.2.v,Bool.and_self]
theorem S2.refl {x:I2} (h:V2 x=true):S2 x x:=⟨by have:=V_iff.1 h; unfold In; omega,h⟩
theorem cond_inv {α:Type} {b:Bool} {x y:Re α} {A:α} {e:Int} (hy:y= .er e) (h:(bif b then x else y)= .ok A):b=true∧x= .ok A:=by
  cases b with
  |true=>exact ⟨rfl,h⟩
  |false=>rw [hy] at h; cases h
theorem Inc.cond {α:Type} {rel:α→α→Prop} {b B:Bool} {r R:Re α} {e e':Int} (hb:b=true) (h:Inc rel r R):Inc rel (bif b then r else .er e) (bif B then R else .er e'):=fun A hA=>by
  obtain ⟨_,h2⟩:=cond_inv rfl hA
  obtain ⟨a,h3,h4⟩:=h A h2
  exact ⟨a,by rw [hb]; exact h3,h4⟩
def Lim {α:Type} (P:α→Prop) (r:Re α):Prop:=(∃a,r= .ok a∧P a)∨r= .er 3
theorem Lim.bind {α β:Type} {P:α→Prop} {Q:β→Prop} {r:Re α} {k:α→Re β} (h:Lim P r) (hk:∀a,P a→Lim Q (k a)):Lim Q (r.bind k):=by
  rcases h with ⟨a,e,hp⟩|e
  · rw [e,bind_ok]; exact hk a hp
  · rw [e]; exact Or.inr rfl
theorem Lim.ok {α:Type} {P:α→Prop} {a:α} (h:P a):Lim P (.ok a):=Or.inl ⟨a,rfl,h⟩
theorem Lim.chk (a b:Int):Lim (fun x=>V2 x=true) (G.t3 (chk a b)):=by
  rcases chk_eq a b with ⟨h,hv⟩|⟨h,hv⟩<;>rw [h]
  · exact Or.inl ⟨(a,b),rfl,hv⟩
  · exact Or.inr rfl
theorem VB_iff {a:Bx} :VB a=true↔V2 a.1=true∧V2 a.2.1=true∧V2 a.2.2=true:=by simp only [VB,Bool.and_eq_true]
def Nz {α:Type} (r:Re α):Prop:=∀e,r= .er e→e≠0
theorem Nz.cases {α:Type} {r:Re α} (h:Nz r):(∃x,r= .ok x)∨∃e,e≠0∧r= .er e:=by
  cases r with
  |er e=>exact Or.inr ⟨e,h e rfl,rfl⟩
  |ok x=>exact Or.inl ⟨x,rfl⟩
theorem Nz.ok {α:Type} {a:α} :Nz (.ok a):=fun e h=>by cases h
theorem Nz.er {α:Type} {e:Int} (h:e≠0):Nz (.er e:Re α):=fun e' h'=>by injection h' with h'; subst h'; exact h
theorem Nz.bind {α β:Type} {r:Re α} {k:α→Re β} (h:Nz r) (hk:∀a,Nz (k a)):Nz (r.bind k):=by
  rcases h.cases with ⟨x,e⟩|⟨e,he,e1⟩
  · rw [e]; exact hk x
  · rw [e1]; exact Nz.er he
theorem Nz.t3 (r:Int×Int×Int):Nz (G.t3 r):=by
  obtain ⟨a,b,e⟩:=r
  by_cases he:e=0
  · subst he; exact Nz.ok
  · rw [t3_er he]; exact Nz.er he
theorem Nz.cond {α:Type} {b:Bool} {x y:Re α} (h:Nz x) (h':Nz y):Nz (bif b then x else y):=by cases b; exact h'; exact h
theorem Nz.one {α:Type} :Nz (.er 1:Re α):=Nz.er (by decide)
def o2:Re Int→Int×Int
  | .er e=>(0,e)
  | .ok x=>(x,0)
def o11:Re (Bx×I2×I2)→Int×Int×Int×Int×Int×Int×Int×Int×Int×Int×Int
  | .er e=>(0,0,0,0,0,0,0,0,0,0,e)
  | .ok x=>(x.1.1.1,x.1.1.2,x.1.2.1.1,x.1.2.1.2,x.1.2.2.1,x.1.2.2.2,x.2.1.1,x.2.1.2,x.2.2.1,x.2.2.2,0)
def st (s a b:Int) (r:Int×Int×Int):Int×Int×Int:=bif s !=0 then (a,b,s) else r
theorem st0 (a b:Int) (r:Int×Int×Int):st 0 a b r=r:=rfl
theorem stE {s:Int} (h:s≠0) (a b:Int) (r:Int×Int×Int):st s a b r=(a,b,s):=by simp [st,bne_of h]
def kr (s:Int) (r:Int×Int×Int):Int×Int×Int:=(r.1,r.2.1,kp s r.2.2)
theorem kr0 (r:Int×Int×Int):kr 0 r=r:=rfl
theorem krE {s:Int} (h:s≠0) (r:Int×Int×Int):kr s r=(r.1,r.2.1,s):=by simp [kr,kpn _ h]
theorem t3c (r:Int×Int×Int):(∃x y,r=(x,y,0))∨∃x y e,e≠0∧r=(x,y,e):=by
  obtain ⟨a,b,e⟩:=r
  by_cases he:e=0
  · subst he; exact Or.inl ⟨_,_,rfl⟩
  · exact Or.inr ⟨_,_,_,he,rfl⟩
def st7 (s:Int) (a:Bx) (r:Re Bx):Int×Int×Int×Int×Int×Int×Int:=bif s !=0 then (a.1.1,a.1.2,a.2.1.1,a.2.1.2,a.2.2.1,a.2.2.2,s) else o7 r
theorem st70 (a:Bx) (r:Re Bx):st7 0 a r=o7 r:=rfl
theorem st7E {s:Int} (h:s≠0) (a:Bx) (r:Re Bx):st7 s a r=(a.1.1,a.1.2,a.2.1.1,a.2.1.2,a.2.2.1,a.2.2.2,s):=by simp [st7,bne_of h]
theorem V2_mk (a b:Int):V2 (a,b)=V a b:=rfl
end Go.Proofs.YtpejalpgficopaaGreatDoor.G
end
section
namespace Go.Proofs.YtpejalpgficopaaGreatDoor.G
open Go Go.Proofs RX
set_option linter.unusedVariables false
def mn (x y:Int):Int:=if y<x then y else x
def mx (x y:Int):Int:=if y>x then y else x
theorem mn_eq (x y:Int):mn x y=min x y:=by unfold mn; split<;>omega
theorem mx_eq (x y:Int):mx x y=max x y:=by unfold mx; split<;>omega
def interval_extremes.sp:HSpec
  |[.slice (some ⟨0,0,none⟩) 2 2],[.cs [.int .i64 a,.int .i64 b] 3]=>some (true,.tuple ⟨[.int .i64 (mn (mn a a) b),.int .i64 (mx (mx a a) b)]⟩,[.cs [.int .i64 a,.int .i64 b] 3])
  |[.slice (some ⟨0,0,none⟩) 4 4],[.cs [.int .i64 a,.int .i64 b,.int .i64 c,.int .i64 d] 3]=>some (true,.tuple ⟨[.int .i64 (mn (mn (mn (mn a a) b) c) d),.int .i64 (mx (mx (mx (mx a a) b) c) d)]⟩,[.cs [.int .i64 a,.int .i64 b,.int .i64 c,.int .i64 d] 3])
  |_,_=>none
theorem extremes2 (a b:Int):xfn Tryz.prog ⟨[],[],[]⟩ [] 10 Tryz.f117 [.slice (some ⟨0,0,none⟩) 2 2] [.cs [.int .i64 a,.int .i64 b] 3]=some (.tuple ⟨[.int .i64 (mn (mn a a) b),.int .i64 (mx (mx a a) b)]⟩,[.cs [.int .i64 a,.int .i64 b] 3]):=by kernel_rfl
theorem extremes4 (a b c d:Int):xfn Tryz.prog ⟨[],[],[]⟩ [] 10 Tryz.f117 [.slice (some ⟨0,0,none⟩) 4 4] [.cs [.int .i64 a,.int .i64 b,.int .i64 c,.int .i64 d] 3]=some (.tuple ⟨[.int .i64 (mn (mn (mn (mn a a) b) c) d),.int .i64 (mx (mx (mx (mx a a) b) c) d)]⟩,[.cs [.int .i64 a,.int .i64 b,.int .i64 c,.int .i64 d] 3]):=by kernel_rfl
theorem interval_extremes.ok:SOK Tryz.prog 117 interval_extremes.sp:=by
  refine sok_of (E:=⟨[],[],[]⟩) ⟨specs_nil,inl_nil,mixed_ok,lps_nil⟩ 10 Tryz.func117 (by decide) rfl no_loops fun vs bl v bl' h=> ?_
  unfold interval_extremes.sp at h
  split at h
  · simp only [Option.some.injEq,Prod.mk.injEq,true_and] at h
    obtain ⟨rfl,rfl⟩:=h
    exact ⟨extremes2 _ _,by simp [okV,Nat.blt],clo_spec 8 _ rfl,told_blk rfl⟩
  · simp only [Option.some.injEq,Prod.mk.injEq,true_and] at h
    obtain ⟨rfl,rfl⟩:=h
    exact ⟨extremes4 _ _ _ _,by simp [okV,Nat.blt],clo_spec 8 _ rfl,told_blk rfl⟩
  · cases h
end Go.Proofs.YtpejalpgficopaaGreatDoor.G
end
section
namespace Go.Proofs.YtpejalpgficopaaGreatDoor.G
open Go Go.Proofs RX
set_option linter.unusedVariables false
set_option linter.unusedSimpArgs false
def root.tree (n r bit:Int) (d1 z d5 d6 d7 d8 d9 d10 d11 d12 d13 d14 d15 d16 d17 d18 d19:Value):Option (X×List Value×Heap):=
  bif decide (bit>0) then
    bif IntKind.i64.wrap (r+bit) !=0 then
      bif decide (IntKind.i64.wrap (r+bit)≤IntKind.i64.wrap (n.tdiv (IntKind.i64.wrap (r+bit)))) then
        some (.normal,[.int .i64 n,d1,z,.int .i64 (IntKind.i64.wrap (r+bit)),.int .i64 (bit.fdiv (2^min (Int.toNat 1) IntKind.i64.bits)),.int .i64 (IntKind.i64.wrap (r+bit)),.int .i64 bit,.bool true,.int .i64 bit,.int .i64 (bit.fdiv (2^min (Int.toNat 1) IntKind.i64.bits)),.int .i64 r,.int .i64 bit,.int .i64 (IntKind.i64.wrap (r+bit)),.int .i64 (IntKind.i64.wrap (r+bit)),.int .i64 n,.int .i64 (IntKind.i64.wrap (r+bit)),.int .i64 (IntKind.i64.wrap (n.tdiv (IntKind.i64.wrap (r+bit)))),.bool true,.int .i64 (IntKind.i64.wrap (r+bit)),d19],[])
      else
        some (.normal,[.int .i64 n,d1,z,.int .i64 r,.int .i64 (bit.fdiv (2^min (Int.toNat 1) IntKind.i64.bits)),.int .i64 (IntKind.i64.wrap (r+bit)),.int .i64 bit,.bool true,.int .i64 bit,.int .i64 (bit.fdiv (2^min (Int.toNat 1) IntKind.i64.bits)),.int .i64 r,.int .i64 bit,.int .i64 (IntKind.i64.wrap (r+bit)),.int .i64 (IntKind.i64.wrap (r+bit)),.int .i64 n,.int .i64 (IntKind.i64.wrap (r+bit)),.int .i64 (IntKind.i64.wrap (n.tdiv (IntKind.i64.wrap (r+bit)))),.bool false,d18,d19],[])
    else
      none
  else
    some (.exit 0,[.int .i64 n,d1,z,.int .i64 r,.int .i64 bit,d5,.int .i64 bit,.bool false,d8,d9,d10,d11,d12,d13,d14,d15,d16,d17,d18,d19],[])
theorem root.round (n r bit:Int) (d1 z d5 d6 d7 d8 d9 d10 d11 d12 d13 d14 d15 d16 d17 d18 d19:Value) (nx:Nat):exec Tryz.prog ⟨[],[],[]⟩ [] (hs Tryz.prog ⟨[],[],[]⟩ 3).lf (hs Tryz.prog ⟨[],[],[]⟩ 3).cf (loopCode Tryz.f130 0) ⟨[.int .i64 n,d1,z,.int .i64 r,.int .i64 bit,d5,d6,d7,d8,d9,d10,d11,d12,d13,d14,d15,d16,d17,d18,d19],[],nx⟩ (fun x S=>some (x,S.tmps,S.heap))=root.tree n r bit d1 z d5 d6 d7 d8 d9 d10 d11 d12 d13 d14 d15 d16 d17 d18 d19:=by kernel_rfl
def root.fin:Nat→List Value→List Value
  |0,T=>T
  | k+1,[.int .i64 n,d1,z,.int .i64 r,.int .i64 bit,d5,d6,d7,d8,d9,d10,d11,d12,d13,d14,d15,d16,d17,d18,d19]=>(match root.tree n r bit d1 z d5 d6 d7 d8 d9 d10 d11 d12 d13 d14 d15 d16 d17 d18 d19 with
    |some (.normal,T,_)=>root.fin k T
    |some (_,T,_)=>T
    |none=>[])
  |_+1,T=>T
def rroot.tree (n r bit:Int) (d1 z d5 d6 d7 d8 d9 d10 d11 d12 d13 d14 d15 d16 d17 d18 d19 d20 d21 d22 d23 d24:Value):Option (X×List Value×Heap):=
  bif decide (bit≥0) then
    bif decide (0≤bit) then
      bif decide (IntKind.i64.wrap (r+IntKind.i64.wrap (1*2^min bit.toNat IntKind.i64.bits))≤3037000499) then
        bif decide (IntKind.i64.wrap (IntKind.i64.wrap (r+IntKind.i64.wrap (1*2^min bit.toNat IntKind.i64.bits))*IntKind.i64.wrap (r+IntKind.i64.wrap (1*2^min bit.toNat IntKind.i64.bits)))≤n) then
          some (.normal,[.int .i64 n,d1,z,.int .i64 (IntKind.i64.wrap (r+IntKind.i64.wrap (1*2^min bit.toNat IntKind.i64.bits))),.int .i64 (IntKind.i64.wrap (bit-1)),.int .i64 (IntKind.i64.wrap (r+IntKind.i64.wrap (1*2^min bit.toNat IntKind.i64.bits))),.int .i64 bit,.bool true,.int .i64 bit,.int .i64 (IntKind.i64.wrap (bit-1)),.int .i64 r,.int .i64 bit,.int .i64 (IntKind.i64.wrap (1*2^min bit.toNat IntKind.i64.bits)),.int .i64 (IntKind.i64.wrap (r+IntKind.i64.wrap (1*2^min bit.toNat IntKind.i64.bits))),.int .i64 (IntKind.i64.wrap (r+IntKind.i64.wrap (1*2^min bit.toNat IntKind.i64.bits))),.bool (decide (IntKind.i64.wrap (r+IntKind.i64.wrap (1*2^min bit.toNat IntKind.i64.bits))≤3037000499)),.bool true,.int .i64 (IntKind.i64.wrap (r+IntKind.i64.wrap (1*2^min bit.toNat IntKind.i64.bits))),.int .i64 (IntKind.i64.wrap (r+IntKind.i64.wrap (1*2^min bit.toNat IntKind.i64.bits))),.int .i64 (IntKind.i64.wrap (IntKind.i64.wrap (r+IntKind.i64.wrap (1*2^min bit.toNat IntKind.i64.bits))*IntKind.i64.wrap (r+IntKind.i64.wrap (1*2^min bit.toNat IntKind.i64.bits)))),.int .i64 n,.bool (decide (IntKind.i64.wrap (IntKind.i64.wrap (r+IntKind.i64.wrap (1*2^min bit.toNat IntKind.i64.bits))*IntKind.i64.wrap (r+IntKind.i64.wrap (1*2^min bit.toNat IntKind.i64.bits)))≤n)),.bool true,.int .i64 (IntKind.i64.wrap (r+IntKind.i64.wrap (1*2^min bit.toNat IntKind.i64.bits))),d24],[])
        else
          some (.normal,[.int .i64 n,d1,z,.int .i64 r,.int .i64 (IntKind.i64.wrap (bit-1)),.int .i64 (IntKind.i64.wrap (r+IntKind.i64.wrap (1*2^min bit.toNat IntKind.i64.bits))),.int .i64 bit,.bool true,.int .i64 bit,.int .i64 (IntKind.i64.wrap (bit-1)),.int .i64 r,.int .i64 bit,.int .i64 (IntKind.i64.wrap (1*2^min bit.toNat IntKind.i64.bits)),.int .i64 (IntKind.i64.wrap (r+IntKind.i64.wrap (1*2^min bit.toNat IntKind.i64.bits))),.int .i64 (IntKind.i64.wrap (r+IntKind.i64.wrap (1*2^min bit.toNat IntKind.i64.bits))),.bool (decide (IntKind.i64.wrap (r+IntKind.i64.wrap (1*2^min bit.toNat IntKind.i64.bits))≤3037000499)),.bool true,.int .i64 (IntKind.i64.wrap (r+IntKind.i64.wrap (1*2^min bit.toNat IntKind.i64.bits))),.int .i64 (IntKind.i64.wrap (r+IntKind.i64.wrap (1*2^min bit.toNat IntKind.i64.bits))),.int .i64 (IntKind.i64.wrap (IntKind.i64.wrap (r+IntKind.i64.wrap (1*2^min bit.toNat IntKind.i64.bits))*IntKind.i64.wrap (r+IntKind.i64.wrap (1*2^min bit.toNat IntKind.i64.bits)))),.int .i64 n,.bool (decide (IntKind.i64.wrap (IntKind.i64.wrap (r+IntKind.i64.wrap (1*2^min bit.toNat IntKind.i64.bits))*IntKind.i64.wrap (r+IntKind.i64.wrap (1*2^min bit.toNat IntKind.i64.bits)))≤n)),.bool false,d23,d24],[])
      else
        some (.normal,[.int .i64 n,d1,z,.int .i64 r,.int .i64 (IntKind.i64.wrap (bit-1)),.int .i64 (IntKind.i64.wrap (r+IntKind.i64.wrap (1*2^min bit.toNat IntKind.i64.bits))),.int .i64 bit,.bool true,.int .i64 bit,.int .i64 (IntKind.i64.wrap (bit-1)),.int .i64 r,.int .i64 bit,.int .i64 (IntKind.i64.wrap (1*2^min bit.toNat IntKind.i64.bits)),.int .i64 (IntKind.i64.wrap (r+IntKind.i64.wrap (1*2^min bit.toNat IntKind.i64.bits))),.int .i64 (IntKind.i64.wrap (r+IntKind.i64.wrap (1*2^min bit.toNat IntKind.i64.bits))),.bool (decide (IntKind.i64.wrap (r+IntKind.i64.wrap (1*2^min bit.toNat IntKind.i64.bits))≤3037000499)),.bool false,.tuple ⟨[]⟩,.tuple ⟨[]⟩,.tuple ⟨[]⟩,.tuple ⟨[]⟩,.tuple ⟨[]⟩,.bool false,d23,d24],[])
    else
      none
  else
    some (.exit 0,[.int .i64 n,d1,z,.int .i64 r,.int .i64 bit,d5,.int .i64 bit,.bool false,d8,d9,d10,d11,d12,d13,d14,d15,d16,d17,d18,d19,d20,d21,d22,d23,d24],[])
theorem rroot.round (n r bit:Int) (d1 z d5 d6 d7 d8 d9 d10 d11 d12 d13 d14 d15 d16 d17 d18 d19 d20 d21 d22 d23 d24:Value) (nx:Nat):exec Tryz.prog ⟨[],[],[]⟩ [] (hs Tryz.prog ⟨[],[],[]⟩ 3).lf (hs Tryz.prog ⟨[],[],[]⟩ 3).cf (loopCode Tryz.f181 0) ⟨[.int .i64 n,d1,z,.int .i64 r,.int .i64 bit,d5,d6,d7,d8,d9,d10,d11,d12,d13,d14,d15,d16,d17,d18,d19,d20,d21,d22,d23,d24],[],nx⟩ (fun x S=>some (x,S.tmps,S.heap))=rroot.tree n r bit d1 z d5 d6 d7 d8 d9 d10 d11 d12 d13 d14 d15 d16 d17 d18 d19 d20 d21 d22 d23 d24:=by kernel_rfl
def rroot.fin:Nat→List Value→List Value
  |0,T=>T
  | k+1,[.int .i64 n,d1,z,.int .i64 r,.int .i64 bit,d5,d6,d7,d8,d9,d10,d11,d12,d13,d14,d15,d16,d17,d18,d19,d20,d21,d22,d23,d24]=>(match rroot.tree n r bit d1 z d5 d6 d7 d8 d9 d10 d11 d12 d13 d14 d15 d16 d17 d18 d19 d20 d21 d22 d23 d24 with
    |some (.normal,T,_)=>rroot.fin k T
    |some (_,T,_)=>T
    |none=>[])
  |_+1,T=>T
end Go.Proofs.YtpejalpgficopaaGreatDoor.G
end
section
namespace RX
open Go Go.RowKit
set_option linter.unusedVariables false
def namesV:Nat→Value→List Nat
  |0,_=>[]
  | n+1,v=>
    match v with
    | .pointer (some ⟨b,_,none⟩)=>[b]
    | .slice (some ⟨b,_,none⟩) _ _=>[b]
    | .agg ⟨cs⟩=>cs.foldr (fun c l=>namesV n c++l) []
    | .tuple ⟨cs⟩=>cs.foldr (fun c l=>namesV n c++l) []
    | .func _ ⟨f⟩ ⟨c⟩=>f.foldr (fun c l=>namesV n c++l) (c.foldr (fun c l=>namesV n c++l) [])
    | .iface _ v=>namesV n v
    |_=>[]
def fromN (m:Nat):List Nat→List Nat
  |[]=>[]
  |x::r=>bif Nat.ble m x then x::fromN m r else fromN m r
theorem mem_fromN {m x:Nat} :∀ {l:List Nat},x∈fromN m l→m≤x∧x∈l
  |[],h=>by simp [fromN] at h
  | y ::r,h=>by
    simp only [fromN] at h
    cases hb:Nat.ble m y with
    | true=>
      rw [hb] at h
      simp only [cond_true,List.mem_cons] at h
      rcases h with rfl|h
      · exact ⟨Nat.le_of_ble_eq_true hb,by simp⟩
      · exact ⟨(mem_fromN h).1,by simp [(mem_fromN h).2]⟩
    | false=>
      rw [hb] at h
      exact ⟨(mem_fromN h).1,by simp [(mem_fromN h).2]⟩
theorem nodup_fromN {m:Nat} :∀ {l:List Nat},l.Nodup→(fromN m l).Nodup
  |[],_=>by simp [fromN]
  | y::r,h=>by
    simp only [List.nodup_cons] at h
    simp only [fromN]
    cases hb:Nat.ble m y with
    |true=>simp only [cond_true,List.nodup_cons]; exact ⟨fun hm=>h.1 (mem_fromN hm).2,nodup_fromN h.2⟩
    |false=>exact nodup_fromN h.2
def sg (m:Nat) (rn:List Nat) (i:Nat):Nat:=bif Nat.blt i m then i else m+idx i rn
def okM (m:Nat) (rn:List Nat) (i:Nat):Bool:=Nat.blt i m||memN i rn
theorem rho_sg {m:Nat} {rn:List Nat} {i:Nat} (h:okM m rn i=true):rho m rn (sg m rn i)=i:=by
  unfold okM at h
  unfold sg
  cases hb:Nat.blt i m with
  | true=>
    have:i<m:=by simpa [Nat.blt_eq] using hb
    simp [rho,this]
  | false=>
    rw [hb] at h
    simp only [Bool.false_or] at h
    have:=idx_get (memN_spec.1 h)
    simp only [cond_false,rho]
    rw [if_neg (by omega),List.getD_eq_getElem?_getD,show m+idx i rn-m=idx i rn from by omega,this]
    rfl
def okW (p:Nat→Bool):Nat→Value→Bool
  |0,_=>false
  | n+1,v=>
    match v with
    | .bool _| .int _ _| .float _ _| .complex _ _ _| .string _| .nilFunc| .nilIface=>true
    | .pointer none=>true
    | .pointer (some ⟨b,_,none⟩)=>p b
    | .slice none _ _=>true
    | .slice (some ⟨b,_,none⟩) _ _=>p b
    | .agg ⟨cs⟩=>cs.all (okW p n)
    | .tuple ⟨cs⟩=>cs.all (okW p n)
    | .func _ ⟨f⟩ ⟨c⟩=>f.all (okW p n)&&c.all (okW p n)
    | .iface _ v=>okW p n v
    |_=>false
theorem okW_comp {p:Nat→Bool} {g h k:Nat→Nat} (e:∀i,p i=true→g (h i)=k i):∀(n:Nat) (v:Value),okW p n v=true→ren g (ren h v)=ren k v:=by
  intro n
  induction n with
  |zero=>intro v hv; simp [okW] at hv
  | succ n ih=>
    have hl:∀l:List Value,l.all (okW p n)=true→(l.map (ren h)).map (ren g)=l.map (ren k):=fun l hl=>by
      rw [List.all_eq_true] at hl
      rw [List.map_map]
      exact List.map_congr_left fun v hv=>ih v (hl v hv)
    intro v hv
    unfold okW at hv
    split at hv
    all_goals try simp only [ren_bool,ren_int,ren_string,ren_nilFunc,ren_nilIface,ren_nilptr,ren_nilslice]
    · simp [ren]
    · simp [ren]
    · simp [e _ hv]
    · simp [e _ hv]
    · rw [ren_agg,ren_agg,ren_agg,hl _ hv]
    · rw [ren_tuple,ren_tuple,ren_tuple,hl _ hv]
    · simp only [Bool.and_eq_true] at hv
      rw [ren_func,ren_func,ren_func,hl _ hv.1,hl _ hv.2]
    · rw [ren_iface,ren_iface,ren_iface,ih _ hv]
    · simp at hv
def self (P:Program) (E:Env) (L:List (Nat×LSpec)) (n:Nat) (fn:Func):HSpec:=fun vs bl=>
  bif vs.all (okV (fun m=>Nat.blt m bl.length) 8) then
    match execFn P E L (hs P E n).lf (hs P E n).cf fn vs (enum bl 0) bl.length (fun v H _=>some (v,H)) with
    | some (v,H)=>
      (match firstB H 0 bl.length,getB H (fromN bl.length (dedup (namesV 8 v))) with
      | some l,some l2=>
        bif okW (okM bl.length (fromN bl.length (dedup (namesV 8 v)))) 8 v&&l.all Blk.clo&&l2.all Blk.clo then some (true,ren (sg bl.length (fromN bl.length (dedup (namesV 8 v)))) v,l++l2) else none
      |_,_=>none)
    |none=>none
  else none
theorem self_ok {P:Program} {E:Env} {L:List (Nat×LSpec)} (hE:EnvOk P E) (n:Nat) {f:FuncId} {fn:Func} (hf:P.funcs[f]? =some fn) (hn:fn.name≠ "runtime.NumGoroutine") (hb:fn.body.isSome=true) (hL:∀c,fn.body=some c→LsOk P L c):SOK P f (self P E L n fn):=by
  refine ⟨⟨fn,hf,hn,hb⟩,fun vs bl v bl' hs hcl g w hmem hinj htab hnt=> ?_⟩
  unfold self at hs
  cases hargs0:vs.all (okV (fun m=>Nat.blt m bl.length) 8) with
  |false=>rw [hargs0] at hs; cases hs
  |true=>
  rw [hargs0] at hs
  simp only [cond_true] at hs
  rw [List.all_eq_true] at hargs0
  split at hs
  rotate_left
  · cases hs
  rename_i v0 H0 hrun
  split at hs
  rotate_left
  · cases hs
  rename_i l l2 hl hl2
  generalize hrn:fromN bl.length (dedup (namesV 8 v0))=rn at hs hl2
  have hnod:rn.Nodup:=hrn▸nodup_fromN (nodup_dedup _)
  have hbig:∀x∈rn,bl.length≤x:=fun x hx=>by subst hrn; exact (mem_fromN hx).1
  cases hck:okW (okM bl.length rn) 8 v0&&l.all Blk.clo&&l2.all Blk.clo with
  |false=>rw [hck] at hs; cases hs
  |true=>
  rw [hck] at hs
  simp only [cond_true,Option.some.injEq,Prod.mk.injEq,true_and] at hs
  obtain ⟨rfl,rfl⟩:=hs
  simp only [Bool.and_eq_true] at hck
  obtain ⟨⟨hok,hc1⟩,hc2⟩:=hck
  have hcb:∀b∈l++l2,∀c∈b.cells,Clo c:=fun b hb=>by
    rw [List.mem_append] at hb
    exact hb.elim (told_blk hc1 b) (told_blk hc2 b)
  have bnd:∀u∈vs,Bnd bl.length u:=fun u hu g g' e=>okV_spec (fun m hm=>e m (by simpa [Nat.blt_eq] using hm)) 8 u (hargs0 u hu)
  have lk:∀m b,look (enum bl 0) m=some b→bl[m]? =some b:=fun m b h=>by
    rw [look_enum] at h
    simpa using h
  have hr:HRel w (fun k=>∃i,i<bl.length∧k=g i) g (enum bl 0) bl.length w:=by
    refine ⟨fun m b hm=> ?_,fun m b hm=> ?_,fun m b hm=> ?_,fun m k b c hm hk e=> ?_,fun m b hm=> ?_,Keep.refl w _,htab,fun m b hm=>hnt m (List.getElem?_eq_some_iff.1 (lk m b hm)).1⟩
    · exact (List.getElem?_eq_some_iff.1 (lk m b hm)).1
    · exact fun c hc=>(hcl b (List.mem_of_getElem? (lk m b hm)) c hc).bnd _
    · rw [hmem m b (lk m b hm),map_clo (hcl b (List.mem_of_getElem? (lk m b hm)))]
    · exact hinj m k (List.getElem?_eq_some_iff.1 (lk m b hm)).1 (List.getElem?_eq_some_iff.1 (lk k c hk)).1 e
    · exact .inr ⟨m,(List.getElem?_eq_some_iff.1 (lk m b hm)).1,rfl⟩
  refine (execFn_sound (N:=fun _=>True) hE (hs_lf hE n) (hs_cf hE n) hf hL trivial hrun hr bnd).mono fun e w' ⟨v',g',H',nx',he,hk,hag,hle,hr',hbv⟩=> ?_
  simp only [Option.some.injEq,Prod.mk.injEq] at hk
  obtain ⟨rfl,rfl⟩:=hk
  obtain ⟨h1,h2⟩:=firstB_get hl
  obtain ⟨h3,h4⟩:=getB_get hl2
  have hlook:∀i,bl.length≤i→i<(l++l2).length→∃x b,rn[i-bl.length]? =some x∧l2[i-bl.length]? =some b∧look H' x=some b∧rho bl.length rn i=x:=fun i hi hi2=>by
    have hi3:i-bl.length<l2.length:=by simp only [List.length_append] at hi2; omega
    obtain ⟨x,hx1,hx2⟩:=h4 _ _ (List.getElem?_eq_getElem hi3)
    refine ⟨x,_,hx1,List.getElem?_eq_getElem hi3,hx2,?_⟩
    unfold rho
    rw [if_neg (by omega),List.getD_eq_getElem?_getD,hx1]
    rfl
  refine ⟨fun i=>g' (rho bl.length rn i),fun i hi=> ?_,?_,fun i b hi=> ?_,fun i hi hi2=> ?_,fun i j hi hi2 hj hj2 e=> ?_,hr'.keep⟩
  · show g' (rho bl.length rn i)=g i
    unfold rho
    rw [if_pos hi,hag i hi]
  · rw [he,okW_comp (g:=fun i=>g' (rho bl.length rn i)) (h:=sg bl.length rn) (k:=g') (fun i hi=>by show g' (rho bl.length rn (sg bl.length rn i))=g' i; rw [rho_sg hi]) 8 v' hok]
  · have hb0:=hcb b (List.mem_of_getElem? hi)
    show w'.heap[g' (rho bl.length rn i)]? =_
    by_cases hlt:i<bl.length
    · rw [List.getElem?_append_left (by omega)] at hi
      have:=hr'.mem i b (by have:=h2 i b hi; rwa [Nat.zero_add] at this)
      unfold rho
      rw [if_pos hlt,this,map_clo hb0]
    · obtain ⟨x,b',hx1,hx2,hx3,hx4⟩:=hlook i (by omega) (List.getElem?_eq_some_iff.1 hi).1
      rw [List.getElem?_append_right (by omega),h1,hx2] at hi
      injection hi with hi
      subst hi
      rw [hx4,hr'.mem x _ hx3,map_clo hb0]
  · obtain ⟨x,b',hx1,hx2,hx3,hx4⟩:=hlook i hi hi2
    show w.heap.size≤g' (rho bl.length rn i)
    rw [hx4]
    rcases hr'.own x b' hx3 with ho|⟨j,hj,ho⟩
    · exact ho
    · exfalso
      have hlj:∃b,look H' j=some b:=⟨l[j]'(by omega),by have:=h2 j _ (List.getElem?_eq_getElem (by omega)); rwa [Nat.zero_add] at this⟩
      obtain ⟨b2,hb2⟩:=hlj
      have:=hr'.inj x j b' b2 hx3 hb2 (by rw [ho,hag j hj])
      have:=hbig x (List.mem_of_getElem? hx1)
      omega
  · obtain ⟨x,b1,hx1,hx2,hx3,hx4⟩:=hlook i hi hi2
    obtain ⟨y,b2,hy1,hy2,hy3,hy4⟩:=hlook j hj hj2
    simp only [hx4,hy4] at e
    have:=hr'.inj x y b1 b2 hx3 hy3 e
    subst this
    obtain ⟨p1,q1⟩:=List.getElem?_eq_some_iff.1 hx1
    obtain ⟨p2,q2⟩:=List.getElem?_eq_some_iff.1 hy1
    have:=nodup_inj hnod p1 p2 (q1.trans q2.symm)
    omega
end RX
end
section
namespace Go.Proofs.YtpejalpgficopaaGreatDoor.G
open Go Go.Proofs Go.RowKit RX
set_option linter.unusedVariables false
set_option linter.unusedSimpArgs false
def bigint_Mul.sp (f:Bool→ByteArray→Bool→ByteArray→(Bool×ByteArray)) (p:Bool→ByteArray→Bool→ByteArray→Bool):HSpec
  |[.agg ⟨[.bool a0_0,.string a0_1]⟩,.agg ⟨[.bool a1_0,.string a1_1]⟩],[]=>some (p a0_0 a0_1 a1_0 a1_1,.agg ⟨[.bool (f a0_0 a0_1 a1_0 a1_1).1,.string (f a0_0 a0_1 a1_0 a1_1).2]⟩,[])
  |_,_=>none
def bigint_Add.sp (f:Bool→ByteArray→Bool→ByteArray→(Bool×ByteArray)) (p:Bool→ByteArray→Bool→ByteArray→Bool):HSpec
  |[.agg ⟨[.bool a0_0,.string a0_1]⟩,.agg ⟨[.bool a1_0,.string a1_1]⟩],[]=>some (p a0_0 a0_1 a1_0 a1_1,.agg ⟨[.bool (f a0_0 a0_1 a1_0 a1_1).1,.string (f a0_0 a0_1 a1_0 a1_1).2]⟩,[])
  |_,_=>none
def bigint_Sub.sp (f:Bool→ByteArray→Bool→ByteArray→(Bool×ByteArray)) (p:Bool→ByteArray→Bool→ByteArray→Bool):HSpec
  |[.agg ⟨[.bool a0_0,.string a0_1]⟩,.agg ⟨[.bool a1_0,.string a1_1]⟩],[]=>some (p a0_0 a0_1 a1_0 a1_1,.agg ⟨[.bool (f a0_0 a0_1 a1_0 a1_1).1,.string (f a0_0 a0_1 a1_0 a1_1).2]⟩,[])
  |_,_=>none
def bigint_Of.sp (f:Int→(Bool×ByteArray)) (p:Int→Bool):HSpec
  |[.int .i64 a0],[]=>some (p a0,.agg ⟨[.bool (f a0).1,.string (f a0).2]⟩,[])
  |_,_=>none
def bigint_DivMod.sp (f:Bool→ByteArray→Bool→ByteArray→(Bool×ByteArray×Bool×ByteArray×Int)) (p:Bool→ByteArray→Bool→ByteArray→Bool):HSpec
  |[.agg ⟨[.bool a0_0,.string a0_1]⟩,.agg ⟨[.bool a1_0,.string a1_1]⟩],[]=>some (p a0_0 a0_1 a1_0 a1_1,.tuple ⟨[.agg ⟨[.bool (f a0_0 a0_1 a1_0 a1_1).1,.string (f a0_0 a0_1 a1_0 a1_1).2.1]⟩,.agg ⟨[.bool (f a0_0 a0_1 a1_0 a1_1).2.2.1,.string (f a0_0 a0_1 a1_0 a1_1).2.2.2.1]⟩,.int .i64 (f a0_0 a0_1 a1_0 a1_1).2.2.2.2]⟩,[])
  |_,_=>none
def bigint_Gcd.sp (f:Bool→ByteArray→Bool→ByteArray→(Bool×ByteArray)) (p:Bool→ByteArray→Bool→ByteArray→Bool):HSpec
  |[.agg ⟨[.bool a0_0,.string a0_1]⟩,.agg ⟨[.bool a1_0,.string a1_1]⟩],[]=>some (p a0_0 a0_1 a1_0 a1_1,.agg ⟨[.bool (f a0_0 a0_1 a1_0 a1_1).1,.string (f a0_0 a0_1 a1_0 a1_1).2]⟩,[])
  |_,_=>none
def bigint_Cmp.sp (f:Bool→ByteArray→Bool→ByteArray→(Int)) (p:Bool→ByteArray→Bool→ByteArray→Bool):HSpec
  |[.agg ⟨[.bool a0_0,.string a0_1]⟩,.agg ⟨[.bool a1_0,.string a1_1]⟩],[]=>some (p a0_0 a0_1 a1_0 a1_1,.int .i64 (f a0_0 a0_1 a1_0 a1_1),[])
  |_,_=>none
def bigint_Valid.sp (f:Bool→ByteArray→(Bool)):HSpec
  |[.agg ⟨[.bool a0_0,.string a0_1]⟩],[]=>some (true,.bool (f a0_0 a0_1),[])
  |_,_=>none
def bigint_Sign.sp (f:Bool→ByteArray→(Int)):HSpec
  |[.agg ⟨[.bool a0_0,.string a0_1]⟩],[]=>some (true,.int .i64 (f a0_0 a0_1),[])
  |_,_=>none
def bigint_Neg.sp (f:Bool→ByteArray→(Bool×ByteArray)):HSpec
  |[.agg ⟨[.bool a0_0,.string a0_1]⟩],[]=>some (true,.agg ⟨[.bool (f a0_0 a0_1).1,.string (f a0_0 a0_1).2]⟩,[])
  |_,_=>none
end Go.Proofs.YtpejalpgficopaaGreatDoor.G
end
section
namespace Go.Proofs.YtpejalpgficopaaGreatDoor.G
open Go Go.Proofs Go.RowKit RX
set_option linter.unusedVariables false
set_option linter.unusedSimpArgs false
def field_common.sp (f:Bool→ByteArray→Bool→ByteArray→Bool→ByteArray→Bool→ByteArray→Bool→ByteArray→(Bool×ByteArray)) (p:Bool→ByteArray→Bool→ByteArray→Bool→ByteArray→Bool→ByteArray→Bool→ByteArray→Bool):HSpec
  |[.agg ⟨[.bool a0_0,.string a0_1,.bool a0_2,.string a0_3,.bool a0_4,.string a0_5,.bool a0_6,.string a0_7]⟩,.agg ⟨[.bool a1_0,.string a1_1]⟩],[]=>some (p a0_0 a0_1 a0_2 a0_3 a0_4 a0_5 a0_6 a0_7 a1_0 a1_1,.agg ⟨[.bool (f a0_0 a0_1 a0_2 a0_3 a0_4 a0_5 a0_6 a0_7 a1_0 a1_1).1,.string (f a0_0 a0_1 a0_2 a0_3 a0_4 a0_5 a0_6 a0_7 a1_0 a1_1).2]⟩,[])
  |_,_=>none
def field_over.sp (f:Bool→ByteArray→Bool→ByteArray→(Bool×ByteArray)) (p:Bool→ByteArray→Bool→ByteArray→Bool):HSpec
  |[.agg ⟨[.bool a0_0,.string a0_1]⟩,.agg ⟨[.bool a1_0,.string a1_1]⟩],[]=>some (p a0_0 a0_1 a1_0 a1_1,.agg ⟨[.bool (f a0_0 a0_1 a1_0 a1_1).1,.string (f a0_0 a0_1 a1_0 a1_1).2]⟩,[])
  |_,_=>none
def field_lowest.sp (f:Bool→ByteArray→Bool→ByteArray→Bool→ByteArray→Bool→ByteArray→Bool→ByteArray→(Bool×ByteArray×Bool×ByteArray×Bool×ByteArray×Bool×ByteArray×Bool×ByteArray)) (p:Bool→ByteArray→Bool→ByteArray→Bool→ByteArray→Bool→ByteArray→Bool→ByteArray→Bool):HSpec
  |[.agg ⟨[.bool a0_0,.string a0_1,.bool a0_2,.string a0_3,.bool a0_4,.string a0_5,.bool a0_6,.string a0_7]⟩,.agg ⟨[.bool a1_0,.string a1_1]⟩],[]=>some (p a0_0 a0_1 a0_2 a0_3 a0_4 a0_5 a0_6 a0_7 a1_0 a1_1,.agg ⟨[.bool (f a0_0 a0_1 a0_2 a0_3 a0_4 a0_5 a0_6 a0_7 a1_0 a1_1).1,.string (f a0_0 a0_1 a0_2 a0_3 a0_4 a0_5 a0_6 a0_7 a1_0 a1_1).2.1,.bool (f a0_0 a0_1 a0_2 a0_3 a0_4 a0_5 a0_6 a0_7 a1_0 a1_1).2.2.1,.string (f a0_0 a0_1 a0_2 a0_3 a0_4 a0_5 a0_6 a0_7 a1_0 a1_1).2.2.2.1,.bool (f a0_0 a0_1 a0_2 a0_3 a0_4 a0_5 a0_6 a0_7 a1_0 a1_1).2.2.2.2.1,.string (f a0_0 a0_1 a0_2 a0_3 a0_4 a0_5 a0_6 a0_7 a1_0 a1_1).2.2.2.2.2.1,.bool (f a0_0 a0_1 a0_2 a0_3 a0_4 a0_5 a0_6 a0_7 a1_0 a1_1).2.2.2.2.2.2.1,.string (f a0_0 a0_1 a0_2 a0_3 a0_4 a0_5 a0_6 a0_7 a1_0 a1_1).2.2.2.2.2.2.2.1,.bool (f a0_0 a0_1 a0_2 a0_3 a0_4 a0_5 a0_6 a0_7 a1_0 a1_1).2.2.2.2.2.2.2.2.1,.string (f a0_0 a0_1 a0_2 a0_3 a0_4 a0_5 a0_6 a0_7 a1_0 a1_1).2.2.2.2.2.2.2.2.2]⟩,[])
  |_,_=>none
def field_Valid.sp (f:Bool→ByteArray→Bool→ByteArray→Bool→ByteArray→Bool→ByteArray→Bool→ByteArray→(Bool)) (p:Bool→ByteArray→Bool→ByteArray→Bool→ByteArray→Bool→ByteArray→Bool→ByteArray→Bool):HSpec
  |[.agg ⟨[.bool a0_0,.string a0_1,.bool a0_2,.string a0_3,.bool a0_4,.string a0_5,.bool a0_6,.string a0_7,.bool a0_8,.string a0_9]⟩],[]=>some (p a0_0 a0_1 a0_2 a0_3 a0_4 a0_5 a0_6 a0_7 a0_8 a0_9,.bool (f a0_0 a0_1 a0_2 a0_3 a0_4 a0_5 a0_6 a0_7 a0_8 a0_9),[])
  |_,_=>none
def field_Of.sp (f:Int→(Bool×ByteArray×Bool×ByteArray×Bool×ByteArray×Bool×ByteArray×Bool×ByteArray)) (p:Int→Bool):HSpec
  |[.int .i64 a0],[]=>some (p a0,.agg ⟨[.bool (f a0).1,.string (f a0).2.1,.bool (f a0).2.2.1,.string (f a0).2.2.2.1,.bool (f a0).2.2.2.2.1,.string (f a0).2.2.2.2.2.1,.bool (f a0).2.2.2.2.2.2.1,.string (f a0).2.2.2.2.2.2.2.1,.bool (f a0).2.2.2.2.2.2.2.2.1,.string (f a0).2.2.2.2.2.2.2.2.2]⟩,[])
  |_,_=>none
end Go.Proofs.YtpejalpgficopaaGreatDoor.G
end
section
namespace Go.Proofs.YtpejalpgficopaaGreatDoor.G
open Go Go.Proofs Go.RowKit RX
set_option linter.unusedVariables false
set_option linter.unusedSimpArgs false
def field_mixed.sp (f:Int→Int→Int→(Int)):HSpec
  |[.int .i64 a0,.int .i64 a1,.int .i64 a2],[]=>some (true,.int .i64 (f a0 a1 a2),[])
  |_,_=>none
def field_times.sp (f:Int→Bool→ByteArray→Bool→ByteArray→(Bool×ByteArray)) (p:Int→Bool→ByteArray→Bool→ByteArray→Bool):HSpec
  |[.int .i64 a0,.agg ⟨[.bool a1_0,.string a1_1]⟩,.agg ⟨[.bool a2_0,.string a2_1]⟩],[]=>some (p a0 a1_0 a1_1 a2_0 a2_1,.agg ⟨[.bool (f a0 a1_0 a1_1 a2_0 a2_1).1,.string (f a0 a1_0 a1_1 a2_0 a2_1).2]⟩,[])
  |_,_=>none
def field_sign2.sp (f:Bool→ByteArray→Bool→ByteArray→(Int)) (p:Bool→ByteArray→Bool→ByteArray→Bool):HSpec
  |[.agg ⟨[.bool a0_0,.string a0_1]⟩,.agg ⟨[.bool a1_0,.string a1_1]⟩],[]=>some (p a0_0 a0_1 a1_0 a1_1,.int .i64 (f a0_0 a0_1 a1_0 a1_1),[])
  |_,_=>none
def field_Sign.sp (f:Bool→ByteArray→Bool→ByteArray→Bool→ByteArray→Bool→ByteArray→Bool→ByteArray→(Int)) (p:Bool→ByteArray→Bool→ByteArray→Bool→ByteArray→Bool→ByteArray→Bool→ByteArray→Bool):HSpec
  |[.agg ⟨[.bool a0_0,.string a0_1,.bool a0_2,.string a0_3,.bool a0_4,.string a0_5,.bool a0_6,.string a0_7,.bool a0_8,.string a0_9]⟩],[]=>some (p a0_0 a0_1 a0_2 a0_3 a0_4 a0_5 a0_6 a0_7 a0_8 a0_9,.int .i64 (f a0_0 a0_1 a0_2 a0_3 a0_4 a0_5 a0_6 a0_7 a0_8 a0_9),[])
  |_,_=>none
def field_Add.sp (f:Bool→ByteArray→Bool→ByteArray→Bool→ByteArray→Bool→ByteArray→Bool→ByteArray→Bool→ByteArray→Bool→ByteArray→Bool→ByteArray→Bool→ByteArray→Bool→ByteArray→(Bool×ByteArray×Bool×ByteArray×Bool×ByteArray×Bool×ByteArray×Bool×ByteArray)) (p:Bool→ByteArray→Bool→ByteArray→Bool→ByteArray→Bool→ByteArray→Bool→ByteArray→Bool→ByteArray→Bool→ByteArray→Bool→ByteArray→Bool→ByteArray→Bool→ByteArray→Bool):HSpec
  |[.agg ⟨[.bool a0_0,.string a0_1,.bool a0_2,.string a0_3,.bool a0_4,.string a0_5,.bool a0_6,.string a0_7,.bool a0_8,.string a0_9]⟩,.agg ⟨[.bool a1_0,.string a1_1,.bool a1_2,.string a1_3,.bool a1_4,.string a1_5,.bool a1_6,.string a1_7,.bool a1_8,.string a1_9]⟩],[]=>some (p a0_0 a0_1 a0_2 a0_3 a0_4 a0_5 a0_6 a0_7 a0_8 a0_9 a1_0 a1_1 a1_2 a1_3 a1_4 a1_5 a1_6 a1_7 a1_8 a1_9,.agg ⟨[.bool (f a0_0 a0_1 a0_2 a0_3 a0_4 a0_5 a0_6 a0_7 a0_8 a0_9 a1_0 a1_1 a1_2 a1_3 a1_4 a1_5 a1_6 a1_7 a1_8 a1_9).1,.string (f a0_0 a0_1 a0_2 a0_3 a0_4 a0_5 a0_6 a0_7 a0_8 a0_9 a1_0 a1_1 a1_2 a1_3 a1_4 a1_5 a1_6 a1_7 a1_8 a1_9).2.1,.bool (f a0_0 a0_1 a0_2 a0_3 a0_4 a0_5 a0_6 a0_7 a0_8 a0_9 a1_0 a1_1 a1_2 a1_3 a1_4 a1_5 a1_6 a1_7 a1_8 a1_9).2.2.1,.string (f a0_0 a0_1 a0_2 a0_3 a0_4 a0_5 a0_6 a0_7 a0_8 a0_9 a1_0 a1_1 a1_2 a1_3 a1_4 a1_5 a1_6 a1_7 a1_8 a1_9).2.2.2.1,.bool (f a0_0 a0_1 a0_2 a0_3 a0_4 a0_5 a0_6 a0_7 a0_8 a0_9 a1_0 a1_1 a1_2 a1_3 a1_4 a1_5 a1_6 a1_7 a1_8 a1_9).2.2.2.2.1,.string (f a0_0 a0_1 a0_2 a0_3 a0_4 a0_5 a0_6 a0_7 a0_8 a0_9 a1_0 a1_1 a1_2 a1_3 a1_4 a1_5 a1_6 a1_7 a1_8 a1_9).2.2.2.2.2.1,.bool (f a0_0 a0_1 a0_2 a0_3 a0_4 a0_5 a0_6 a0_7 a0_8 a0_9 a1_0 a1_1 a1_2 a1_3 a1_4 a1_5 a1_6 a1_7 a1_8 a1_9).2.2.2.2.2.2.1,.string (f a0_0 a0_1 a0_2 a0_3 a0_4 a0_5 a0_6 a0_7 a0_8 a0_9 a1_0 a1_1 a1_2 a1_3 a1_4 a1_5 a1_6 a1_7 a1_8 a1_9).2.2.2.2.2.2.2.1,.bool (f a0_0 a0_1 a0_2 a0_3 a0_4 a0_5 a0_6 a0_7 a0_8 a0_9 a1_0 a1_1 a1_2 a1_3 a1_4 a1_5 a1_6 a1_7 a1_8 a1_9).2.2.2.2.2.2.2.2.1,.string (f a0_0 a0_1 a0_2 a0_3 a0_4 a0_5 a0_6 a0_7 a0_8 a0_9 a1_0 a1_1 a1_2 a1_3 a1_4 a1_5 a1_6 a1_7 a1_8 a1_9).2.2.2.2.2.2.2.2.2]⟩,[])
  |_,_=>none
def field_Neg.sp (f:Bool→ByteArray→Bool→ByteArray→Bool→ByteArray→Bool→ByteArray→Bool→ByteArray→(Bool×ByteArray×Bool×ByteArray×Bool×ByteArray×Bool×ByteArray×Bool×ByteArray)) (p:Bool→ByteArray→Bool→ByteArray→Bool→ByteArray→Bool→ByteArray→Bool→ByteArray→Bool):HSpec
  |[.agg ⟨[.bool a0_0,.string a0_1,.bool a0_2,.string a0_3,.bool a0_4,.string a0_5,.bool a0_6,.string a0_7,.bool a0_8,.string a0_9]⟩],[]=>some (p a0_0 a0_1 a0_2 a0_3 a0_4 a0_5 a0_6 a0_7 a0_8 a0_9,.agg ⟨[.bool (f a0_0 a0_1 a0_2 a0_3 a0_4 a0_5 a0_6 a0_7 a0_8 a0_9).1,.string (f a0_0 a0_1 a0_2 a0_3 a0_4 a0_5 a0_6 a0_7 a0_8 a0_9).2.1,.bool (f a0_0 a0_1 a0_2 a0_3 a0_4 a0_5 a0_6 a0_7 a0_8 a0_9).2.2.1,.string (f a0_0 a0_1 a0_2 a0_3 a0_4 a0_5 a0_6 a0_7 a0_8 a0_9).2.2.2.1,.bool (f a0_0 a0_1 a0_2 a0_3 a0_4 a0_5 a0_6 a0_7 a0_8 a0_9).2.2.2.2.1,.string (f a0_0 a0_1 a0_2 a0_3 a0_4 a0_5 a0_6 a0_7 a0_8 a0_9).2.2.2.2.2.1,.bool (f a0_0 a0_1 a0_2 a0_3 a0_4 a0_5 a0_6 a0_7 a0_8 a0_9).2.2.2.2.2.2.1,.string (f a0_0 a0_1 a0_2 a0_3 a0_4 a0_5 a0_6 a0_7 a0_8 a0_9).2.2.2.2.2.2.2.1,.bool (f a0_0 a0_1 a0_2 a0_3 a0_4 a0_5 a0_6 a0_7 a0_8 a0_9).2.2.2.2.2.2.2.2.1,.string (f a0_0 a0_1 a0_2 a0_3 a0_4 a0_5 a0_6 a0_7 a0_8 a0_9).2.2.2.2.2.2.2.2.2]⟩,[])
  |_,_=>none
def field_Sub.sp (f:Bool→ByteArray→Bool→ByteArray→Bool→ByteArray→Bool→ByteArray→Bool→ByteArray→Bool→ByteArray→Bool→ByteArray→Bool→ByteArray→Bool→ByteArray→Bool→ByteArray→(Bool×ByteArray×Bool×ByteArray×Bool×ByteArray×Bool×ByteArray×Bool×ByteArray)) (p:Bool→ByteArray→Bool→ByteArray→Bool→ByteArray→Bool→ByteArray→Bool→ByteArray→Bool→ByteArray→Bool→ByteArray→Bool→ByteArray→Bool→ByteArray→Bool→ByteArray→Bool):HSpec
  |[.agg ⟨[.bool a0_0,.string a0_1,.bool a0_2,.string a0_3,.bool a0_4,.string a0_5,.bool a0_6,.string a0_7,.bool a0_8,.string a0_9]⟩,.agg ⟨[.bool a1_0,.string a1_1,.bool a1_2,.string a1_3,.bool a1_4,.string a1_5,.bool a1_6,.string a1_7,.bool a1_8,.string a1_9]⟩],[]=>some (p a0_0 a0_1 a0_2 a0_3 a0_4 a0_5 a0_6 a0_7 a0_8 a0_9 a1_0 a1_1 a1_2 a1_3 a1_4 a1_5 a1_6 a1_7 a1_8 a1_9,.agg ⟨[.bool (f a0_0 a0_1 a0_2 a0_3 a0_4 a0_5 a0_6 a0_7 a0_8 a0_9 a1_0 a1_1 a1_2 a1_3 a1_4 a1_5 a1_6 a1_7 a1_8 a1_9).1,.string (f a0_0 a0_1 a0_2 a0_3 a0_4 a0_5 a0_6 a0_7 a0_8 a0_9 a1_0 a1_1 a1_2 a1_3 a1_4 a1_5 a1_6 a1_7 a1_8 a1_9).2.1,.bool (f a0_0 a0_1 a0_2 a0_3 a0_4 a0_5 a0_6 a0_7 a0_8 a0_9 a1_0 a1_1 a1_2 a1_3 a1_4 a1_5 a1_6 a1_7 a1_8 a1_9).2.2.1,.string (f a0_0 a0_1 a0_2 a0_3 a0_4 a0_5 a0_6 a0_7 a0_8 a0_9 a1_0 a1_1 a1_2 a1_3 a1_4 a1_5 a1_6 a1_7 a1_8 a1_9).2.2.2.1,.bool (f a0_0 a0_1 a0_2 a0_3 a0_4 a0_5 a0_6 a0_7 a0_8 a0_9 a1_0 a1_1 a1_2 a1_3 a1_4 a1_5 a1_6 a1_7 a1_8 a1_9).2.2.2.2.1,.string (f a0_0 a0_1 a0_2 a0_3 a0_4 a0_5 a0_6 a0_7 a0_8 a0_9 a1_0 a1_1 a1_2 a1_3 a1_4 a1_5 a1_6 a1_7 a1_8 a1_9).2.2.2.2.2.1,.bool (f a0_0 a0_1 a0_2 a0_3 a0_4 a0_5 a0_6 a0_7 a0_8 a0_9 a1_0 a1_1 a1_2 a1_3 a1_4 a1_5 a1_6 a1_7 a1_8 a1_9).2.2.2.2.2.2.1,.string (f a0_0 a0_1 a0_2 a0_3 a0_4 a0_5 a0_6 a0_7 a0_8 a0_9 a1_0 a1_1 a1_2 a1_3 a1_4 a1_5 a1_6 a1_7 a1_8 a1_9).2.2.2.2.2.2.2.1,.bool (f a0_0 a0_1 a0_2 a0_3 a0_4 a0_5 a0_6 a0_7 a0_8 a0_9 a1_0 a1_1 a1_2 a1_3 a1_4 a1_5 a1_6 a1_7 a1_8 a1_9).2.2.2.2.2.2.2.2.1,.string (f a0_0 a0_1 a0_2 a0_3 a0_4 a0_5 a0_6 a0_7 a0_8 a0_9 a1_0 a1_1 a1_2 a1_3 a1_4 a1_5 a1_6 a1_7 a1_8 a1_9).2.2.2.2.2.2.2.2.2]⟩,[])
  |_,_=>none
def field_Cmp.sp (f:Bool→ByteArray→Bool→ByteArray→Bool→ByteArray→Bool→ByteArray→Bool→ByteArray→Bool→ByteArray→Bool→ByteArray→Bool→ByteArray→Bool→ByteArray→Bool→ByteArray→(Int)) (p:Bool→ByteArray→Bool→ByteArray→Bool→ByteArray→Bool→ByteArray→Bool→ByteArray→Bool→ByteArray→Bool→ByteArray→Bool→ByteArray→Bool→ByteArray→Bool→ByteArray→Bool):HSpec
  |[.agg ⟨[.bool a0_0,.string a0_1,.bool a0_2,.string a0_3,.bool a0_4,.string a0_5,.bool a0_6,.string a0_7,.bool a0_8,.string a0_9]⟩,.agg ⟨[.bool a1_0,.string a1_1,.bool a1_2,.string a1_3,.bool a1_4,.string a1_5,.bool a1_6,.string a1_7,.bool a1_8,.string a1_9]⟩],[]=>some (p a0_0 a0_1 a0_2 a0_3 a0_4 a0_5 a0_6 a0_7 a0_8 a0_9 a1_0 a1_1 a1_2 a1_3 a1_4 a1_5 a1_6 a1_7 a1_8 a1_9,.int .i64 (f a0_0 a0_1 a0_2 a0_3 a0_4 a0_5 a0_6 a0_7 a0_8 a0_9 a1_0 a1_1 a1_2 a1_3 a1_4 a1_5 a1_6 a1_7 a1_8 a1_9),[])
  |_,_=>none
def field_product.sp (f:Bool→ByteArray→Bool→ByteArray→Bool→ByteArray→Bool→ByteArray→Bool→ByteArray→Bool→ByteArray→Bool→ByteArray→Bool→ByteArray→Bool→ByteArray→Bool→ByteArray→(Bool×ByteArray×Bool×ByteArray×Bool×ByteArray×Bool×ByteArray×Bool×ByteArray)) (p:Bool→ByteArray→Bool→ByteArray→Bool→ByteArray→Bool→ByteArray→Bool→ByteArray→Bool→ByteArray→Bool→ByteArray→Bool→ByteArray→Bool→ByteArray→Bool→ByteArray→Bool):HSpec
  |[.agg ⟨[.bool a0_0,.string a0_1,.bool a0_2,.string a0_3,.bool a0_4,.string a0_5,.bool a0_6,.string a0_7,.bool a0_8,.string a0_9]⟩,.agg ⟨[.bool a1_0,.string a1_1,.bool a1_2,.string a1_3,.bool a1_4,.string a1_5,.bool a1_6,.string a1_7,.bool a1_8,.string a1_9]⟩],[]=>some (p a0_0 a0_1 a0_2 a0_3 a0_4 a0_5 a0_6 a0_7 a0_8 a0_9 a1_0 a1_1 a1_2 a1_3 a1_4 a1_5 a1_6 a1_7 a1_8 a1_9,.agg ⟨[.bool (f a0_0 a0_1 a0_2 a0_3 a0_4 a0_5 a0_6 a0_7 a0_8 a0_9 a1_0 a1_1 a1_2 a1_3 a1_4 a1_5 a1_6 a1_7 a1_8 a1_9).1,.string (f a0_0 a0_1 a0_2 a0_3 a0_4 a0_5 a0_6 a0_7 a0_8 a0_9 a1_0 a1_1 a1_2 a1_3 a1_4 a1_5 a1_6 a1_7 a1_8 a1_9).2.1,.bool (f a0_0 a0_1 a0_2 a0_3 a0_4 a0_5 a0_6 a0_7 a0_8 a0_9 a1_0 a1_1 a1_2 a1_3 a1_4 a1_5 a1_6 a1_7 a1_8 a1_9).2.2.1,.string (f a0_0 a0_1 a0_2 a0_3 a0_4 a0_5 a0_6 a0_7 a0_8 a0_9 a1_0 a1_1 a1_2 a1_3 a1_4 a1_5 a1_6 a1_7 a1_8 a1_9).2.2.2.1,.bool (f a0_0 a0_1 a0_2 a0_3 a0_4 a0_5 a0_6 a0_7 a0_8 a0_9 a1_0 a1_1 a1_2 a1_3 a1_4 a1_5 a1_6 a1_7 a1_8 a1_9).2.2.2.2.1,.string (f a0_0 a0_1 a0_2 a0_3 a0_4 a0_5 a0_6 a0_7 a0_8 a0_9 a1_0 a1_1 a1_2 a1_3 a1_4 a1_5 a1_6 a1_7 a1_8 a1_9).2.2.2.2.2.1,.bool (f a0_0 a0_1 a0_2 a0_3 a0_4 a0_5 a0_6 a0_7 a0_8 a0_9 a1_0 a1_1 a1_2 a1_3 a1_4 a1_5 a1_6 a1_7 a1_8 a1_9).2.2.2.2.2.2.1,.string (f a0_0 a0_1 a0_2 a0_3 a0_4 a0_5 a0_6 a0_7 a0_8 a0_9 a1_0 a1_1 a1_2 a1_3 a1_4 a1_5 a1_6 a1_7 a1_8 a1_9).2.2.2.2.2.2.2.1,.bool (f a0_0 a0_1 a0_2 a0_3 a0_4 a0_5 a0_6 a0_7 a0_8 a0_9 a1_0 a1_1 a1_2 a1_3 a1_4 a1_5 a1_6 a1_7 a1_8 a1_9).2.2.2.2.2.2.2.2.1,.string (f a0_0 a0_1 a0_2 a0_3 a0_4 a0_5 a0_6 a0_7 a0_8 a0_9 a1_0 a1_1 a1_2 a1_3 a1_4 a1_5 a1_6 a1_7 a1_8 a1_9).2.2.2.2.2.2.2.2.2]⟩,[])
  |_,_=>none
def field_Mul.sp (f:Bool→ByteArray→Bool→ByteArray→Bool→ByteArray→Bool→ByteArray→Bool→ByteArray→Bool→ByteArray→Bool→ByteArray→Bool→ByteArray→Bool→ByteArray→Bool→ByteArray→(Bool×ByteArray×Bool×ByteArray×Bool×ByteArray×Bool×ByteArray×Bool×ByteArray)) (p:Bool→ByteArray→Bool→ByteArray→Bool→ByteArray→Bool→ByteArray→Bool→ByteArray→Bool→ByteArray→Bool→ByteArray→Bool→ByteArray→Bool→ByteArray→Bool→ByteArray→Bool):HSpec
  |[.agg ⟨[.bool a0_0,.string a0_1,.bool a0_2,.string a0_3,.bool a0_4,.string a0_5,.bool a0_6,.string a0_7,.bool a0_8,.string a0_9]⟩,.agg ⟨[.bool a1_0,.string a1_1,.bool a1_2,.string a1_3,.bool a1_4,.string a1_5,.bool a1_6,.string a1_7,.bool a1_8,.string a1_9]⟩],[]=>some (p a0_0 a0_1 a0_2 a0_3 a0_4 a0_5 a0_6 a0_7 a0_8 a0_9 a1_0 a1_1 a1_2 a1_3 a1_4 a1_5 a1_6 a1_7 a1_8 a1_9,.agg ⟨[.bool (f a0_0 a0_1 a0_2 a0_3 a0_4 a0_5 a0_6 a0_7 a0_8 a0_9 a1_0 a1_1 a1_2 a1_3 a1_4 a1_5 a1_6 a1_7 a1_8 a1_9).1,.string (f a0_0 a0_1 a0_2 a0_3 a0_4 a0_5 a0_6 a0_7 a0_8 a0_9 a1_0 a1_1 a1_2 a1_3 a1_4 a1_5 a1_6 a1_7 a1_8 a1_9).2.1,.bool (f a0_0 a0_1 a0_2 a0_3 a0_4 a0_5 a0_6 a0_7 a0_8 a0_9 a1_0 a1_1 a1_2 a1_3 a1_4 a1_5 a1_6 a1_7 a1_8 a1_9).2.2.1,.string (f a0_0 a0_1 a0_2 a0_3 a0_4 a0_5 a0_6 a0_7 a0_8 a0_9 a1_0 a1_1 a1_2 a1_3 a1_4 a1_5 a1_6 a1_7 a1_8 a1_9).2.2.2.1,.bool (f a0_0 a0_1 a0_2 a0_3 a0_4 a0_5 a0_6 a0_7 a0_8 a0_9 a1_0 a1_1 a1_2 a1_3 a1_4 a1_5 a1_6 a1_7 a1_8 a1_9).2.2.2.2.1,.string (f a0_0 a0_1 a0_2 a0_3 a0_4 a0_5 a0_6 a0_7 a0_8 a0_9 a1_0 a1_1 a1_2 a1_3 a1_4 a1_5 a1_6 a1_7 a1_8 a1_9).2.2.2.2.2.1,.bool (f a0_0 a0_1 a0_2 a0_3 a0_4 a0_5 a0_6 a0_7 a0_8 a0_9 a1_0 a1_1 a1_2 a1_3 a1_4 a1_5 a1_6 a1_7 a1_8 a1_9).2.2.2.2.2.2.1,.string (f a0_0 a0_1 a0_2 a0_3 a0_4 a0_5 a0_6 a0_7 a0_8 a0_9 a1_0 a1_1 a1_2 a1_3 a1_4 a1_5 a1_6 a1_7 a1_8 a1_9).2.2.2.2.2.2.2.1,.bool (f a0_0 a0_1 a0_2 a0_3 a0_4 a0_5 a0_6 a0_7 a0_8 a0_9 a1_0 a1_1 a1_2 a1_3 a1_4 a1_5 a1_6 a1_7 a1_8 a1_9).2.2.2.2.2.2.2.2.1,.string (f a0_0 a0_1 a0_2 a0_3 a0_4 a0_5 a0_6 a0_7 a0_8 a0_9 a1_0 a1_1 a1_2 a1_3 a1_4 a1_5 a1_6 a1_7 a1_8 a1_9).2.2.2.2.2.2.2.2.2]⟩,[])
  |_,_=>none
def field_Div.sp (f:Bool→ByteArray→Bool→ByteArray→Bool→ByteArray→Bool→ByteArray→Bool→ByteArray→Bool→ByteArray→Bool→ByteArray→Bool→ByteArray→Bool→ByteArray→Bool→ByteArray→(Bool×ByteArray×Bool×ByteArray×Bool×ByteArray×Bool×ByteArray×Bool×ByteArray×Int)) (p:Bool→ByteArray→Bool→ByteArray→Bool→ByteArray→Bool→ByteArray→Bool→ByteArray→Bool→ByteArray→Bool→ByteArray→Bool→ByteArray→Bool→ByteArray→Bool→ByteArray→Bool):HSpec
  |[.agg ⟨[.bool a0_0,.string a0_1,.bool a0_2,.string a0_3,.bool a0_4,.string a0_5,.bool a0_6,.string a0_7,.bool a0_8,.string a0_9]⟩,.agg ⟨[.bool a1_0,.string a1_1,.bool a1_2,.string a1_3,.bool a1_4,.string a1_5,.bool a1_6,.string a1_7,.bool a1_8,.string a1_9]⟩],[]=>some (p a0_0 a0_1 a0_2 a0_3 a0_4 a0_5 a0_6 a0_7 a0_8 a0_9 a1_0 a1_1 a1_2 a1_3 a1_4 a1_5 a1_6 a1_7 a1_8 a1_9,.tuple ⟨[.agg ⟨[.bool (f a0_0 a0_1 a0_2 a0_3 a0_4 a0_5 a0_6 a0_7 a0_8 a0_9 a1_0 a1_1 a1_2 a1_3 a1_4 a1_5 a1_6 a1_7 a1_8 a1_9).1,.string (f a0_0 a0_1 a0_2 a0_3 a0_4 a0_5 a0_6 a0_7 a0_8 a0_9 a1_0 a1_1 a1_2 a1_3 a1_4 a1_5 a1_6 a1_7 a1_8 a1_9).2.1,.bool (f a0_0 a0_1 a0_2 a0_3 a0_4 a0_5 a0_6 a0_7 a0_8 a0_9 a1_0 a1_1 a1_2 a1_3 a1_4 a1_5 a1_6 a1_7 a1_8 a1_9).2.2.1,.string (f a0_0 a0_1 a0_2 a0_3 a0_4 a0_5 a0_6 a0_7 a0_8 a0_9 a1_0 a1_1 a1_2 a1_3 a1_4 a1_5 a1_6 a1_7 a1_8 a1_9).2.2.2.1,.bool (f a0_0 a0_1 a0_2 a0_3 a0_4 a0_5 a0_6 a0_7 a0_8 a0_9 a1_0 a1_1 a1_2 a1_3 a1_4 a1_5 a1_6 a1_7 a1_8 a1_9).2.2.2.2.1,.string (f a0_0 a0_1 a0_2 a0_3 a0_4 a0_5 a0_6 a0_7 a0_8 a0_9 a1_0 a1_1 a1_2 a1_3 a1_4 a1_5 a1_6 a1_7 a1_8 a1_9).2.2.2.2.2.1,.bool (f a0_0 a0_1 a0_2 a0_3 a0_4 a0_5 a0_6 a0_7 a0_8 a0_9 a1_0 a1_1 a1_2 a1_3 a1_4 a1_5 a1_6 a1_7 a1_8 a1_9).2.2.2.2.2.2.1,.string (f a0_0 a0_1 a0_2 a0_3 a0_4 a0_5 a0_6 a0_7 a0_8 a0_9 a1_0 a1_1 a1_2 a1_3 a1_4 a1_5 a1_6 a1_7 a1_8 a1_9).2.2.2.2.2.2.2.1,.bool (f a0_0 a0_1 a0_2 a0_3 a0_4 a0_5 a0_6 a0_7 a0_8 a0_9 a1_0 a1_1 a1_2 a1_3 a1_4 a1_5 a1_6 a1_7 a1_8 a1_9).2.2.2.2.2.2.2.2.1,.string (f a0_0 a0_1 a0_2 a0_3 a0_4 a0_5 a0_6 a0_7 a0_8 a0_9 a1_0 a1_1 a1_2 a1_3 a1_4 a1_5 a1_6 a1_7 a1_8 a1_9).2.2.2.2.2.2.2.2.2.1]⟩,.int .i64 (f a0_0 a0_1 a0_2 a0_3 a0_4 a0_5 a0_6 a0_7 a0_8 a0_9 a1_0 a1_1 a1_2 a1_3 a1_4 a1_5 a1_6 a1_7 a1_8 a1_9).2.2.2.2.2.2.2.2.2.2]⟩,[])
  |_,_=>none
end Go.Proofs.YtpejalpgficopaaGreatDoor.G
end
section
namespace Go.Proofs.YtpejalpgficopaaGreatDoor.G
open Go Go.Proofs Go.RowKit RX
set_option linter.unusedVariables false
set_option linter.unusedSimpArgs false
def direction_quotient.sp (f:Bool→ByteArray→Bool→ByteArray→Bool→ByteArray→Bool→ByteArray→Bool→ByteArray→Bool→ByteArray→Bool→ByteArray→Bool→ByteArray→Bool→ByteArray→Bool→ByteArray→(Int×Int×Int)) (p:Bool→ByteArray→Bool→ByteArray→Bool→ByteArray→Bool→ByteArray→Bool→ByteArray→Bool→ByteArray→Bool→ByteArray→Bool→ByteArray→Bool→ByteArray→Bool→ByteArray→Bool):HSpec
  |[.agg ⟨[.bool a0_0,.string a0_1,.bool a0_2,.string a0_3,.bool a0_4,.string a0_5,.bool a0_6,.string a0_7,.bool a0_8,.string a0_9]⟩,.agg ⟨[.bool a1_0,.string a1_1,.bool a1_2,.string a1_3,.bool a1_4,.string a1_5,.bool a1_6,.string a1_7,.bool a1_8,.string a1_9]⟩],[]=>some (p a0_0 a0_1 a0_2 a0_3 a0_4 a0_5 a0_6 a0_7 a0_8 a0_9 a1_0 a1_1 a1_2 a1_3 a1_4 a1_5 a1_6 a1_7 a1_8 a1_9,.tuple ⟨[.agg ⟨[.int .i64 (f a0_0 a0_1 a0_2 a0_3 a0_4 a0_5 a0_6 a0_7 a0_8 a0_9 a1_0 a1_1 a1_2 a1_3 a1_4 a1_5 a1_6 a1_7 a1_8 a1_9).1,.int .i64 (f a0_0 a0_1 a0_2 a0_3 a0_4 a0_5 a0_6 a0_7 a0_8 a0_9 a1_0 a1_1 a1_2 a1_3 a1_4 a1_5 a1_6 a1_7 a1_8 a1_9).2.1]⟩,.int .i64 (f a0_0 a0_1 a0_2 a0_3 a0_4 a0_5 a0_6 a0_7 a0_8 a0_9 a1_0 a1_1 a1_2 a1_3 a1_4 a1_5 a1_6 a1_7 a1_8 a1_9).2.2]⟩,[])
  |_,_=>none
end Go.Proofs.YtpejalpgficopaaGreatDoor.G
end
section
namespace RX
open Go Go.RowKit
set_option linter.unusedVariables false
theorem ct {α:Type} {b:Bool} {x y:α} (h:b=true):(bif b then x else y)=x:=by rw [h]; rfl
theorem cf {α:Type} {b:Bool} {x y:α} (h:b=false):(bif b then x else y)=y:=by rw [h]; rfl
theorem bint {n:Nat} {k:IntKind} {i:Int} :Bnd n (.int k i):=fun g g' _=>by simp
theorem bslice {n b o l c:Nat} (h:b<n):Bnd n (.slice (some ⟨b,o,none⟩) l c):=fun g g' e=>by simp [e b h]
theorem bptr {n b o:Nat} (h:b<n):Bnd n (.pointer (some ⟨b,o,none⟩)):=fun g g' e=>by simp [e b h]
theorem bclo {n:Nat} {v:Value} (h:clo 8 v=true):Bnd n v:=(clo_spec 8 v h).bnd n
theorem bnth {n i:Nat} {S:St} {v:Value} (h:Small n S) (hv:nth S.tmps i=v):Bnd n v:=by
  subst hv
  exact nth_all h.1 (Clo.undef.bnd n) i
def ieq (x y:Int):Bool:=decide (x=y)
theorem ieq_eq {x y:Int} :ieq x y=true↔x=y:=by simp [ieq]
theorem bname {n m:Nat} {S:St} {b:Blk} (h:Small n S) (hb:look S.heap m=some b):m<n:=(h.2 m b hb).1
def gbuild (tm:List (Nat×Value)):Nat→Nat→List Value
  |_,0=>[]
  |i,k+1=>(match look tm i with|some v=>v|none=>GONE)::gbuild tm (i+1) k
theorem nth_gbuild (tm:List (Nat×Value)):∀(k i j:Nat),nth (gbuild tm i k) j=if j<k then (match look tm (i+j) with|some v=>v|none=>GONE) else undef
  |0,i,j=>by simp [gbuild,nth]
  |k+1,i,0=>by simp [gbuild,nth]
  | k+1,i,j+1=>by
    simp only [gbuild,nth]
    rw [nth_gbuild tm k (i+1) j,show i+1+j=i+(j+1) from by omega]
    by_cases h:j<k
    · rw [if_pos h,if_pos (by omega)]
    · rw [if_neg h,if_neg (by omega)]
theorem length_gbuild (tm:List (Nat×Value)):∀(k i:Nat),(gbuild tm i k).length=k
  |0,i=>rfl
  |k+1,i=>by simp [gbuild,length_gbuild tm k (i+1)]
theorem mem_gbuild {tm:List (Nat×Value)} {v:Value} :∀ {k i:Nat},v∈gbuild tm i k→v=GONE∨∃j,look tm j=some v
  |0,i,h=>by simp [gbuild] at h
  | k +1,i,h=>by
    simp only [gbuild,List.mem_cons] at h
    rcases h with h|h
    · subst h
      cases hl:look tm i with
      |none=>exact .inl rfl
      |some v=>exact .inr ⟨i,hl⟩
    · exact mem_gbuild h
inductive Each {α:Type} (p:α→Prop):List α→Prop
  |nil:Each p []
  |cons {x:α} {l:List α} :p x→Each p l→Each p (x::l)
theorem Each.mem {α:Type} {p:α→Prop} {l:List α} (h:Each p l):∀x∈l,p x:=by
  induction h with
  |nil=>intro x hx; cases hx
  | cons h _ ih=>
    intro x hx
    cases hx with
    |head=>exact h
    |tail _ hx=>exact ih x hx
theorem wk_of {T:List Value} {H:Heap} {n k:Nat} {tm:List (Nat×Value)} {H':Heap} (hl:T.length=k) (ht:Each (fun p:Nat×Value=>nth T p.1=p.2∧Bnd n p.2) tm) (hh:Each (fun q:Nat×Blk=>look H q.1=some q.2∧q.1<n∧q.2.clo=true) H'):Wk T H n ⟨gbuild tm 0 k,H',n⟩:=by
  refine ⟨rfl,by rw [length_gbuild,hl],fun i hi=> ?_,fun m b hm=>(hh.mem _ (look_mem hm)).1,⟨fun v hv=> ?_,fun m b hm=>⟨(hh.mem _ (look_mem hm)).2.1,fun c hc=>(Blk.clo_spec (hh.mem _ (look_mem hm)).2.2 c hc).bnd n⟩⟩⟩
  · show nth (gbuild tm 0 k) i=nth T i
    have hi':isGone (nth (gbuild tm 0 k) i)=false:=hi
    rw [nth_gbuild,Nat.zero_add] at hi' ⊢
    by_cases hk:i<k
    · rw [if_pos hk] at hi' ⊢
      cases hlk:look tm i with
      |none=>rw [hlk] at hi'; simp [GONE,isGone] at hi'
      |some v=>exact (ht.mem _ (look_mem hlk)).1.symm
    · rw [if_neg hk,nth_ge (by omega)]
  · rcases mem_gbuild hv with rfl|⟨j,hj⟩
    · exact bclo rfl
    · exact (ht.mem _ (look_mem hj)).2
section
variable {P:Program} {N:Nat→Prop} {E:Env} {L:List (Nat×LSpec)} {f:Nat} {c:Code}
theorem lok_or {t u:LSpec} (h1:LOKn P N c t) (h2:LOKn P N c u):LOKn P N c (fun S=>match t S with|some lt=>some lt|none=>u S):=fun S lt x S' ht hat=>by
  simp only at ht
  split at ht
  · rename_i lt' h
    injection ht with ht
    subst ht
    exact h1 S _ x S' h hat
  · exact h2 S lt x S' ht hat
end
theorem loops_cons {P:Program} {N:Nat→Prop} {b c:Code} {i:Nat} {t:LSpec} {L:List (Nat×LSpec)} (hl:(loopsIn b).filter (fun p=>Nat.beq i p.1)=[(i,c)]) (h:LOKn P N c t) (r:LsOkn P N L b):LsOkn P N ((i,t)::L) b:=fun p hp t' ht=>by
  simp only [look] at ht
  cases he:Nat.beq i p.1 with
  |false=>rw [he] at ht; exact r p hp t' ht
  | true=>
    rw [he] at ht
    simp only [cond_true,Option.some.injEq] at ht
    subst ht
    have hm:p∈(loopsIn b).filter (fun p=>Nat.beq i p.1):=List.mem_filter.2 ⟨hp,he⟩
    rw [hl,List.mem_singleton] at hm
    subst hm
    exact h
def loopIn (c:Code) (i:Nat):Code:=match look (loopsIn c) i with|some c=>c|none=> .skip
end RX
end
section
namespace RX
open Go Go.RowKit
set_option linter.unusedVariables false
structure WkR (ρ:Nat→Nat) (T:List Value) (H:Heap) (n:Nat) (S:St):Prop where
  nx:S.nxt=n
  len:S.tmps.length=T.length
  tms:∀i,isGone (nth S.tmps i)=false→isGone (nth T i)=false∧∀g:Nat→Nat,ren g (nth T i)=ren (fun m=>g (ρ m)) (nth S.tmps i)
  hp:∀m b,look S.heap m=some b→look H (ρ m)=some b∧∀c∈b.cells,Clo c
  inj:∀m k b c,look S.heap m=some b→look S.heap k=some c→ρ m=ρ k→m=k
  sm:Small n S
theorem SRel.wkR {W0:World} {out:Nat→Prop} {g0:Nat→Nat} {n:Nat} {S S':St} {ρ:Nat→Nat} {a:Act} {w:World} (h:SRel W0 out g0 0 S a w) (hw:WkR ρ S.tmps S.heap n S'):SRel W0 out g0 0 S' a w:=by
  obtain ⟨g,_,_,tr,hr⟩:=h
  refine ⟨fun m=>g (ρ m),fun n hn=>absurd hn (Nat.not_lt_zero _),Nat.zero_le _,⟨by rw [tr.sz,hw.len],fun i hi=> ?_,tr.df,by rw [hw.nx]; exact hw.sm.1⟩,?_⟩
  · obtain ⟨h1,h2⟩:=hw.tms i hi
    rw [tr.tm i h1,h2 g]
  · rw [hw.nx]
    refine ⟨fun m b hm=>(hw.sm.2 m b hm).1,fun m b hm=>(hw.sm.2 m b hm).2,fun m b hm=> ?_,fun m k b c hm hk e=> ?_,fun m b hm=>hr.own _ b (hw.hp m b hm).1,hr.keep,hr.tabs,fun m b hm=>hr.ntab _ b (hw.hp m b hm).1⟩
    · obtain ⟨h1,h2⟩:=hw.hp m b hm
      have:=hr.mem _ b h1
      rw [map_clo h2] at this
      rw [map_clo h2]
      exact this
    · exact hw.inj m k b c hm hk (hr.inj _ _ b c (hw.hp m b hm).1 (hw.hp k c hk).1 e)
def mp (l:List (Nat×Nat)) (n:Nat):Nat:=match look l n with|some m=>m|none=>n
def nodB:List Nat→Bool
  |[]=>true
  |a::r=> !(memN a r)&&nodB r
theorem nodB_of:∀ {l:List Nat},nodB l=true→l.Nodup
  |[],_=>List.nodup_nil
  | a::r,h=>by
    simp only [nodB,Bool.and_eq_true,Bool.not_eq_true'] at h
    refine List.nodup_cons.2 ⟨fun hm=> ?_,nodB_of h.2⟩
    rw [memN_spec.2 hm] at h
    cases h.1
theorem wkR_of {ρ:Nat→Nat} {T:List Value} {H:Heap} {n k:Nat} {tm:List (Nat×Value)} {H':Heap} (hl:T.length=k) (ht:Each (fun p:Nat×Value=>(isGone (nth T p.1)=false∧∀g:Nat→Nat,ren g (nth T p.1)=ren (fun m=>g (ρ m)) p.2)∧Bnd n p.2) tm) (hh:Each (fun q:Nat×Blk=>look H (ρ q.1)=some q.2∧q.1<n∧q.2.clo=true) H') (hi0:nodB (H'.map fun q=>ρ q.1)=true):WkR ρ T H n ⟨gbuild tm 0 k,H',n⟩:=by
  have hi:=nodB_of hi0
  refine ⟨rfl,by rw [length_gbuild,hl],fun i hi=> ?_,fun m b hm=>⟨(hh.mem _ (look_mem hm)).1,Blk.clo_spec (hh.mem _ (look_mem hm)).2.2⟩,fun m k' b c hm hk e=> ?_,⟨fun v hv=> ?_,fun m b hm=>⟨(hh.mem _ (look_mem hm)).2.1,fun c hc=>(Blk.clo_spec (hh.mem _ (look_mem hm)).2.2 c hc).bnd n⟩⟩⟩
  · show isGone (nth T i)=false∧∀g:Nat→Nat,ren g (nth T i)=ren (fun m=>g (ρ m)) (nth (gbuild tm 0 k) i)
    have hi':isGone (nth (gbuild tm 0 k) i)=false:=hi
    rw [nth_gbuild,Nat.zero_add] at hi' ⊢
    by_cases hk:i<k
    · rw [if_pos hk] at hi' ⊢
      cases hlk:look tm i with
      |none=>rw [hlk] at hi'; simp [GONE,isGone] at hi'
      |some v=>exact (ht.mem _ (look_mem hlk)).1
    · rw [if_neg hk] at hi' ⊢
      have hT:nth T i=undef:=nth_ge (by omega)
      rw [hT]
      exact ⟨hi',fun g=>rfl⟩
  · have h1:=look_mem hm
    have h2:=look_mem hk
    obtain ⟨i,hi1,hi2⟩:=List.getElem_of_mem h1
    obtain ⟨j,hj1,hj2⟩:=List.getElem_of_mem h2
    have hij:i=j:=nodup_inj hi (by simpa using hi1) (by simpa using hj1) (by simp only [List.getElem_map,hi2,hj2]; exact e)
    subst hij
    rw [hi2] at hj2
    injection hj2
  · rcases mem_gbuild hv with rfl|⟨j,hj⟩
    · exact bclo rfl
    · exact (ht.mem _ (look_mem hj)).2
inductive Lpe (P:Program) (c:Code):St→X→St→Prop
  |step {E:Env} {f:Nat} {S:St} {T:List Value} {H:Heap} {x:X} {S2 S':St} {ρ:Nat→Nat} :EnvOk P E→exec P E [] (hs P E f).lf (hs P E f).cf c S (fun x S=>some (x,S.tmps,S.heap))=some (.normal,T,H)→(Small S.nxt S→WkR ρ T H S.nxt S2)→Lpe P c S2 x S'→Lpe P c S x S'
  |stop {E:Env} {f:Nat} {S:St} {T:List Value} {H:Heap} {x:X} {S2:St} {ρ:Nat→Nat} :EnvOk P E→exec P E [] (hs P E f).lf (hs P E f).cf c S (fun x S=>some (x,S.tmps,S.heap))=some (x,T,H)→x≠ .normal→(Small S.nxt S→WkR ρ T H S.nxt S2)→Lpe P c S x S2
  |enter {S S2:St} {x:X} {S':St} :(Small S.nxt S→Wk S.tmps S.heap S.nxt S2)→Lpe P c S2 x S'→Lpe P c S x S'
end RX
end
