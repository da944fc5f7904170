/- A part of what the law's proof leans on. PACKED BY pack.py of this repo. -/
import Derived.Test.YtpejalpgficopaaGreatDoorR2
section
namespace RX
open Go Go.RowKit
set_option linter.unusedVariables false
def enum:List Blk→Nat→Heap
  |[],_=>[]
  |b::r,n=>(n,b)::enum r (n+1)
theorem look_enum:∀(l:List Blk) (n m:Nat),look (enum l n) m=if m<n then none else l[m-n]?
  |[],n,m=>by simp [enum,look]
  | b ::r,n,m=>by
    simp only [enum,look]
    cases h:Nat.beq n m with
    | true=>
      have:=Nat.eq_of_beq_eq_true h
      subst this
      simp
    | false=>
      have hne:n≠m:=fun e=>by subst e; simp at h
      simp only [cond_false,look_enum r (n+1) m]
      by_cases hlt:m<n
      · simp [hlt,show m<n+1 from by omega]
      · have:¬m<n+1:=by omega
        simp only [hlt,this,if_false]
        rw [show m-n=(m-(n+1))+1 from by omega,List.getElem?_cons_succ]
def firstB (H:Heap):Nat→Nat→Option (List Blk)
  |_,0=>some []
  | i,n+1=>match look H i,firstB H (i+1) n with
    |some b,some l=>some (b::l)
    |_,_=>none
theorem firstB_get {H:Heap} :∀ {n i:Nat} {l:List Blk},firstB H i n=some l→l.length=n∧∀(j:Nat) (b:Blk),l[j]? =some b→look H (i+j)=some b
  |0,i,l,h=>by simp [firstB] at h; subst h; simp
  | n + 1,i,l,h=>by
    simp only [firstB] at h
    split at h
    · rename_i b r hb hr
      injection h with h; subst h
      obtain ⟨h1,h2⟩:=firstB_get hr
      refine ⟨by simp [h1],fun j c hj=> ?_⟩
      cases j with
      |zero=>simp at hj; subst hj; exact hb
      | succ j=>
        have:=h2 j c (by simpa using hj)
        rwa [show i+1+j=i+(j+1) from by omega] at this
    · simp at h
def xfn (P:Program) (E:Env) (L:List (Nat×LSpec)) (n:Nat) (fn:Func) (vs:List Value) (bl:List Blk):Option (Value×List Blk):=
  execFn P E L (hs P E n).lf (hs P E n).cf fn vs (enum bl 0) bl.length fun v H _=>match firstB H 0 bl.length with|some l=>some (v,l)|none=>none
structure Told (P:Program) (E:Env) (L:List (Nat×LSpec)) (n:Nat) (fn:Func) (vs:List Value) (bl:List Blk) (v:Value) (bl':List Blk):Prop where
  run:xfn P E L n fn vs bl=some (v,bl')
  args:∀u∈vs,okV (fun m=>Nat.blt m bl.length) 8 u=true
  clo:Clo v
  blk:∀b∈bl',∀c∈b.cells,Clo c
theorem sok_of' {P:Program} {E:Env} {L:List (Nat×LSpec)} {N:Nat→Prop} (hE:EnvOk P E) (n:Nat) {f:FuncId} {fn:Func} (hf:P.funcs[f]? =some fn) (hn:fn.name≠ "runtime.NumGoroutine") (hb:fn.body.isSome=true) (hL:∀c,fn.body=some c→LsOkn P N L c) {s:HSpec}
    (h:∀vs bl v bl',s vs bl=some (true,v,bl')→Told P E L n fn vs bl v bl'∧N bl.length):SOK P f s:=by
  refine ⟨⟨fn,hf,hn,hb⟩,fun vs bl v bl' hs hcl g w hmem hinj htab hnt=> ?_⟩
  obtain ⟨⟨hrun,hargs,hcv,hcb⟩,hN⟩:=h vs bl v bl' hs
  have bnd:∀u∈vs,Bnd bl.length u:=fun u hu g g' e=>okV_spec (fun m hm=>e m (by simpa [Nat.blt_eq] using hm)) 8 u (hargs u hu)
  have lk:∀m b,look (enum bl 0) m=some b→bl[m]? =some b:=fun m b h=>by
    rw [look_enum] at h
    simpa using h
  have hr:HRel w (fun k=>∃i,i<bl.length∧k=g i) g (enum bl 0) bl.length w:=by
    refine ⟨fun m b hm=> ?_,fun m b hm=> ?_,fun m b hm=> ?_,fun m k b c hm hk e=> ?_,fun m b hm=> ?_,Keep.refl w _,htab,fun m b hm=>hnt m (List.getElem?_eq_some_iff.1 (lk m b hm)).1⟩
    · exact (List.getElem?_eq_some_iff.1 (lk m b hm)).1
    · exact fun c hc=>(hcl b (List.mem_of_getElem? (lk m b hm)) c hc).bnd _
    · rw [hmem m b (lk m b hm),map_clo (hcl b (List.mem_of_getElem? (lk m b hm)))]
    · exact hinj m k (List.getElem?_eq_some_iff.1 (lk m b hm)).1 (List.getElem?_eq_some_iff.1 (lk k c hk)).1 e
    · exact .inr ⟨m,(List.getElem?_eq_some_iff.1 (lk m b hm)).1,rfl⟩
  refine (execFn_sound hE (hs_lf hE n) (hs_cf hE n) hf hL hN hrun hr bnd).mono fun e w' ⟨v',g',H',nx',he,hk,hag,hle,hr',hbv⟩=> ?_
  split at hk
  · rename_i l hl
    simp only [Option.some.injEq,Prod.mk.injEq] at hk
    obtain ⟨rfl,rfl⟩:=hk
    obtain ⟨h1,h2⟩:=firstB_get hl
    have hlen:l.length=bl.length:=h1
    refine ⟨g,fun _ _=>rfl,by rw [he,hcv g',hcv g],fun i b hi=> ?_,fun i h3 h4=>by omega,fun i j h3 h4=>by omega,hr'.keep⟩
    have:=hr'.mem i b (by have:=h2 i b hi; rwa [Nat.zero_add] at this)
    have hlt:i<bl.length:=by rw [←h1]; exact (List.getElem?_eq_some_iff.1 hi).1
    rw [hag i hlt,map_clo (hcb b (List.mem_of_getElem? hi))] at this
    exact this
  · simp at hk
theorem sok_of {P:Program} {E:Env} {L:List (Nat×LSpec)} (hE:EnvOk P E) (n:Nat) {f:FuncId} {fn:Func} (hf:P.funcs[f]? =some fn) (hn:fn.name≠ "runtime.NumGoroutine") (hb:fn.body.isSome=true) (hL:∀c,fn.body=some c→LsOk P L c) {s:HSpec}
    (h:∀vs bl v bl',s vs bl=some (true,v,bl')→Told P E L n fn vs bl v bl'):SOK P f s:=
  sok_of' hE n hf hn hb hL fun vs bl v bl' hs=>⟨h vs bl v bl' hs,trivial⟩
def xfnN (P:Program) (E:Env) (L:List (Nat×LSpec)) (n:Nat) (fn:Func) (vs:List Value) (bl:List Blk) (rn:List Nat):Option (Value×List Blk):=
  execFn P E L (hs P E n).lf (hs P E n).cf fn vs (enum bl 0) bl.length fun v H _=>match firstB H 0 bl.length,getB H rn with|some l,some l2=>some (v,l++l2)|_,_=>none
def rho (m:Nat) (rn:List Nat) (i:Nat):Nat:=if i<m then i else rn.getD (i-m) 0
structure ToldN (P:Program) (E:Env) (L:List (Nat×LSpec)) (n:Nat) (fn:Func) (vs:List Value) (bl:List Blk) (v:Value) (bl':List Blk) (rn:List Nat):Prop where
  run:xfnN P E L n fn vs bl rn=some (ren (rho bl.length rn) v,bl')
  args:∀u∈vs,okV (fun m=>Nat.blt m bl.length) 8 u=true
  ok:okN bl'.length 8 v=true
  blk:∀b∈bl',∀c∈b.cells,Clo c
  nod:rn.Nodup
  big:∀x∈rn,bl.length≤x
theorem sok_ofN' {P:Program} {E:Env} {L:List (Nat×LSpec)} {N:Nat→Prop} (hE:EnvOk P E) (n:Nat) {f:FuncId} {fn:Func} (hf:P.funcs[f]? =some fn) (hn:fn.name≠ "runtime.NumGoroutine") (hb:fn.body.isSome=true) (hL:∀c,fn.body=some c→LsOkn P N L c) {s:HSpec}
    (h:∀vs bl v bl',s vs bl=some (true,v,bl')→(∃rn,ToldN P E L n fn vs bl v bl' rn)∧N bl.length):SOK P f s:=by
  refine ⟨⟨fn,hf,hn,hb⟩,fun vs bl v bl' hs hcl g w hmem hinj htab hnt=> ?_⟩
  obtain ⟨⟨rn,hrun,hargs,hok,hcb,hnod,hbig⟩,hN⟩:=h vs bl v bl' hs
  have bnd:∀u∈vs,Bnd bl.length u:=fun u hu g g' e=>okV_spec (fun m hm=>e m (by simpa [Nat.blt_eq] using hm)) 8 u (hargs u hu)
  have lk:∀m b,look (enum bl 0) m=some b→bl[m]? =some b:=fun m b h=>by
    rw [look_enum] at h
    simpa using h
  have hr:HRel w (fun k=>∃i,i<bl.length∧k=g i) g (enum bl 0) bl.length w:=by
    refine ⟨fun m b hm=> ?_,fun m b hm=> ?_,fun m b hm=> ?_,fun m k b c hm hk e=> ?_,fun m b hm=> ?_,Keep.refl w _,htab,fun m b hm=>hnt m (List.getElem?_eq_some_iff.1 (lk m b hm)).1⟩
    · exact (List.getElem?_eq_some_iff.1 (lk m b hm)).1
    · exact fun c hc=>(hcl b (List.mem_of_getElem? (lk m b hm)) c hc).bnd _
    · rw [hmem m b (lk m b hm),map_clo (hcl b (List.mem_of_getElem? (lk m b hm)))]
    · exact hinj m k (List.getElem?_eq_some_iff.1 (lk m b hm)).1 (List.getElem?_eq_some_iff.1 (lk k c hk)).1 e
    · exact .inr ⟨m,(List.getElem?_eq_some_iff.1 (lk m b hm)).1,rfl⟩
  refine (execFn_sound hE (hs_lf hE n) (hs_cf hE n) hf hL hN hrun hr bnd).mono fun e w' ⟨v',g',H',nx',he,hk,hag,hle,hr',hbv⟩=> ?_
  split at hk
  · rename_i l l2 hl hl2
    simp only [Option.some.injEq,Prod.mk.injEq] at hk
    obtain ⟨rfl,rfl⟩:=hk
    obtain ⟨h1,h2⟩:=firstB_get hl
    obtain ⟨h3,h4⟩:=getB_get hl2
    have hlook:∀i,bl.length≤i→i<(l++l2).length→∃x b,rn[i-bl.length]? =some x∧l2[i-bl.length]? =some b∧look H' x=some b∧rho bl.length rn i=x:=fun i hi hi2=>by
      have hi3:i-bl.length<l2.length:=by simp only [List.length_append] at hi2; omega
      obtain ⟨x,hx1,hx2⟩:=h4 _ _ (List.getElem?_eq_getElem hi3)
      refine ⟨x,_,hx1,List.getElem?_eq_getElem hi3,hx2,?_⟩
      unfold rho
      rw [if_neg (by omega),List.getD_eq_getElem?_getD,hx1]
      rfl
    refine ⟨fun i=>g' (rho bl.length rn i),fun i hi=> ?_,?_,fun i b hi=> ?_,fun i hi hi2=> ?_,fun i j hi hi2 hj hj2 e=> ?_,hr'.keep⟩
    · show g' (rho bl.length rn i)=g i
      unfold rho
      rw [if_pos hi,hag i hi]
    · rw [he,okN_comp (g:=g') (h:=rho bl.length rn) (k:=fun i=>g' (rho bl.length rn i)) (fun i _=>rfl) 8 v hok]
    · have hb0:=hcb b (List.mem_of_getElem? hi)
      show w'.heap[g' (rho bl.length rn i)]? =_
      by_cases hlt:i<bl.length
      · rw [List.getElem?_append_left (by omega)] at hi
        have:=hr'.mem i b (by have:=h2 i b hi; rwa [Nat.zero_add] at this)
        unfold rho
        rw [if_pos hlt,this,map_clo hb0]
      · obtain ⟨x,b',hx1,hx2,hx3,hx4⟩:=hlook i (by omega) (List.getElem?_eq_some_iff.1 hi).1
        rw [List.getElem?_append_right (by omega),h1,hx2] at hi
        injection hi with hi
        subst hi
        rw [hx4,hr'.mem x _ hx3,map_clo hb0]
    · obtain ⟨x,b',hx1,hx2,hx3,hx4⟩:=hlook i hi hi2
      show w.heap.size≤g' (rho bl.length rn i)
      rw [hx4]
      rcases hr'.own x b' hx3 with ho|⟨j,hj,ho⟩
      · exact ho
      · exfalso
        have hlj:∃b,look H' j=some b:=⟨l[j]'(by omega),by have:=h2 j _ (List.getElem?_eq_getElem (by omega)); rwa [Nat.zero_add] at this⟩
        obtain ⟨b2,hb2⟩:=hlj
        have:=hr'.inj x j b' b2 hx3 hb2 (by rw [ho,hag j hj])
        have:=hbig x (List.mem_of_getElem? hx1)
        omega
    · obtain ⟨x,b1,hx1,hx2,hx3,hx4⟩:=hlook i hi hi2
      obtain ⟨y,b2,hy1,hy2,hy3,hy4⟩:=hlook j hj hj2
      simp only [hx4,hy4] at e
      have:=hr'.inj x y b1 b2 hx3 hy3 e
      subst this
      obtain ⟨p1,q1⟩:=List.getElem?_eq_some_iff.1 hx1
      obtain ⟨p2,q2⟩:=List.getElem?_eq_some_iff.1 hy1
      have:=nodup_inj hnod p1 p2 (q1.trans q2.symm)
      omega
  · simp at hk
theorem sok_ofN {P:Program} {E:Env} {L:List (Nat×LSpec)} (hE:EnvOk P E) (n:Nat) {f:FuncId} {fn:Func} (hf:P.funcs[f]? =some fn) (hn:fn.name≠ "runtime.NumGoroutine") (hb:fn.body.isSome=true) (hL:∀c,fn.body=some c→LsOk P L c) {s:HSpec}
    (h:∀vs bl v bl',s vs bl=some (true,v,bl')→∃rn,ToldN P E L n fn vs bl v bl' rn):SOK P f s:=
  sok_ofN' hE n hf hn hb hL fun vs bl v bl' hs=>⟨h vs bl v bl' hs,trivial⟩
theorem calls_of {P:Program} {f:FuncId} {s:HSpec} (h:SOK P f s) {vs:List Value} {v:Value} (hs:s vs []=some (true,v,[])) (hv:∀u∈vs,Clo u) (hcv:Clo v) (w:World) (ht:TabOk w):
    Calls P f ⟨vs⟩ w fun e w'=>e= .returned v∧Below w.heap.size w w':=by
  have:=h.run vs [] v [] hs (by simp) (fun n=>n) w (by simp) (by simp) ht (fun i hi=>absurd hi (by simp))
  rw [map_clo hv] at this
  refine this.mono fun e w' ⟨g2,_,he,_,_,_,hk⟩=>⟨by rw [he,hcv g2],⟨hk.os,hk.tape,hk.output,hk.size,fun k hk'=>hk.block k hk' (by simp)⟩⟩
theorem specs_nil {P:Program} :∀(f:Nat) (s:HSpec),look ([]:List (Nat×HSpec)) f=some s→SOK P f s:=fun f s h=>by simp [look] at h
theorem specs_cons {P:Program} {n:Nat} {s:HSpec} {l:List (Nat×HSpec)} (h:SOK P n s) (r:∀f s,look l f=some s→SOK P f s):∀(f:Nat) (s':HSpec),look ((n,s)::l) f=some s'→SOK P f s':=fun f s' h'=>by
  simp only [look] at h'
  cases hb:Nat.beq n f with
  | true=>
    have:=Nat.eq_of_beq_eq_true hb
    subst this
    rw [hb] at h'
    simp only [cond_true,Option.some.injEq] at h'
    subst h'
    exact h
  | false=>
    rw [hb] at h'
    exact r f s' h'
def FnOk (P:Program) (f:Nat) (fn:Func):Prop:=P.funcs[f]? =some fn∧fn.name≠ "runtime.NumGoroutine" ∧fn.body.isSome=true
theorem inl_nil {P:Program} :∀(f:Nat) (fn:Func),look ([]:List (Nat×Func)) f=some fn→FnOk P f fn:=fun f s h=>by simp [look] at h
theorem inl_cons {P:Program} {n:Nat} {s:Func} {l:List (Nat×Func)} (h:FnOk P n s) (r:∀f s,look l f=some s→FnOk P f s):∀(f:Nat) (s':Func),look ((n,s)::l) f=some s'→FnOk P f s':=fun f s' h'=>by
  simp only [look] at h'
  cases hb:Nat.beq n f with
  | true=>
    have:=Nat.eq_of_beq_eq_true hb
    subst this
    rw [hb] at h'
    simp only [cond_true,Option.some.injEq] at h'
    subst h'
    exact h
  | false=>
    rw [hb] at h'
    exact r f s' h'
theorem acond {α β:Type} (k:α→β) (b:Bool) (x y:α):k (bif b then x else y)=bif b then k x else k y:=by cases b<;>rfl
theorem bcond {α β:Type} (k:α→Option β) (b:Bool) (x y:Option α):(bif b then x else y).bind k=bif b then x.bind k else y.bind k:=by cases b<;>rfl
theorem told_blk {l:List Blk} (h:l.all Blk.clo=true):∀b∈l,∀c∈b.cells,Clo c:=fun b hb=>Blk.clo_spec (by rw [List.all_eq_true] at h; exact h b hb)
theorem no_loops {P:Program} {N:Nat→Prop} {fn:Func} :∀c,fn.body=some c→LsOkn P N [] c:=fun _ _=>lsOk_nil
theorem one_loop {P:Program} {N:Nat→Prop} {fn:Func} {i:Nat} {b c:Code} {t:LSpec} (hb:fn.body=some b) (hl:(loopsIn b).filter (fun p=>Nat.beq i p.1)=[(i,c)]) (h:LOKn P N c t):∀c,fn.body=some c→LsOkn P N [(i,t)] c:=fun b' hb' p hp t' ht=>by
  rw [hb] at hb'
  injection hb' with hb'
  subst hb'
  simp only [look] at ht
  cases he:Nat.beq i p.1 with
  |false=>rw [he] at ht; cases ht
  | true=>
    rw [he] at ht
    simp only [cond_true,Option.some.injEq] at ht
    subst ht
    have hm:p∈(loopsIn b).filter (fun p=>Nat.beq i p.1):=List.mem_filter.2 ⟨hp,he⟩
    rw [hl,List.mem_singleton] at hm
    subst hm
    exact h
def Small (n:Nat) (S:St):Prop:=(∀v∈S.tmps,Bnd n v)∧(∀m b,look S.heap m=some b→m<n∧∀c∈b.cells,Bnd n c)
theorem SRel.small {W0:World} {out:Nat→Prop} {g0:Nat→Nat} {n0:Nat} {S:St} {a:Act} {w:World} (h:SRel W0 out g0 n0 S a w):n0≤S.nxt∧Small S.nxt S:=by
  obtain ⟨g,_,hn,tr,hr⟩:=h
  exact ⟨hn,tr.tb,fun m b hm=>⟨hr.dom m b hm,fun c hc=>hr.bnd m b hm c hc⟩⟩
theorem SRel.back {W0:World} {out:Nat→Prop} {g0:Nat→Nat} {n0 n:Nat} {S:St} {a:Act} {w:World} (h:SRel W0 out g0 n0 S a w) (hn:n0≤n) (hs:Small n S):SRel W0 out g0 n0 ⟨S.tmps,S.heap,n⟩ a w:=by
  obtain ⟨g,hg,_,tr,hr⟩:=h
  exact ⟨g,hg,hn,⟨tr.sz,tr.tm,tr.df,hs.1⟩,⟨fun m b hm=>(hs.2 m b hm).1,fun m b hm=>(hs.2 m b hm).2,hr.mem,hr.inj,hr.own,hr.keep,hr.tabs,hr.ntab⟩⟩
def Sub (N:Nat→Prop) (S S':St):Prop:=∀(W0:World) (out:Nat→Prop) (g0:Nat→Nat) (n0:Nat) (a:Act) (w:World),N n0→SRel W0 out g0 n0 S a w→SRel W0 out g0 n0 S' a w
structure Wk (T:List Value) (H:Heap) (n:Nat) (S:St):Prop where
  nx:S.nxt=n
  len:S.tmps.length=T.length
  tms:∀i,isGone (nth S.tmps i)=false→nth S.tmps i=nth T i
  hp:∀m b,look S.heap m=some b→look H m=some b
  sm:Small n S
theorem SRel.wk {W0:World} {out:Nat→Prop} {g0:Nat→Nat} {n0 n:Nat} {S S':St} {a:Act} {w:World} (h:SRel W0 out g0 n0 S a w) (hn:n0≤n) (hw:Wk S.tmps S.heap n S'):SRel W0 out g0 n0 S' a w:=by
  obtain ⟨g,hg,_,tr,hr⟩:=h
  refine ⟨g,hg,by rw [hw.nx]; exact hn,⟨by rw [tr.sz,hw.len],fun i hi=> ?_,tr.df,by rw [hw.nx]; exact hw.sm.1⟩,?_⟩
  · have:=hw.tms i hi
    rw [this] at hi ⊢
    exact tr.tm i hi
  · rw [hw.nx]
    exact ⟨fun m b hm=>(hw.sm.2 m b hm).1,fun m b hm=>(hw.sm.2 m b hm).2,fun m b hm=>hr.mem m b (hw.hp m b hm),fun m k b c hm hk=>hr.inj m k b c (hw.hp m b hm) (hw.hp k c hk),fun m b hm=>hr.own m b (hw.hp m b hm),hr.keep,hr.tabs,fun m b hm=>hr.ntab m b (hw.hp m b hm)⟩
inductive Lpn (P:Program) (N:Nat→Prop) (E:Env) (L:List (Nat×LSpec)) (f:Nat) (c:Code):St→X→St→Prop
  |done {S:St} {x:X} {T:List Value} {H:Heap} :exec P E L (hs P E f).lf (hs P E f).cf c S (fun x S=>some (x,S.tmps,S.heap))=some (x,T,H)→(match x with| .normal=>False|_=>True)→(Small S.nxt S→Small S.nxt ⟨T,H,S.nxt⟩)→Lpn P N E L f c S x ⟨T,H,S.nxt⟩
  |more {S:St} {T:List Value} {H:Heap} {x:X} {S':St} :exec P E L (hs P E f).lf (hs P E f).cf c S (fun x S=>some (x,S.tmps,S.heap))=some (.normal,T,H)→(Small S.nxt S→Small S.nxt ⟨T,H,S.nxt⟩)→Lpn P N E L f c ⟨T,H,S.nxt⟩ x S'→Lpn P N E L f c S x S'
  |next {S S1:St} {x:X} {S':St} :exec P E L (hs P E f).lf (hs P E f).cf c S (fun x S=>some (x,S))=some (.normal,S1)→Lpn P N E L f c S1 x S'→Lpn P N E L f c S x S'
  |last {S S1:St} {x:X} :exec P E L (hs P E f).lf (hs P E f).cf c S (fun x S=>some (x,S))=some (x,S1)→(match x with| .normal=>False|_=>True)→Lpn P N E L f c S x S1
  |more' {S:St} {T:List Value} {H:Heap} {x:X} {S2 S':St} :exec P E L (hs P E f).lf (hs P E f).cf c S (fun x S=>some (x,S.tmps,S.heap))=some (.normal,T,H)→(Small S.nxt S→Wk T H S.nxt S2)→Lpn P N E L f c S2 x S'→Lpn P N E L f c S x S'
  |done' {S:St} {T:List Value} {H:Heap} {x:X} {S2:St} :exec P E L (hs P E f).lf (hs P E f).cf c S (fun x S=>some (x,S.tmps,S.heap))=some (x,T,H)→x≠ .normal→(Small S.nxt S→Wk T H S.nxt S2)→Lpn P N E L f c S x S2
  |weak {S S1:St} {x:X} {S':St} :Sub N S S1→Lpn P N E L f c S1 x S'→Lpn P N E L f c S x S'
  |weaken {S:St} {x:X} {S1 S':St} :Lpn P N E L f c S x S1→Sub N S1 S'→Lpn P N E L f c S x S'
abbrev Lp (P:Program) (E:Env) (L:List (Nat×LSpec)) (f:Nat) (c:Code):St→X→St→Prop:=Lpn P (fun _=>True) E L f c
theorem Lp.done {P:Program} {E:Env} {L:List (Nat×LSpec)} {f:Nat} {c:Code} {S:St} {x:X} {T:List Value} {H:Heap} :exec P E L (hs P E f).lf (hs P E f).cf c S (fun x S=>some (x,S.tmps,S.heap))=some (x,T,H)→(match x with| .normal=>False|_=>True)→(Small S.nxt S→Small S.nxt ⟨T,H,S.nxt⟩)→Lp P E L f c S x ⟨T,H,S.nxt⟩:=Lpn.done
theorem Lp.more {P:Program} {E:Env} {L:List (Nat×LSpec)} {f:Nat} {c:Code} {S:St} {T:List Value} {H:Heap} {x:X} {S':St} :exec P E L (hs P E f).lf (hs P E f).cf c S (fun x S=>some (x,S.tmps,S.heap))=some (.normal,T,H)→(Small S.nxt S→Small S.nxt ⟨T,H,S.nxt⟩)→Lp P E L f c ⟨T,H,S.nxt⟩ x S'→Lp P E L f c S x S':=Lpn.more
theorem lp_rounds {P:Program} {N:Nat→Prop} {E:Env} (hE:EnvOk P E) {L:List (Nat×LSpec)} {f:Nat} {c:Code} (hL:LsOkn P N L c) {S:St} {x:X} {S':St} (h:Lpn P N E L f c S x S')
    {W0:World} {out:Nat→Prop} {g0:Nat→Nat} {n0:Nat} (hN:N n0) {Q:Exit→Act→World→Prop} (hQ:∀a' w',SRel W0 out g0 n0 S' a' w'→Q x.to a' w'):
    ∃n,∀(a:Act) (w:World),SRel W0 out g0 n0 S a w→Code.rounds P c Q n a w:=by
  induction h with
  | @done S x T H he hx hs=>
    refine ⟨1,fun a w hr=> ?_⟩
    rw [rounds_succ]
    obtain ⟨hn,hsm⟩:=hr.small
    refine exec_sound hE (hs_lf hE f) (hs_cf hE f) c hL S _ _ he W0 out g0 n0 a w _ hN hr fun y U a' w' hy ht=> ?_
    simp only [Option.some.injEq,Prod.mk.injEq] at hy
    obtain ⟨rfl,rfl,rfl⟩:=hy
    have:=hQ a' w' (ht.back hn (hs hsm))
    cases y with
    |normal=>exact hx.elim
    |exit i=>exact this
    |ret=>exact this
  | @more S T H x S' he hs _ ih=>
    obtain ⟨n,hn⟩:=ih hQ
    refine ⟨n+1,fun a w hr=> ?_⟩
    rw [rounds_succ]
    obtain ⟨hn',hsm⟩:=hr.small
    refine exec_sound hE (hs_lf hE f) (hs_cf hE f) c hL S _ _ he W0 out g0 n0 a w _ hN hr fun y U a' w' hy ht=> ?_
    simp only [Option.some.injEq,Prod.mk.injEq] at hy
    obtain ⟨rfl,rfl,rfl⟩:=hy
    exact hn a' w' (ht.back hn' (hs hsm))
  | @next S S1 x S' he _ ih=>
    obtain ⟨n,hn⟩:=ih hQ
    refine ⟨n+1,fun a w hr=> ?_⟩
    rw [rounds_succ]
    refine exec_sound hE (hs_lf hE f) (hs_cf hE f) c hL S _ _ he W0 out g0 n0 a w _ hN hr fun y U a' w' hy ht=> ?_
    simp only [Option.some.injEq,Prod.mk.injEq] at hy
    obtain ⟨rfl,rfl⟩:=hy
    exact hn a' w' ht
  | @last S S1 x he hx=>
    refine ⟨1,fun a w hr=> ?_⟩
    rw [rounds_succ]
    refine exec_sound hE (hs_lf hE f) (hs_cf hE f) c hL S _ _ he W0 out g0 n0 a w _ hN hr fun y U a' w' hy ht=> ?_
    simp only [Option.some.injEq,Prod.mk.injEq] at hy
    obtain ⟨rfl,rfl⟩:=hy
    have:=hQ a' w' ht
    cases y with
    |normal=>exact hx.elim
    |exit i=>exact this
    |ret=>exact this
  | @more' S T H x S2 S' he hs _ ih=>
    obtain ⟨n,hn⟩:=ih hQ
    refine ⟨n+1,fun a w hr=> ?_⟩
    rw [rounds_succ]
    obtain ⟨hn',hsm⟩:=hr.small
    refine exec_sound hE (hs_lf hE f) (hs_cf hE f) c hL S _ _ he W0 out g0 n0 a w _ hN hr fun y U a' w' hy ht=> ?_
    simp only [Option.some.injEq,Prod.mk.injEq] at hy
    obtain ⟨rfl,rfl,rfl⟩:=hy
    exact hn a' w' (ht.wk hn' (hs hsm))
  | @done' S T H x S2 he hx hs=>
    refine ⟨1,fun a w hr=> ?_⟩
    rw [rounds_succ]
    obtain ⟨hn,hsm⟩:=hr.small
    refine exec_sound hE (hs_lf hE f) (hs_cf hE f) c hL S _ _ he W0 out g0 n0 a w _ hN hr fun y U a' w' hy ht=> ?_
    simp only [Option.some.injEq,Prod.mk.injEq] at hy
    obtain ⟨rfl,rfl,rfl⟩:=hy
    have:=hQ a' w' (ht.wk hn (hs hsm))
    cases y with
    |normal=>exact absurd rfl hx
    |exit i=>exact this
    |ret=>exact this
  | @weak S S1 x S' hs _ ih=>
    obtain ⟨n,hn⟩:=ih hQ
    exact ⟨n,fun a w hr=>hn a w (hs W0 out g0 n0 a w hN hr)⟩
  | @weaken S x S1 S' _ hs ih=>exact ih fun a' w' hr=>hQ a' w' (hs W0 out g0 n0 a' w' hN hr)
theorem Small.of {n:Nat} {S:St} (h:Small n S) {T:List Value} (ht:∀v∈T,Clo v∨v∈S.tmps):Small n ⟨T,S.heap,n⟩:=
  ⟨fun v hv=>(ht v hv).elim (fun c=>c.bnd n) (fun c=>h.1 v c),h.2⟩
def loopCode (fn:Func) (i:Nat):Code:=match fn.body with
  |some b=>(match look (loopsIn b) i with|some c=>c|none=> .skip)
  |none=> .skip
theorem lok_ofn {P:Program} {N:Nat→Prop} {E:Env} (hE:EnvOk P E) {L:List (Nat×LSpec)} {f:Nat} {c:Code} {t:LSpec} (hc:LsOkn P N L c) (h:∀S lt x S',t S=some lt→lt.at=some (x,S')→Lpn P N E L f c S x S'):LOKn P N c t:=fun S lt x S' ht hat W0 out g0 n0 a w Q hN hr hQ=>by
  obtain ⟨n,hn⟩:=lp_rounds hE hc (h S lt x S' ht hat) hN (Q:=Q) hQ
  exact wp_loop_rounds n (hn a w hr)
theorem lok_of {P:Program} {E:Env} (hE:EnvOk P E) {L:List (Nat×LSpec)} {f:Nat} {c:Code} {t:LSpec1} (hc:LsOk P L c) (h:∀S x S',t S=some (true,x,S')→Lp P E L f c S x S'):LOK P c (one1 t):=by
  refine lok_ofn (f:=f) hE hc fun S lt x S' ht hat=> ?_
  unfold one1 at ht
  split at ht
  · rename_i need y U hts
    injection ht with ht
    subst ht
    cases need with
    |false=>cases hat
    | true=>
      simp only [LT.at,cond_true,Option.some.injEq,Prod.mk.injEq] at hat
      obtain ⟨rfl,rfl⟩:=hat
      exact h _ _ _ hts
  · cases ht
theorem calls_run {P:Program} {E:Env} {L:List (Nat×LSpec)} (hE:EnvOk P E) (n:Nat) {f:FuncId} {fn:Func} (hf:P.funcs[f]? =some fn) (hn:fn.name≠ "runtime.NumGoroutine") (hb:fn.body.isSome=true) (hL:∀c,fn.body=some c→LsOk P L c) {vs:List Value} {v:Value} (h:xfn P E L n fn vs []=some (v,[]))
    (ha:∀u∈vs,okV (fun m=>Nat.blt m 0) 8 u=true) (hv:Clo v) (w:World) (htab:TabOk w):Calls P f ⟨vs⟩ w fun e w'=>e= .returned v∧Below w.heap.size w w':=by
  have hs:SOK P f (fun us bl=>match bl with|[]=>(match Classical.propDecidable (us=vs) with| .isTrue _=>some (true,v,[])| .isFalse _=>none)|_=>none):=by
    refine sok_of hE n hf hn hb hL fun us bl u bl' hh=> ?_
    split at hh
    · split at hh
      · rename_i e _
        subst e
        simp only [Option.some.injEq,Prod.mk.injEq,true_and] at hh
        obtain ⟨rfl,rfl⟩:=hh
        exact ⟨h,by simpa using ha,hv,by simp⟩
      · cases hh
    · cases hh
  refine calls_of hs (vs:=vs) (v:=v) ?_ (fun u hu=> ?_) hv w htab
  · simp only
    split
    · rfl
    · rename_i e _
      exact absurd rfl e
  · intro g
    have:=okV_spec (p:=fun m=>Nat.blt m 0) (g:=g) (g':=fun n=>n) (fun n hn=>by simp [Nat.blt] at hn) 8 u (ha u hu)
    rw [this]
    have key:∀(k:Nat) (x:Value),okV (fun m=>Nat.blt m 0) k x=true→ren (fun n=>n) x=x:=by
      intro k
      induction k with
      |zero=>intro x hx; simp [okV] at hx
      | succ k ih=>
        have hl:∀l:List Value,l.all (okV (fun m=>Nat.blt m 0) k)=true→l.map (ren fun n=>n)=l:=fun l hl=>by
          rw [List.all_eq_true] at hl
          calc l.map (ren fun n=>n)=l.map id:=List.map_congr_left fun x hx=>ih x (hl x hx)
            _=l:=by simp
        intro x hx
        unfold okV at hx
        split at hx
        any_goals simp [ren]
        · exact absurd hx (by simp [Nat.blt])
        · exact absurd hx (by simp [Nat.blt])
        any_goals rw [renL_map]
        any_goals exact hl _ hx
        · simp only [Bool.and_eq_true] at hx
          rw [renL_map]
          exact ⟨hl _ hx.1,hl _ hx.2⟩
        · exact ih _ hx
        · simp at hx
    exact key 8 u (ha u hu)
end RX
end
section
namespace Go.Proofs.YtpejalpgficopaaGreatDoor.G
open Go Go.Proofs Go.RowKit RX
set_option linter.unusedVariables false
set_option linter.unusedSimpArgs false
theorem mixed_ok:Tryz.prog.follows .mixedOrders=true:=by kernel_rfl
end Go.Proofs.YtpejalpgficopaaGreatDoor.G
end
section
namespace Go.Proofs.YtpejalpgficopaaGreatDoor.G
open Go Go.Proofs Go.RowKit RX
set_option linter.unusedVariables false
set_option linter.unusedSimpArgs false
def interval_Valid.sp (f:Int→Int→(Bool)):HSpec
  |[.agg ⟨[.int .i64 a0_0,.int .i64 a0_1]⟩],[]=>some (true,.bool (f a0_0 a0_1),[])
  |_,_=>none
def direction_Valid.sp (f:Int→Int→Int→Int→Int→Int→(Bool)):HSpec
  |[.agg ⟨[.int .i64 a0_0,.int .i64 a0_1,.int .i64 a0_2,.int .i64 a0_3,.int .i64 a0_4,.int .i64 a0_5]⟩],[]=>some (true,.bool (f a0_0 a0_1 a0_2 a0_3 a0_4 a0_5),[])
  |_,_=>none
def direction_calc_box.sp (f:Int→Int→Int→Int→Int→Int→Int→(Int×Int×Int×Int×Int×Int×Int×Int)):HSpec
  |[.pointer (some ⟨0,0,none⟩),.agg ⟨[.int .i64 a1_0,.int .i64 a1_1,.int .i64 a1_2,.int .i64 a1_3,.int .i64 a1_4,.int .i64 a1_5]⟩],[.cs [.int .i64 s0_0] 98]=>some (true,.tuple ⟨[.agg ⟨[.int .i64 (f s0_0 a1_0 a1_1 a1_2 a1_3 a1_4 a1_5).1,.int .i64 (f s0_0 a1_0 a1_1 a1_2 a1_3 a1_4 a1_5).2.1,.int .i64 (f s0_0 a1_0 a1_1 a1_2 a1_3 a1_4 a1_5).2.2.1,.int .i64 (f s0_0 a1_0 a1_1 a1_2 a1_3 a1_4 a1_5).2.2.2.1,.int .i64 (f s0_0 a1_0 a1_1 a1_2 a1_3 a1_4 a1_5).2.2.2.2.1,.int .i64 (f s0_0 a1_0 a1_1 a1_2 a1_3 a1_4 a1_5).2.2.2.2.2.1]⟩,.int .i64 (f s0_0 a1_0 a1_1 a1_2 a1_3 a1_4 a1_5).2.2.2.2.2.2.1]⟩,[.cs [.int .i64 (f s0_0 a1_0 a1_1 a1_2 a1_3 a1_4 a1_5).2.2.2.2.2.2.2] 98])
  |_,_=>none
def direction_calc_keep.sp (f:Int→Int→Int→Int→(Int×Int×Int)):HSpec
  |[.pointer (some ⟨0,0,none⟩),.agg ⟨[.int .i64 a1_0,.int .i64 a1_1]⟩,.int .i64 a2],[.cs [.int .i64 s0_0] 98]=>some (true,.agg ⟨[.int .i64 (f s0_0 a1_0 a1_1 a2).1,.int .i64 (f s0_0 a1_0 a1_1 a2).2.1]⟩,[.cs [.int .i64 (f s0_0 a1_0 a1_1 a2).2.2] 98])
  |_,_=>none
def interval_made.sp (f:Int→Int→(Int×Int×Int)):HSpec
  |[.int .i64 a0,.int .i64 a1],[]=>some (true,.tuple ⟨[.agg ⟨[.int .i64 (f a0 a1).1,.int .i64 (f a0 a1).2.1]⟩,.int .i64 (f a0 a1).2.2]⟩,[])
  |_,_=>none
def interval_Add.sp (f:Int→Int→Int→Int→(Int×Int×Int)):HSpec
  |[.agg ⟨[.int .i64 a0_0,.int .i64 a0_1]⟩,.agg ⟨[.int .i64 a1_0,.int .i64 a1_1]⟩],[]=>some (true,.tuple ⟨[.agg ⟨[.int .i64 (f a0_0 a0_1 a1_0 a1_1).1,.int .i64 (f a0_0 a0_1 a1_0 a1_1).2.1]⟩,.int .i64 (f a0_0 a0_1 a1_0 a1_1).2.2]⟩,[])
  |_,_=>none
def interval_floor.sp (f:Int→Int→(Int)):HSpec
  |[.int .i64 a0,.int .i64 a1],[]=>some (a1 !=0,.int .i64 (f a0 a1),[])
  |_,_=>none
def interval_ceil.sp (f:Int→Int→(Int)):HSpec
  |[.int .i64 a0,.int .i64 a1],[]=>some (a1 !=0,.int .i64 (f a0 a1),[])
  |_,_=>none
def interval_Div.sp (f:Int→Int→Int→Int→(Int×Int×Int)):HSpec
  |[.agg ⟨[.int .i64 a0_0,.int .i64 a0_1]⟩,.agg ⟨[.int .i64 a1_0,.int .i64 a1_1]⟩],[]=>some (true,.tuple ⟨[.agg ⟨[.int .i64 (f a0_0 a0_1 a1_0 a1_1).1,.int .i64 (f a0_0 a0_1 a1_0 a1_1).2.1]⟩,.int .i64 (f a0_0 a0_1 a1_0 a1_1).2.2]⟩,[])
  |_,_=>none
def interval_Sub.sp (f:Int→Int→Int→Int→(Int×Int×Int)):HSpec
  |[.agg ⟨[.int .i64 a0_0,.int .i64 a0_1]⟩,.agg ⟨[.int .i64 a1_0,.int .i64 a1_1]⟩],[]=>some (true,.tuple ⟨[.agg ⟨[.int .i64 (f a0_0 a0_1 a1_0 a1_1).1,.int .i64 (f a0_0 a0_1 a1_0 a1_1).2.1]⟩,.int .i64 (f a0_0 a0_1 a1_0 a1_1).2.2]⟩,[])
  |_,_=>none
def interval_Mul.sp (f:Int→Int→Int→Int→(Int×Int×Int)):HSpec
  |[.agg ⟨[.int .i64 a0_0,.int .i64 a0_1]⟩,.agg ⟨[.int .i64 a1_0,.int .i64 a1_1]⟩],[]=>some (true,.tuple ⟨[.agg ⟨[.int .i64 (f a0_0 a0_1 a1_0 a1_1).1,.int .i64 (f a0_0 a0_1 a1_0 a1_1).2.1]⟩,.int .i64 (f a0_0 a0_1 a1_0 a1_1).2.2]⟩,[])
  |_,_=>none
def direction_calc_add.sp (f:Int→Int→Int→Int→Int→(Int×Int×Int)):HSpec
  |[.pointer (some ⟨0,0,none⟩),.agg ⟨[.int .i64 a1_0,.int .i64 a1_1]⟩,.agg ⟨[.int .i64 a2_0,.int .i64 a2_1]⟩],[.cs [.int .i64 s0_0] 98]=>some (true,.agg ⟨[.int .i64 (f s0_0 a1_0 a1_1 a2_0 a2_1).1,.int .i64 (f s0_0 a1_0 a1_1 a2_0 a2_1).2.1]⟩,[.cs [.int .i64 (f s0_0 a1_0 a1_1 a2_0 a2_1).2.2] 98])
  |_,_=>none
def direction_Add.sp (f:Int→Int→Int→Int→Int→Int→Int→Int→Int→Int→Int→Int→(Int×Int×Int×Int×Int×Int×Int)):HSpec
  |[.agg ⟨[.int .i64 a0_0,.int .i64 a0_1,.int .i64 a0_2,.int .i64 a0_3,.int .i64 a0_4,.int .i64 a0_5]⟩,.agg ⟨[.int .i64 a1_0,.int .i64 a1_1,.int .i64 a1_2,.int .i64 a1_3,.int .i64 a1_4,.int .i64 a1_5]⟩],[]=>some (true,.tuple ⟨[.agg ⟨[.int .i64 (f a0_0 a0_1 a0_2 a0_3 a0_4 a0_5 a1_0 a1_1 a1_2 a1_3 a1_4 a1_5).1,.int .i64 (f a0_0 a0_1 a0_2 a0_3 a0_4 a0_5 a1_0 a1_1 a1_2 a1_3 a1_4 a1_5).2.1,.int .i64 (f a0_0 a0_1 a0_2 a0_3 a0_4 a0_5 a1_0 a1_1 a1_2 a1_3 a1_4 a1_5).2.2.1,.int .i64 (f a0_0 a0_1 a0_2 a0_3 a0_4 a0_5 a1_0 a1_1 a1_2 a1_3 a1_4 a1_5).2.2.2.1,.int .i64 (f a0_0 a0_1 a0_2 a0_3 a0_4 a0_5 a1_0 a1_1 a1_2 a1_3 a1_4 a1_5).2.2.2.2.1,.int .i64 (f a0_0 a0_1 a0_2 a0_3 a0_4 a0_5 a1_0 a1_1 a1_2 a1_3 a1_4 a1_5).2.2.2.2.2.1]⟩,.int .i64 (f a0_0 a0_1 a0_2 a0_3 a0_4 a0_5 a1_0 a1_1 a1_2 a1_3 a1_4 a1_5).2.2.2.2.2.2]⟩,[])
  |_,_=>none
def culetref27_Valid.sp (f:Int→Int→(Bool)):HSpec
  |[.agg ⟨[.int .i64 a0_0,.int .i64 a0_1]⟩],[]=>some (true,.bool (f a0_0 a0_1),[])
  |_,_=>none
def culetref28_Valid.sp (f:Int→Int→Int→Int→Int→Int→(Bool)):HSpec
  |[.agg ⟨[.int .i64 a0_0,.int .i64 a0_1,.int .i64 a0_2,.int .i64 a0_3,.int .i64 a0_4,.int .i64 a0_5]⟩],[]=>some (true,.bool (f a0_0 a0_1 a0_2 a0_3 a0_4 a0_5),[])
  |_,_=>none
def culetref27_both.sp (f:Int→Int→Int→Int→(Bool)):HSpec
  |[.agg ⟨[.int .i64 a0_0,.int .i64 a0_1]⟩,.agg ⟨[.int .i64 a1_0,.int .i64 a1_1]⟩],[]=>some (true,.bool (f a0_0 a0_1 a1_0 a1_1),[])
  |_,_=>none
def culetlaw28_theirs.sp (f:Int→Int→Int→Int→Int→Int→(Int×Int×Int×Int×Int×Int)):HSpec
  |[.agg ⟨[.int .i64 a0_0,.int .i64 a0_1,.int .i64 a0_2,.int .i64 a0_3,.int .i64 a0_4,.int .i64 a0_5]⟩],[]=>some (true,.agg ⟨[.int .i64 (f a0_0 a0_1 a0_2 a0_3 a0_4 a0_5).1,.int .i64 (f a0_0 a0_1 a0_2 a0_3 a0_4 a0_5).2.1,.int .i64 (f a0_0 a0_1 a0_2 a0_3 a0_4 a0_5).2.2.1,.int .i64 (f a0_0 a0_1 a0_2 a0_3 a0_4 a0_5).2.2.2.1,.int .i64 (f a0_0 a0_1 a0_2 a0_3 a0_4 a0_5).2.2.2.2.1,.int .i64 (f a0_0 a0_1 a0_2 a0_3 a0_4 a0_5).2.2.2.2.2]⟩,[])
  |_,_=>none
def direction_calc_sub.sp (f:Int→Int→Int→Int→Int→(Int×Int×Int)):HSpec
  |[.pointer (some ⟨0,0,none⟩),.agg ⟨[.int .i64 a1_0,.int .i64 a1_1]⟩,.agg ⟨[.int .i64 a2_0,.int .i64 a2_1]⟩],[.cs [.int .i64 s0_0] 98]=>some (true,.agg ⟨[.int .i64 (f s0_0 a1_0 a1_1 a2_0 a2_1).1,.int .i64 (f s0_0 a1_0 a1_1 a2_0 a2_1).2.1]⟩,[.cs [.int .i64 (f s0_0 a1_0 a1_1 a2_0 a2_1).2.2] 98])
  |_,_=>none
def direction_Sub.sp (f:Int→Int→Int→Int→Int→Int→Int→Int→Int→Int→Int→Int→(Int×Int×Int×Int×Int×Int×Int)):HSpec
  |[.agg ⟨[.int .i64 a0_0,.int .i64 a0_1,.int .i64 a0_2,.int .i64 a0_3,.int .i64 a0_4,.int .i64 a0_5]⟩,.agg ⟨[.int .i64 a1_0,.int .i64 a1_1,.int .i64 a1_2,.int .i64 a1_3,.int .i64 a1_4,.int .i64 a1_5]⟩],[]=>some (true,.tuple ⟨[.agg ⟨[.int .i64 (f a0_0 a0_1 a0_2 a0_3 a0_4 a0_5 a1_0 a1_1 a1_2 a1_3 a1_4 a1_5).1,.int .i64 (f a0_0 a0_1 a0_2 a0_3 a0_4 a0_5 a1_0 a1_1 a1_2 a1_3 a1_4 a1_5).2.1,.int .i64 (f a0_0 a0_1 a0_2 a0_3 a0_4 a0_5 a1_0 a1_1 a1_2 a1_3 a1_4 a1_5).2.2.1,.int .i64 (f a0_0 a0_1 a0_2 a0_3 a0_4 a0_5 a1_0 a1_1 a1_2 a1_3 a1_4 a1_5).2.2.2.1,.int .i64 (f a0_0 a0_1 a0_2 a0_3 a0_4 a0_5 a1_0 a1_1 a1_2 a1_3 a1_4 a1_5).2.2.2.2.1,.int .i64 (f a0_0 a0_1 a0_2 a0_3 a0_4 a0_5 a1_0 a1_1 a1_2 a1_3 a1_4 a1_5).2.2.2.2.2.1]⟩,.int .i64 (f a0_0 a0_1 a0_2 a0_3 a0_4 a0_5 a1_0 a1_1 a1_2 a1_3 a1_4 a1_5).2.2.2.2.2.2]⟩,[])
  |_,_=>none
def direction_calc_mul.sp (f:Int→Int→Int→Int→Int→(Int×Int×Int)):HSpec
  |[.pointer (some ⟨0,0,none⟩),.agg ⟨[.int .i64 a1_0,.int .i64 a1_1]⟩,.agg ⟨[.int .i64 a2_0,.int .i64 a2_1]⟩],[.cs [.int .i64 s0_0] 98]=>some (true,.agg ⟨[.int .i64 (f s0_0 a1_0 a1_1 a2_0 a2_1).1,.int .i64 (f s0_0 a1_0 a1_1 a2_0 a2_1).2.1]⟩,[.cs [.int .i64 (f s0_0 a1_0 a1_1 a2_0 a2_1).2.2] 98])
  |_,_=>none
def direction_Scale.sp (f:Int→Int→Int→Int→Int→Int→Int→Int→(Int×Int×Int×Int×Int×Int×Int)):HSpec
  |[.agg ⟨[.int .i64 a0_0,.int .i64 a0_1,.int .i64 a0_2,.int .i64 a0_3,.int .i64 a0_4,.int .i64 a0_5]⟩,.agg ⟨[.int .i64 a1_0,.int .i64 a1_1]⟩],[]=>some (true,.tuple ⟨[.agg ⟨[.int .i64 (f a0_0 a0_1 a0_2 a0_3 a0_4 a0_5 a1_0 a1_1).1,.int .i64 (f a0_0 a0_1 a0_2 a0_3 a0_4 a0_5 a1_0 a1_1).2.1,.int .i64 (f a0_0 a0_1 a0_2 a0_3 a0_4 a0_5 a1_0 a1_1).2.2.1,.int .i64 (f a0_0 a0_1 a0_2 a0_3 a0_4 a0_5 a1_0 a1_1).2.2.2.1,.int .i64 (f a0_0 a0_1 a0_2 a0_3 a0_4 a0_5 a1_0 a1_1).2.2.2.2.1,.int .i64 (f a0_0 a0_1 a0_2 a0_3 a0_4 a0_5 a1_0 a1_1).2.2.2.2.2.1]⟩,.int .i64 (f a0_0 a0_1 a0_2 a0_3 a0_4 a0_5 a1_0 a1_1).2.2.2.2.2.2]⟩,[])
  |_,_=>none
def direction_calc_result.sp (f:Int→Int→Int→(Int×Int×Int×Int)):HSpec
  |[.pointer (some ⟨0,0,none⟩),.agg ⟨[.int .i64 a1_0,.int .i64 a1_1]⟩],[.cs [.int .i64 s0_0] 98]=>some (true,.tuple ⟨[.agg ⟨[.int .i64 (f s0_0 a1_0 a1_1).1,.int .i64 (f s0_0 a1_0 a1_1).2.1]⟩,.int .i64 (f s0_0 a1_0 a1_1).2.2.1]⟩,[.cs [.int .i64 (f s0_0 a1_0 a1_1).2.2.2] 98])
  |_,_=>none
def direction_Dot.sp (f:Int→Int→Int→Int→Int→Int→Int→Int→Int→Int→Int→Int→(Int×Int×Int)):HSpec
  |[.agg ⟨[.int .i64 a0_0,.int .i64 a0_1,.int .i64 a0_2,.int .i64 a0_3,.int .i64 a0_4,.int .i64 a0_5]⟩,.agg ⟨[.int .i64 a1_0,.int .i64 a1_1,.int .i64 a1_2,.int .i64 a1_3,.int .i64 a1_4,.int .i64 a1_5]⟩],[]=>some (true,.tuple ⟨[.agg ⟨[.int .i64 (f a0_0 a0_1 a0_2 a0_3 a0_4 a0_5 a1_0 a1_1 a1_2 a1_3 a1_4 a1_5).1,.int .i64 (f a0_0 a0_1 a0_2 a0_3 a0_4 a0_5 a1_0 a1_1 a1_2 a1_3 a1_4 a1_5).2.1]⟩,.int .i64 (f a0_0 a0_1 a0_2 a0_3 a0_4 a0_5 a1_0 a1_1 a1_2 a1_3 a1_4 a1_5).2.2]⟩,[])
  |_,_=>none
def interval_Inside.sp (f:Int→Int→Int→Int→(Bool)):HSpec
  |[.agg ⟨[.int .i64 a0_0,.int .i64 a0_1]⟩,.agg ⟨[.int .i64 a1_0,.int .i64 a1_1]⟩],[]=>some (true,.bool (f a0_0 a0_1 a1_0 a1_1),[])
  |_,_=>none
def direction_Inside.sp (f:Int→Int→Int→Int→Int→Int→Int→Int→Int→Int→Int→Int→(Bool)):HSpec
  |[.agg ⟨[.int .i64 a0_0,.int .i64 a0_1,.int .i64 a0_2,.int .i64 a0_3,.int .i64 a0_4,.int .i64 a0_5]⟩,.agg ⟨[.int .i64 a1_0,.int .i64 a1_1,.int .i64 a1_2,.int .i64 a1_3,.int .i64 a1_4,.int .i64 a1_5]⟩],[]=>some (true,.bool (f a0_0 a0_1 a0_2 a0_3 a0_4 a0_5 a1_0 a1_1 a1_2 a1_3 a1_4 a1_5),[])
  |_,_=>none
def culetref27_Inside.sp (f:Int→Int→Int→Int→(Bool)):HSpec
  |[.agg ⟨[.int .i64 a0_0,.int .i64 a0_1]⟩,.agg ⟨[.int .i64 a1_0,.int .i64 a1_1]⟩],[]=>some (true,.bool (f a0_0 a0_1 a1_0 a1_1),[])
  |_,_=>none
def interval_Square.sp (f:Int→Int→(Int×Int×Int)):HSpec
  |[.agg ⟨[.int .i64 a0_0,.int .i64 a0_1]⟩],[]=>some (true,.tuple ⟨[.agg ⟨[.int .i64 (f a0_0 a0_1).1,.int .i64 (f a0_0 a0_1).2.1]⟩,.int .i64 (f a0_0 a0_1).2.2]⟩,[])
  |_,_=>none
def interval_Sqrt.sp (f:Int→Int→(Int×Int×Int)):HSpec
  |[.agg ⟨[.int .i64 a0_0,.int .i64 a0_1]⟩],[]=>some (true,.tuple ⟨[.agg ⟨[.int .i64 (f a0_0 a0_1).1,.int .i64 (f a0_0 a0_1).2.1]⟩,.int .i64 (f a0_0 a0_1).2.2]⟩,[])
  |_,_=>none
def direction_calc_div.sp (f:Int→Int→Int→Int→Int→(Int×Int×Int)):HSpec
  |[.pointer (some ⟨0,0,none⟩),.agg ⟨[.int .i64 a1_0,.int .i64 a1_1]⟩,.agg ⟨[.int .i64 a2_0,.int .i64 a2_1]⟩],[.cs [.int .i64 s0_0] 98]=>some (true,.agg ⟨[.int .i64 (f s0_0 a1_0 a1_1 a2_0 a2_1).1,.int .i64 (f s0_0 a1_0 a1_1 a2_0 a2_1).2.1]⟩,[.cs [.int .i64 (f s0_0 a1_0 a1_1 a2_0 a2_1).2.2] 98])
  |_,_=>none
def direction_Of.sp (f:Int→Int→Int→Int→(Int×Int×Int×Int×Int×Int×Int)):HSpec
  |[.agg ⟨[.int .i64 a0_0,.int .i64 a0_1]⟩,.agg ⟨[.int .i64 a1_0,.int .i64 a1_1]⟩],[]=>some (true,.tuple ⟨[.agg ⟨[.int .i64 (f a0_0 a0_1 a1_0 a1_1).1,.int .i64 (f a0_0 a0_1 a1_0 a1_1).2.1,.int .i64 (f a0_0 a0_1 a1_0 a1_1).2.2.1,.int .i64 (f a0_0 a0_1 a1_0 a1_1).2.2.2.1,.int .i64 (f a0_0 a0_1 a1_0 a1_1).2.2.2.2.1,.int .i64 (f a0_0 a0_1 a1_0 a1_1).2.2.2.2.2.1]⟩,.int .i64 (f a0_0 a0_1 a1_0 a1_1).2.2.2.2.2.2]⟩,[])
  |_,_=>none
def culetlaw28_within.sp (f:Int→Int→Int→Int→(Int×Int)) (p:Int→Int→Int→Int→Bool):HSpec
  |[.agg ⟨[.int .i64 a0_0,.int .i64 a0_1]⟩,.int .u32 a1,.int .u32 a2],[]=>some (p a0_0 a0_1 a1 a2,.agg ⟨[.int .i64 (f a0_0 a0_1 a1 a2).1,.int .i64 (f a0_0 a0_1 a1 a2).2]⟩,[])
  |_,_=>none
def culetlaw28_Part.sp (f:Int→Int→Int→Int→Int→Int→Int→Int→Int→Int→Int→Int→(Int×Int×Int×Int×Int×Int)) (p:Int→Int→Int→Int→Int→Int→Int→Int→Int→Int→Int→Int→Bool):HSpec
  |[.agg ⟨[.int .i64 a0_0,.int .i64 a0_1,.int .i64 a0_2,.int .i64 a0_3,.int .i64 a0_4,.int .i64 a0_5]⟩,.agg ⟨[.int .u32 a1_0,.int .u32 a1_1,.int .u32 a1_2,.int .u32 a1_3,.int .u32 a1_4,.int .u32 a1_5]⟩],[]=>some (p a0_0 a0_1 a0_2 a0_3 a0_4 a0_5 a1_0 a1_1 a1_2 a1_3 a1_4 a1_5,.agg ⟨[.int .i64 (f a0_0 a0_1 a0_2 a0_3 a0_4 a0_5 a1_0 a1_1 a1_2 a1_3 a1_4 a1_5).1,.int .i64 (f a0_0 a0_1 a0_2 a0_3 a0_4 a0_5 a1_0 a1_1 a1_2 a1_3 a1_4 a1_5).2.1,.int .i64 (f a0_0 a0_1 a0_2 a0_3 a0_4 a0_5 a1_0 a1_1 a1_2 a1_3 a1_4 a1_5).2.2.1,.int .i64 (f a0_0 a0_1 a0_2 a0_3 a0_4 a0_5 a1_0 a1_1 a1_2 a1_3 a1_4 a1_5).2.2.2.1,.int .i64 (f a0_0 a0_1 a0_2 a0_3 a0_4 a0_5 a1_0 a1_1 a1_2 a1_3 a1_4 a1_5).2.2.2.2.1,.int .i64 (f a0_0 a0_1 a0_2 a0_3 a0_4 a0_5 a1_0 a1_1 a1_2 a1_3 a1_4 a1_5).2.2.2.2.2]⟩,[])
  |_,_=>none
def direction_Norm2.sp (f:Int→Int→Int→Int→Int→Int→(Int×Int×Int)):HSpec
  |[.agg ⟨[.int .i64 a0_0,.int .i64 a0_1,.int .i64 a0_2,.int .i64 a0_3,.int .i64 a0_4,.int .i64 a0_5]⟩],[]=>some (true,.tuple ⟨[.agg ⟨[.int .i64 (f a0_0 a0_1 a0_2 a0_3 a0_4 a0_5).1,.int .i64 (f a0_0 a0_1 a0_2 a0_3 a0_4 a0_5).2.1]⟩,.int .i64 (f a0_0 a0_1 a0_2 a0_3 a0_4 a0_5).2.2]⟩,[])
  |_,_=>none
def direction_Unit.sp (f:Int→Int→Int→Int→Int→Int→(Int×Int×Int×Int×Int×Int×Int)):HSpec
  |[.agg ⟨[.int .i64 a0_0,.int .i64 a0_1,.int .i64 a0_2,.int .i64 a0_3,.int .i64 a0_4,.int .i64 a0_5]⟩],[]=>some (true,.tuple ⟨[.agg ⟨[.int .i64 (f a0_0 a0_1 a0_2 a0_3 a0_4 a0_5).1,.int .i64 (f a0_0 a0_1 a0_2 a0_3 a0_4 a0_5).2.1,.int .i64 (f a0_0 a0_1 a0_2 a0_3 a0_4 a0_5).2.2.1,.int .i64 (f a0_0 a0_1 a0_2 a0_3 a0_4 a0_5).2.2.2.1,.int .i64 (f a0_0 a0_1 a0_2 a0_3 a0_4 a0_5).2.2.2.2.1,.int .i64 (f a0_0 a0_1 a0_2 a0_3 a0_4 a0_5).2.2.2.2.2.1]⟩,.int .i64 (f a0_0 a0_1 a0_2 a0_3 a0_4 a0_5).2.2.2.2.2.2]⟩,[])
  |_,_=>none
def culetlaw28_DirectionInclusion.sp (f:Int→Int→Int→Int→Int→Int→Int→Int→Int→Int→Int→Int→Int→Int→Int→Int→Int→Int→(Bool)):HSpec
  |[.agg ⟨[.int .i64 a0_0,.int .i64 a0_1,.int .i64 a0_2,.int .i64 a0_3,.int .i64 a0_4,.int .i64 a0_5]⟩,.agg ⟨[.int .i64 a1_0,.int .i64 a1_1,.int .i64 a1_2,.int .i64 a1_3,.int .i64 a1_4,.int .i64 a1_5]⟩,.agg ⟨[.int .u32 a2_0,.int .u32 a2_1,.int .u32 a2_2,.int .u32 a2_3,.int .u32 a2_4,.int .u32 a2_5]⟩],[]=>some (true,.bool (f a0_0 a0_1 a0_2 a0_3 a0_4 a0_5 a1_0 a1_1 a1_2 a1_3 a1_4 a1_5 a2_0 a2_1 a2_2 a2_3 a2_4 a2_5),[])
  |_,_=>none
def direction_calc_two.sp (f_direction_calc_two_interval_Add:Int→Int→Int→Int→Int→(Int×Int×Int)) (f_direction_calc_two_interval_Sub:Int→Int→Int→Int→Int→(Int×Int×Int)) (f_direction_calc_two_interval_Mul:Int→Int→Int→Int→Int→(Int×Int×Int)) (f_direction_calc_two_interval_Div:Int→Int→Int→Int→Int→(Int×Int×Int)):HSpec
  |[.pointer (some ⟨0,0,none⟩),.func (.func 122) ⟨[]⟩ ⟨[]⟩,.agg ⟨[.int .i64 a2_0,.int .i64 a2_1]⟩,.agg ⟨[.int .i64 a3_0,.int .i64 a3_1]⟩],[.cs [.int .i64 s0_0] 98]=>some (true,.agg ⟨[.int .i64 (f_direction_calc_two_interval_Add s0_0 a2_0 a2_1 a3_0 a3_1).1,.int .i64 (f_direction_calc_two_interval_Add s0_0 a2_0 a2_1 a3_0 a3_1).2.1]⟩,[.cs [.int .i64 (f_direction_calc_two_interval_Add s0_0 a2_0 a2_1 a3_0 a3_1).2.2] 98])
  |[.pointer (some ⟨0,0,none⟩),.func (.func 124) ⟨[]⟩ ⟨[]⟩,.agg ⟨[.int .i64 a2_0,.int .i64 a2_1]⟩,.agg ⟨[.int .i64 a3_0,.int .i64 a3_1]⟩],[.cs [.int .i64 s0_0] 98]=>some (true,.agg ⟨[.int .i64 (f_direction_calc_two_interval_Sub s0_0 a2_0 a2_1 a3_0 a3_1).1,.int .i64 (f_direction_calc_two_interval_Sub s0_0 a2_0 a2_1 a3_0 a3_1).2.1]⟩,[.cs [.int .i64 (f_direction_calc_two_interval_Sub s0_0 a2_0 a2_1 a3_0 a3_1).2.2] 98])
  |[.pointer (some ⟨0,0,none⟩),.func (.func 127) ⟨[]⟩ ⟨[]⟩,.agg ⟨[.int .i64 a2_0,.int .i64 a2_1]⟩,.agg ⟨[.int .i64 a3_0,.int .i64 a3_1]⟩],[.cs [.int .i64 s0_0] 98]=>some (true,.agg ⟨[.int .i64 (f_direction_calc_two_interval_Mul s0_0 a2_0 a2_1 a3_0 a3_1).1,.int .i64 (f_direction_calc_two_interval_Mul s0_0 a2_0 a2_1 a3_0 a3_1).2.1]⟩,[.cs [.int .i64 (f_direction_calc_two_interval_Mul s0_0 a2_0 a2_1 a3_0 a3_1).2.2] 98])
  |[.pointer (some ⟨0,0,none⟩),.func (.func 123) ⟨[]⟩ ⟨[]⟩,.agg ⟨[.int .i64 a2_0,.int .i64 a2_1]⟩,.agg ⟨[.int .i64 a3_0,.int .i64 a3_1]⟩],[.cs [.int .i64 s0_0] 98]=>some (true,.agg ⟨[.int .i64 (f_direction_calc_two_interval_Div s0_0 a2_0 a2_1 a3_0 a3_1).1,.int .i64 (f_direction_calc_two_interval_Div s0_0 a2_0 a2_1 a3_0 a3_1).2.1]⟩,[.cs [.int .i64 (f_direction_calc_two_interval_Div s0_0 a2_0 a2_1 a3_0 a3_1).2.2] 98])
  |_,_=>none
def direction_calc_one.sp (f_direction_calc_one_interval_Square:Int→Int→Int→(Int×Int×Int)) (f_direction_calc_one_interval_Sqrt:Int→Int→Int→(Int×Int×Int)):HSpec
  |[.pointer (some ⟨0,0,none⟩),.func (.func 67) ⟨[]⟩ ⟨[]⟩,.agg ⟨[.int .i64 a2_0,.int .i64 a2_1]⟩],[.cs [.int .i64 s0_0] 98]=>some (true,.agg ⟨[.int .i64 (f_direction_calc_one_interval_Square s0_0 a2_0 a2_1).1,.int .i64 (f_direction_calc_one_interval_Square s0_0 a2_0 a2_1).2.1]⟩,[.cs [.int .i64 (f_direction_calc_one_interval_Square s0_0 a2_0 a2_1).2.2] 98])
  |[.pointer (some ⟨0,0,none⟩),.func (.func 81) ⟨[]⟩ ⟨[]⟩,.agg ⟨[.int .i64 a2_0,.int .i64 a2_1]⟩],[.cs [.int .i64 s0_0] 98]=>some (true,.agg ⟨[.int .i64 (f_direction_calc_one_interval_Sqrt s0_0 a2_0 a2_1).1,.int .i64 (f_direction_calc_one_interval_Sqrt s0_0 a2_0 a2_1).2.1]⟩,[.cs [.int .i64 (f_direction_calc_one_interval_Sqrt s0_0 a2_0 a2_1).2.2] 98])
  |_,_=>none
end Go.Proofs.YtpejalpgficopaaGreatDoor.G
end
section
namespace Go.Proofs.YtpejalpgficopaaGreatDoor.G
open Go
theorem w64 {n:Int} (h: -9223372036854775808≤n) (h':n≤9223372036854775807):IntKind.i64.wrap n=n:=by
  simp only [IntKind.wrap,IntKind.signed,IntKind.bits]
  simp only [Bool.true_and]
  split
  · rename_i hc
    have:=of_decide_eq_true hc
    omega
  · rename_i hc
    have:¬(n%2^64≥2^(64-1)):=fun h=>hc (decide_eq_true h)
    omega
theorem bne_of {a b:Int} (h:a≠b):(a !=b)=true:=by simp [h]
theorem beq_of {a b:Int} (h:a≠b):(a==b)=false:=by simp [h]
theorem isSome_cond {α:Type} (b:Bool) (x y:Option α):(bif b then x else y).isSome=bif b then x.isSome else y.isSome:=by cases b<;>rfl
theorem bool_cond_true (b:Bool):(bif b then true else true)=true:=by cases b<;>rfl
end Go.Proofs.YtpejalpgficopaaGreatDoor.G
end
section
namespace Go.Proofs.YtpejalpgficopaaGreatDoor.G
open Go
set_option linter.unusedVariables false
def V (a b:Int):Bool:=decide (-1073741824≤a∧a≤b∧b≤1073741824)
theorem V_iff {a b:Int} :V a b=true↔ -1073741824≤a∧a≤b∧b≤1073741824:=by simp [V]
theorem V_not {a b:Int} :V a b=false↔¬(-1073741824≤a∧a≤b∧b≤1073741824):=by simp only [V,decide_eq_false_iff_not]
def chk (lo hi:Int):Int×Int×Int:=bif V lo hi then (lo,hi,0) else (0,0,3)
def cl (x y:Int):Int:= -((-x)/y)
def mn4 (x y z w:Int):Int:=min (min x y) (min z w)
def mx4 (x y z w:Int):Int:=max (max x y) (max z w)
def iadd (a b c d:Int):Int×Int×Int:=bif V a b&&V c d then chk (a+c) (b+d) else (0,0,1)
def isub (a b c d:Int):Int×Int×Int:=bif V a b&&V c d then chk (a-d) (b-c) else (0,0,1)
def imul (a b c d:Int):Int×Int×Int:=bif V a b&&V c d then chk (mn4 (a*c) (a*d) (b*c) (b*d)/16777216) (cl (mx4 (a*c) (a*d) (b*c) (b*d)) 16777216) else (0,0,1)
def pdiv (a b c d:Int):Int×Int×Int:=chk (min (a*16777216/c) (a*16777216/d)) (max (cl (b*16777216) c) (cl (b*16777216) d))
def idiv (a b c d:Int):Int×Int×Int:=bif V a b&&V c d then (if c≤0∧0≤d then (0,0,10) else if d<0 then pdiv (-b) (-a) (-d) (-c) else pdiv a b c d) else (0,0,1)
def isq (a b:Int):Int×Int×Int:=bif V a b then chk ((if a≤0∧0≤b then 0 else min (a*a) (b*b))/16777216) (cl (max (a*a) (b*b)) 16777216) else (0,0,1)
def cut (x:Int):Int:=max 0 (min 16777216 x)
theorem mul_bnd {x y A B:Int} (hA:0≤A) (hB:0≤B) (h1: -A≤x) (h2:x≤A) (h3: -B≤y) (h4:y≤B): -(A*B)≤x*y∧x*y≤A*B:=by
  have key:(x*y).natAbs≤A.natAbs*B.natAbs:=by
    rw [Int.natAbs_mul]
    exact Nat.mul_le_mul (by omega) (by omega)
  have h5:((A.natAbs*B.natAbs:Nat):Int)=A*B:=by
    rw [Int.natCast_mul,Int.natAbs_of_nonneg hA,Int.natAbs_of_nonneg hB]
  omega
theorem mul_bnd30 {x y:Int} (h1: -1073741824≤x) (h2:x≤1073741824) (h3: -1073741824≤y) (h4:y≤1073741824): -1152921504606846976≤x*y∧x*y≤1152921504606846976:=by
  have:=mul_bnd (A:=1073741824) (B:=1073741824) (by omega) (by omega) h1 h2 h3 h4
  omega
theorem lin {a c d y:Int} (h1:c≤y) (h2:y≤d):min (a*c) (a*d)≤a*y∧a*y≤max (a*c) (a*d):=by
  by_cases ha:0≤a
  · have:=Int.mul_le_mul_of_nonneg_left h1 ha
    have:=Int.mul_le_mul_of_nonneg_left h2 ha
    omega
  · have:=Int.mul_le_mul_of_nonpos_left (a:=a) (by omega) h1
    have:=Int.mul_le_mul_of_nonpos_left (a:=a) (by omega) h2
    omega
theorem lin' {a c d y:Int} (h1:c≤y) (h2:y≤d):min (c*a) (d*a)≤y*a∧y*a≤max (c*a) (d*a):=by
  rw [Int.mul_comm c,Int.mul_comm d,Int.mul_comm y]
  exact lin h1 h2
theorem mul_in {a b c d x y:Int} (h1:a≤x) (h2:x≤b) (h3:c≤y) (h4:y≤d):mn4 (a*c) (a*d) (b*c) (b*d)≤x*y∧x*y≤mx4 (a*c) (a*d) (b*c) (b*d):=by
  have e1:=lin' (a:=y) h1 h2
  have e2:=lin (a:=a) h3 h4
  have e3:=lin (a:=b) h3 h4
  simp only [mn4,mx4]
  omega
theorem sq_nonneg (x:Int):0≤x*x:=by
  by_cases h:0≤x
  · exact Int.mul_nonneg h h
  · have:=Int.mul_nonneg_of_nonpos_of_nonpos (a:=x) (b:=x) (by omega) (by omega)
    exact this
theorem sq_mono {x y:Int} (h: -y≤x) (h':x≤y):x*x≤y*y:=by
  have:=mul_bnd (A:=y) (B:=y) (by omega) (by omega) h h' h h'
  omega
theorem fl_mono {x y k:Int} (hk:0<k) (h:x≤y):x/k≤y/k:=Int.ediv_le_ediv hk h
theorem cl_mono {x y k:Int} (hk:0<k) (h:x≤y):cl x k≤cl y k:=by
  have:=Int.ediv_le_ediv hk (Int.neg_le_neg h)
  simp only [cl]
  omega
theorem fl_spec {x k:Int} (hk:0<k):x/k*k≤x∧x<x/k*k+k:=by
  have h1:=Int.emod_add_mul_ediv x k
  have h2:=Int.emod_nonneg x (show k≠0 by omega)
  have h3:=Int.emod_lt_of_pos x hk
  rw [Int.mul_comm] at h1
  omega
theorem cl_spec {x k:Int} (hk:0<k):x≤cl x k*k∧cl x k*k<x+k:=by
  have:=fl_spec (x:= -x) hk
  simp only [cl,Int.neg_mul]
  omega
theorem fl_le_cl {x k:Int} (hk:0<k):x/k≤cl x k:=by
  have h1:=fl_spec (x:=x) hk
  have h2:=cl_spec (x:=x) hk
  exact Int.le_of_mul_le_mul_right (a:=k) (by omega) hk
theorem fl_le_cl' {x y k:Int} (hk:0<k) (h:x≤y):x/k≤cl y k:=Int.le_trans (fl_mono hk h) (fl_le_cl hk)
theorem le_fl {x k q:Int} (hk:0<k):q≤x/k↔q*k≤x:=Int.le_ediv_iff_mul_le hk
theorem fl_nonneg {x k:Int} (hk:0<k) (h:0≤x):0≤x/k:=by
  have:=fl_mono hk h
  simpa using this
theorem fl_div_in {a c d y:Int} (hc:0<c) (h1:c≤y) (h2:y≤d):min (a/c) (a/d)≤a/y:=by
  have hy:0<y:=by omega
  have hd:0<d:=by omega
  by_cases ha:0≤a
  · have:a/d≤a/y:=by
      rw [le_fl hy]
      have e:=(fl_spec (x:=a) hd).1
      have:a/d*y≤a/d*d:=Int.mul_le_mul_of_nonneg_left h2 (fl_nonneg hd ha)
      omega
    omega
  · have hneg:a/c≤0:=by
      have:=fl_mono (x:=a) (y:=0) hc (by omega)
      simpa using this
    have:a/c≤a/y:=by
      rw [le_fl hy]
      have e:=(fl_spec (x:=a) hc).1
      have:a/c*y≤a/c*c:=Int.mul_le_mul_of_nonpos_left hneg h1
      omega
    omega
theorem cl_div_in {a c d y:Int} (hc:0<c) (h1:c≤y) (h2:y≤d):cl a y≤max (cl a c) (cl a d):=by
  have:=fl_div_in (a:= -a) hc h1 h2
  simp only [cl]
  omega
theorem chk_of {lo hi:Int} (h1: -1073741824≤lo) (h2:lo≤hi) (h3:hi≤1073741824):chk lo hi=(lo,hi,0):=by
  simp only [chk,V_iff.2 ⟨h1,h2,h3⟩,cond_true]
theorem chk_ok {lo hi a b:Int} (h:chk lo hi=(a,b,0)):lo=a∧hi=b∧ -1073741824≤a∧a≤b∧b≤1073741824:=by
  unfold chk at h
  cases hv:V lo hi with
  | true=>
    have:=V_iff.1 hv
    simp only [hv,cond_true,Prod.mk.injEq,and_true] at h
    omega
  |false=>simp [hv] at h
theorem chk_eq (lo hi:Int):chk lo hi=(lo,hi,0)∧V lo hi=true∨chk lo hi=(0,0,3)∧V lo hi=false:=by
  unfold chk
  cases V lo hi<;>simp
theorem tdiv_bnd {a b:Int} (hb:0<b) (h1: -4611686018427387904≤a) (h2:a≤4611686018427387904): -4611686018427387904≤a/b∧a/b≤4611686018427387904:=by
  constructor
  · rw [le_fl hb]
    have:(4611686018427387904:Int)*1≤4611686018427387904*b:=Int.mul_le_mul_of_nonneg_left (by omega) (by omega)
    omega
  · by_cases ha:0≤a
    · exact Int.le_trans (Int.ediv_le_self b ha) h2
    · have:=fl_mono (x:=a) (y:=0) hb (by omega)
      have:(0:Int)/b=0:=Int.zero_ediv b
      omega
theorem mnE (x y:Int):(if y<x then y else x)=min x y:=by split<;>omega
theorem mxE (x y:Int):(if y>x then y else x)=max x y:=by split<;>omega
def kp (s:Int) (e:Int):Int:=bif s==0 then e else s
theorem kp0 (e:Int):kp 0 e=e:=rfl
theorem kpn {s:Int} (e:Int) (h:s≠0):kp s e=s:=by simp [kp,beq_of h]
end Go.Proofs.YtpejalpgficopaaGreatDoor.G
end
section
namespace Go.Proofs.YtpejalpgficopaaGreatDoor.G
open Go
set_option linter.unusedVariables false
def bnd (r:Int×Int×Int) (k:Int→Int→Int×Int×Int):Int×Int×Int:=bif r.2.2 !=0 then (0,0,r.2.2) else k r.1 r.2.1
def fin (r:Int×Int×Int):Int×Int×Int:=bnd r fun x y=>(cut x,cut y,0)
def wn (a b k l:Int):Bool:=V a b&&(decide (k*16777216≤a)&&decide (b≤l*16777216))
def shr (p0 p1 q0 q1:Int):Int×Int×Int:=bnd (isub p0 p1 q0 q1) fun d0 d1=>bnd (iadd p0 p1 q0 q1) fun s0 s1=>bnd (idiv d0 d1 s0 s1) fun x0 x1=>fin (isq x0 x1)
def srf (a0 a1 a2 a3 a4 a5 a6 a7:Int):Bool:=wn a0 a1 0 1&&(wn a2 a3 0 1&&(wn a4 a5 1 4&&wn a6 a7 1 4))
def pol (a0 a1 a2 a3 a4 a5 a6 a7 x0 x1 y0 y1:Int):Int×Int×Int:=bif srf a0 a1 a2 a3 a4 a5 a6 a7 then bnd (imul a4 a5 x0 x1) (fun p0 p1=>bnd (imul a6 a7 y0 y1) fun q0 q1=>shr p0 p1 q0 q1) else (0,0,1)
def mean (r s:Int×Int×Int):Int×Int×Int:=bnd r fun p0 p1=>bnd s fun q0 q1=>bnd (iadd p0 p1 q0 q1) fun s0 s1=>fin (imul s0 s1 8388608 8388608)
def refl (a0 a1 a2 a3 a4 a5 a6 a7:Int):Int×Int×Int:=mean (pol a0 a1 a2 a3 a4 a5 a6 a7 a0 a1 a2 a3) (pol a0 a1 a2 a3 a4 a5 a6 a7 a2 a3 a0 a1)
def In (a b c d:Int):Prop:=c≤a∧a≤b∧b≤d
theorem In.v {a b c d:Int} (h:In a b c d) (hv:V c d=true):V a b=true:=by
  have:=V_iff.1 hv
  unfold In at h
  exact V_iff.2 (by omega)
theorem op_v {a b c d:Int} {x:Int×Int×Int} {L H:Int} (h:(bif V a b&&V c d then x else (0,0,1))=(L,H,0)):V a b=true∧V c d=true:=by
  cases h1:V a b<;>cases h2:V c d<;>simp [h1,h2] at h ⊢
theorem chk_inc {lo hi lo' hi' L H:Int} (h:chk lo' hi'=(L,H,0)) (h1:lo'≤lo) (h2:lo≤hi) (h3:hi≤hi'):chk lo hi=(lo,hi,0)∧In lo hi L H∧V L H=true:=by
  have:=chk_ok h
  refine ⟨chk_of (by omega) h2 (by omega),?_,V_iff.2 (by omega)⟩
  unfold In; omega
theorem iadd_inc {a b c d A B C D L H:Int} (h1:In a b A B) (h2:In c d C D) (h:iadd A B C D=(L,H,0)):∃l r,iadd a b c d=(l,r,0)∧In l r L H∧V L H=true:=by
  have hv:=op_v h
  have hc:chk (A+C) (B+D)=(L,H,0):=by simpa [iadd,hv.1,hv.2] using h
  have:chk (a+c) (b+d)=(a+c,b+d,0)∧In (a+c) (b+d) L H∧V L H=true:=by unfold In at h1 h2; exact chk_inc hc (by omega) (by omega) (by omega)
  exact ⟨_,_,by simpa [iadd,h1.v hv.1,h2.v hv.2] using this.1,this.2⟩
theorem isub_inc {a b c d A B C D L H:Int} (h1:In a b A B) (h2:In c d C D) (h:isub A B C D=(L,H,0)):∃l r,isub a b c d=(l,r,0)∧In l r L H∧V L H=true:=by
  have hv:=op_v h
  have hc:chk (A-D) (B-C)=(L,H,0):=by simpa [isub,hv.1,hv.2] using h
  have:chk (a-d) (b-c)=(a-d,b-c,0)∧In (a-d) (b-c) L H∧V L H=true:=by unfold In at h1 h2; exact chk_inc hc (by omega) (by omega) (by omega)
  exact ⟨_,_,by simpa [isub,h1.v hv.1,h2.v hv.2] using this.1,this.2⟩
theorem mn4_le {a b c d A B C D:Int} (h1:In a b A B) (h2:In c d C D):mn4 (A*C) (A*D) (B*C) (B*D)≤mn4 (a*c) (a*d) (b*c) (b*d)∧mx4 (a*c) (a*d) (b*c) (b*d)≤mx4 (A*C) (A*D) (B*C) (B*D):=by
  unfold In at h1 h2
  have e1:=mul_in (a:=A) (b:=B) (c:=C) (d:=D) (x:=a) (y:=c) (by omega) (by omega) (by omega) (by omega)
  have e2:=mul_in (a:=A) (b:=B) (c:=C) (d:=D) (x:=a) (y:=d) (by omega) (by omega) (by omega) (by omega)
  have e3:=mul_in (a:=A) (b:=B) (c:=C) (d:=D) (x:=b) (y:=c) (by omega) (by omega) (by omega) (by omega)
  have e4:=mul_in (a:=A) (b:=B) (c:=C) (d:=D) (x:=b) (y:=d) (by omega) (by omega) (by omega) (by omega)
  generalize mn4 (A*C) (A*D) (B*C) (B*D)=m at*
  generalize mx4 (A*C) (A*D) (B*C) (B*D)=M at*
  simp only [mn4,mx4]
  omega
theorem mn4_mx4 (x y z w:Int):mn4 x y z w≤mx4 x y z w:=by simp only [mn4,mx4]; omega
theorem imul_inc {a b c d A B C D L H:Int} (h1:In a b A B) (h2:In c d C D) (h:imul A B C D=(L,H,0)):∃l r,imul a b c d=(l,r,0)∧In l r L H∧V L H=true:=by
  have hv:=op_v h
  have hc:chk (mn4 (A*C) (A*D) (B*C) (B*D)/16777216) (cl (mx4 (A*C) (A*D) (B*C) (B*D)) 16777216)=(L,H,0):=by simpa [imul,hv.1,hv.2] using h
  have hk:(0:Int)<16777216:=by omega
  have hm:=mn4_le h1 h2
  have:=chk_inc hc (fl_mono hk hm.1) (fl_le_cl' hk (mn4_mx4 _ _ _ _)) (cl_mono hk hm.2)
  exact ⟨_,_,by simpa [imul,h1.v hv.1,h2.v hv.2] using this.1,this.2⟩
theorem pdiv_inc {a b c d A B C D L H:Int} (hC:0<C) (h1:In a b A B) (h2:In c d C D) (h:pdiv A B C D=(L,H,0)):∃l r,pdiv a b c d=(l,r,0)∧In l r L H∧V L H=true:=by
  unfold In at h1 h2
  have hc:0<c:=by omega
  have hd:0<d:=by omega
  have hD:0<D:=by omega
  have e1:=fl_div_in (a:=A*16777216) (c:=C) (d:=D) (y:=c) hC (by omega) (by omega)
  have e2:=fl_div_in (a:=A*16777216) (c:=C) (d:=D) (y:=d) hC (by omega) (by omega)
  have e3:=cl_div_in (a:=B*16777216) (c:=C) (d:=D) (y:=c) hC (by omega) (by omega)
  have e4:=cl_div_in (a:=B*16777216) (c:=C) (d:=D) (y:=d) hC (by omega) (by omega)
  have m1:=fl_mono (x:=A*16777216) (y:=a*16777216) hc (by omega)
  have m2:=fl_mono (x:=A*16777216) (y:=a*16777216) hd (by omega)
  have m3:=cl_mono (x:=b*16777216) (y:=B*16777216) hc (by omega)
  have m4:=cl_mono (x:=b*16777216) (y:=B*16777216) hd (by omega)
  have m5:=fl_le_cl' (x:=a*16777216) (y:=b*16777216) hc (by omega)
  have:=chk_inc (lo:=min (a*16777216/c) (a*16777216/d)) (hi:=max (cl (b*16777216) c) (cl (b*16777216) d)) h (by omega) (by omega) (by omega)
  exact ⟨_,_,this.1,this.2⟩
theorem idiv_inc {a b c d A B C D L H:Int} (h1:In a b A B) (h2:In c d C D) (h:idiv A B C D=(L,H,0)):∃l r,idiv a b c d=(l,r,0)∧In l r L H∧V L H=true:=by
  have hv:=op_v h
  have h0:¬(C≤0∧0≤D):=fun h0=>by simp [idiv,hv.1,hv.2,h0] at h
  have hi0:¬(c≤0∧0≤d):=by unfold In at h1 h2; omega
  simp only [idiv,hv.1,hv.2,h1.v hv.1,h2.v hv.2,Bool.and_self,cond_true,if_neg h0,if_neg hi0] at h ⊢
  have hCD:C≤D:=by unfold In at h1 h2; omega
  by_cases hD:D<0
  · have hd:d<0:=by unfold In at h1 h2; omega
    rw [if_pos hD] at h
    rw [if_pos hd]
    exact pdiv_inc (by omega) (by unfold In at h1 h2 ⊢; omega) (by unfold In at h1 h2 ⊢; omega) h
  · have hd:¬d<0:=by unfold In at h1 h2; omega
    rw [if_neg hD] at h
    rw [if_neg hd]
    exact pdiv_inc (by omega) h1 h2 h
def sqlo (a b:Int):Int:=if a≤0∧0≤b then 0 else min (a*a) (b*b)
theorem sqlo_le {a b x:Int} (h1:a≤x) (h2:x≤b):sqlo a b≤x*x∧x*x≤max (a*a) (b*b):=by
  have sa:=sq_nonneg a
  have sb:=sq_nonneg b
  constructor
  · unfold sqlo
    split
    · exact sq_nonneg x
    · by_cases hx:0<a
      · have:=sq_mono (x:=a) (y:=x) (by omega) (by omega)
        omega
      · have:=sq_mono (x:= -b) (y:= -x) (by omega) (by omega)
        rw [Int.neg_mul_neg,Int.neg_mul_neg] at this
        omega
  · by_cases hx:0≤x
    · have:=sq_mono (x:=x) (y:=b) (by omega) h2
      omega
    · have:=sq_mono (x:= -x) (y:= -a) (by omega) (by omega)
      rw [Int.neg_mul_neg,Int.neg_mul_neg] at this
      omega
theorem sqlo_inc {a b A B:Int} (h:In a b A B):sqlo A B≤sqlo a b∧max (a*a) (b*b)≤max (A*A) (B*B)∧sqlo a b≤max (a*a) (b*b):=by
  unfold In at h
  have e1:=sqlo_le (a:=A) (b:=B) (x:=a) (by omega) (by omega)
  have e2:=sqlo_le (a:=A) (b:=B) (x:=b) (by omega) (by omega)
  have sa:=sq_nonneg a
  have sb:=sq_nonneg b
  refine ⟨?_,by omega,by unfold sqlo; split<;>omega⟩
  unfold sqlo at e1 e2 ⊢
  split<;>split
  · omega
  · omega
  · omega
  · simp_all; omega
theorem isq_inc {a b A B L H:Int} (h1:In a b A B) (h:isq A B=(L,H,0)):∃l r,isq a b=(l,r,0)∧In l r L H∧V L H=true:=by
  have hv:V A B=true:=by cases hv:V A B<;>simp [isq,hv] at h ⊢
  have hc:chk (sqlo A B/16777216) (cl (max (A*A) (B*B)) 16777216)=(L,H,0):=by simpa [isq,hv,sqlo] using h
  have hk:(0:Int)<16777216:=by omega
  have hm:=sqlo_inc h1
  have:=chk_inc hc (fl_mono hk hm.1) (fl_le_cl' hk hm.2.2) (cl_mono hk hm.2.1)
  exact ⟨_,_,by simpa [isq,h1.v hv,sqlo] using this.1,this.2⟩
end Go.Proofs.YtpejalpgficopaaGreatDoor.G
end
section
namespace Go.Proofs.YtpejalpgficopaaGreatDoor.G
open Go
set_option linter.unusedVariables false
def rts:Nat→Int→Int→Int
  |0,n,r=>r
  |k+1,n,r=>rts k n (if (r+2^k)*(r+2^k)≤n then r+2^k else r)
def sqt (n:Int):Int:=rts 32 n 0
theorem pow_succ_int (k:Nat):(2:Int)^(k+1)=2^k+2^k:=by rw [Int.pow_succ]; omega
theorem pow_nonneg_int (k:Nat):(0:Int)<2^k:=by
  induction k with
  |zero=>decide
  |succ k ih=>rw [pow_succ_int]; omega
theorem rts_spec:∀(k:Nat) (n r:Int),0≤r→r*r≤n→n<(r+2^k)*(r+2^k)→0≤rts k n r∧rts k n r*rts k n r≤n∧n<(rts k n r+1)*(rts k n r+1)
  | 0,n,r,h0,h1,h2=>by
    simp only [rts]
    exact ⟨h0,h1,by simpa using h2⟩
  | k +1,n,r,h0,h1,h2=>by
    simp only [rts]
    have hp:=pow_nonneg_int k
    rw [pow_succ_int] at h2
    split
    · rename_i h
      refine rts_spec k n (r+2^k) (by omega) h ?_
      rw [Int.add_assoc]; exact h2
    · rename_i h
      exact rts_spec k n r h0 h1 (by omega)
theorem sqt_spec {n:Int} (h0:0≤n) (h:n≤4611686018427387904):0≤sqt n∧sqt n*sqt n≤n∧n<(sqt n+1)*(sqt n+1):=
  rts_spec 32 n 0 (by omega) (by omega) (by
    have:((0:Int)+2^32)*(0+2^32)=18446744073709551616:=by decide
    omega)
theorem le_of_sq {a b:Int} (hb:0≤b) (h:a*a<(b+1)*(b+1)):a≤b:=by
  by_cases hab:a≤b
  · exact hab
  · have:(b+1)*(b+1)≤a*a:=sq_mono (by omega) (by omega)
    omega
theorem sqt_mono {m n:Int} (h0:0≤m) (hmn:m≤n) (h:n≤4611686018427387904):sqt m≤sqt n:=by
  have h1:=sqt_spec h0 (by omega)
  have h2:=sqt_spec (n:=n) (by omega) h
  exact le_of_sq h2.1 (by omega)
def sqc (n:Int):Int:=if sqt n*sqt n<n then sqt n+1 else sqt n
theorem sqc_spec {n:Int} (h0:0≤n) (h:n≤4611686018427387904):0≤sqc n∧n≤sqc n*sqc n∧(0<sqc n→(sqc n-1)*(sqc n-1)<n)∧sqt n≤sqc n∧sqc n≤sqt n+1:=by
  have hs:=sqt_spec h0 h
  unfold sqc
  split
  · refine ⟨by omega,by omega,fun _=> ?_,by omega,by omega⟩
    rw [Int.add_sub_cancel]; assumption
  · refine ⟨hs.1,by omega,fun hp=> ?_,by omega,by omega⟩
    have:(sqt n-1)*(sqt n-1)<sqt n*sqt n:=by
      have:=sq_mono (x:=sqt n-1) (y:=sqt n) (by omega) (by omega)
      have e:sqt n*sqt n=(sqt n-1)*(sqt n-1)+2*(sqt n-1)+1:=by
        have:sqt n=(sqt n-1)+1:=by omega
        generalize sqt n-1=q at*
        rw [this,Int.add_mul,Int.mul_add]; omega
      omega
    omega
theorem sqc_le {n q:Int} (h0:0≤n) (h:n≤4611686018427387904) (hq:0≤q) (hn:n≤q*q):sqc n≤q:=by
  have hs:=sqc_spec h0 h
  by_cases hp:0<sqc n
  · have:=le_of_sq (a:=sqc n-1) (b:=q-1+0) (by
      by_cases hq0:q=0
      · subst hq0
        have h1:=hs.2.2.1 hp
        have h2:=sq_nonneg (sqc n-1)
        omega
      · omega) (by
      have e:q-1+0+1=q:=by omega
      rw [e]
      have:=hs.2.2.1 hp
      omega)
    omega
  · omega
theorem sqc_mono {m n:Int} (h0:0≤m) (hmn:m≤n) (h:n≤4611686018427387904):sqc m≤sqc n:=by
  have h2:=sqc_spec (n:=n) (by omega) h
  exact sqc_le h0 (by omega) h2.1 (by omega)
def isr (a b:Int):Int×Int×Int:=bif V a b then (if a<0 then (0,0,2) else (sqt (a*16777216),sqc (b*16777216),0)) else (0,0,1)
theorem isr_range {a b:Int} (h0:0≤a) (h1:a≤b) (h2:b≤1073741824):0≤sqt (a*16777216)∧sqt (a*16777216)≤sqc (b*16777216)∧sqc (b*16777216)≤134217728:=by
  have s1:=sqt_spec (n:=a*16777216) (by omega) (by omega)
  have s2:=sqc_spec (n:=b*16777216) (by omega) (by omega)
  have s3:=sqt_mono (m:=a*16777216) (n:=b*16777216) (by omega) (by omega) (by omega)
  have s4:=sqc_le (n:=b*16777216) (q:=134217728) (by omega) (by omega) (by omega) (by omega)
  omega
theorem isr_ok {a b L H:Int} (h:isr a b=(L,H,0)):V a b=true∧0≤a∧L=sqt (a*16777216)∧H=sqc (b*16777216):=by
  unfold isr at h
  cases hv:V a b with
  |false=>simp [hv] at h
  | true=>
    by_cases ha:a<0
    · simp [hv,ha] at h
    · simp only [hv,cond_true,ha,if_false,Prod.mk.injEq,and_true] at h
      exact ⟨rfl,by omega,h.1.symm,h.2.symm⟩
theorem isr_inc {a b A B L H:Int} (h1:In a b A B) (h:isr A B=(L,H,0)):∃l r,isr a b=(l,r,0)∧In l r L H∧V L H=true:=by
  obtain ⟨hv,h0,e1,e2⟩:=isr_ok h
  have hV:=V_iff.1 hv
  have hva:=h1.v hv
  unfold In at h1
  have m1:=sqt_mono (m:=A*16777216) (n:=a*16777216) (by omega) (by omega) (by omega)
  have m2:=sqc_mono (m:=b*16777216) (n:=B*16777216) (by omega) (by omega) (by omega)
  have r1:=isr_range (a:=a) (b:=b) (by omega) (by omega) (by omega)
  have r2:=isr_range (a:=A) (b:=B) (by omega) (by omega) (by omega)
  refine ⟨sqt (a*16777216),sqc (b*16777216),?_,?_,V_iff.2 (by omega)⟩
  · rw [isr,hva,cond_true,if_neg (by omega)]
  · unfold In; omega
end Go.Proofs.YtpejalpgficopaaGreatDoor.G
end
section
namespace Go.Proofs.YtpejalpgficopaaGreatDoor.G
open Go
set_option linter.unusedVariables false
inductive Re (α:Type) where
  |er (e:Int):Re α
  |ok (a:α):Re α
def Re.bind {α β:Type} (r:Re α) (k:α→Re β):Re β:=match r with| .er e=> .er e| .ok a=>k a
theorem bind_er {α β:Type} (e:Int) (k:α→Re β):(Re.er e).bind k= .er e:=rfl
theorem bind_ok {α β:Type} (a:α) (k:α→Re β):(Re.ok a).bind k=k a:=rfl
theorem bind_inv {α β:Type} {r:Re α} {k:α→Re β} {b:β} (h:r.bind k= .ok b):∃a,r= .ok a∧k a= .ok b:=by
  cases r with
  |er e=>cases h
  |ok a=>exact ⟨a,rfl,h⟩
abbrev I2:=Int×Int
abbrev Bx:=I2×I2×I2
def t3 (r:Int×Int×Int):Re I2:=bif r.2.2 !=0 then .er r.2.2 else .ok (r.1,r.2.1)
def o3:Re I2→Int×Int×Int
  | .er e=>(0,0,e)
  | .ok x=>(x.1,x.2,0)
def o7:Re Bx→Int×Int×Int×Int×Int×Int×Int
  | .er e=>(0,0,0,0,0,0,e)
  | .ok x=>(x.1.1,x.1.2,x.2.1.1,x.2.1.2,x.2.2.1,x.2.2.2,0)
theorem t3_ok {a b:Int} :t3 (a,b,0)= .ok (a,b):=rfl
theorem t3_er {a b e:Int} (h:e≠0):t3 (a,b,e)= .er e:=by simp [t3,bne_of h]
theorem t3_inv {r:Int×Int×Int} {x:I2} (h:t3 r= .ok x):r=(x.1,x.2,0):=by
  obtain ⟨a,b,e⟩:=r
  by_cases he:e=0
  · subst he; rw [t3_ok] at h; injection h with h; subst h; rfl
  · rw [t3_er he] at h; cases h
def addR (x y:I2):Re I2:=t3 (iadd x.1 x.2 y.1 y.2)
def subR (x y:I2):Re I2:=t3 (isub x.1 x.2 y.1 y.2)
def mulR (x y:I2):Re I2:=t3 (imul x.1 x.2 y.1 y.2)
def divR (x y:I2):Re I2:=t3 (idiv x.1 x.2 y.1 y.2)
def sqR (x:I2):Re I2:=t3 (isq x.1 x.2)
def rtR (x:I2):Re I2:=t3 (isr x.1 x.2)
def V2 (x:I2):Bool:=V x.1 x.2
def VB (a:Bx):Bool:=V2 a.1&&(V2 a.2.1&&V2 a.2.2)
def one2:I2:=(16777216,16777216)
def dzip (f:I2→I2→Re I2) (a b:Bx):Re Bx:=(f a.1 b.1).bind fun x=>(f a.2.1 b.2.1).bind fun y=>(f a.2.2 b.2.2).bind fun z=> .ok (x,y,z)
def dadd (a b:Bx):Re Bx:=bif VB a&&VB b then dzip addR a b else .er 1
def dsub (a b:Bx):Re Bx:=bif VB a&&VB b then dzip subR a b else .er 1
def dscale (a:Bx) (k:I2):Re Bx:=bif VB a&&V2 k then dzip mulR a (k,k,k) else .er 1
def ddot (a b:Bx):Re I2:=bif VB a&&VB b then (mulR a.1 b.1).bind fun x=>(mulR a.2.1 b.2.1).bind fun y=>(mulR a.2.2 b.2.2).bind fun z=>(addR x y).bind fun s=>addR s z else .er 1
def S2 (x X:I2):Prop:=In x.1 x.2 X.1 X.2∧V X.1 X.2=true
def SB (a A:Bx):Prop:=S2 a.1 A.1∧S2 a.2.1 A.2.1∧S2 a.2.2 A.2.2
def Inc {α:Type} (rel:α→α→Prop) (r R:Re α):Prop:=∀A,R= .ok A→∃a,r= .ok a∧rel a A
theorem Inc.ok {α:Type} {rel:α→α→Prop} {a A:α} (h:rel a A):Inc rel (.ok a) (.ok A):=fun _ hA=>by
  injection hA with hA; subst hA; exact ⟨a,rfl,h⟩
theorem Inc.bind {α β:Type} {rel:α→α→Prop} {rel':β→β→Prop} {r R:Re α} {k K:α→Re β} (h:Inc rel r R) (hk:∀a A,rel a A→Inc rel' (k a) (K A)):Inc rel' (r.bind k) (R.bind K):=fun B hB=>by
  obtain ⟨A,h1,h2⟩:=bind_inv hB
  obtain ⟨a,e1,e2⟩:=h A h1
  obtain ⟨b,e3,e4⟩:=hk a A e2 B h2
  exact ⟨b,by rw [e1]; exact e3,e4⟩
theorem Inc.t3 {r R:Int×Int×Int} (h:∀L H,R=(L,H,0)→∃l u,r=(l,u,0)∧In l u L H∧V L H=true):Inc S2 (t3 r) (t3 R):=fun A hA=>by
  obtain ⟨l,u,h1,h2,h3⟩:=h _ _ (t3_inv hA)
  exact ⟨(l,u),by rw [h1]; rfl,h2,h3⟩
theorem add_inc {x X y Y:I2} (h:S2 x X) (h':S2 y Y):Inc S2 (addR x y) (addR X Y):=Inc.t3 fun L H e=>iadd_inc h.1 h'.1 e
theorem sub_inc {x X y Y:I2} (h:S2 x X) (h':S2 y Y):Inc S2 (subR x y) (subR X Y):=Inc.t3 fun L H e=>isub_inc h.1 h'.1 e
theorem mul_inc {x X y Y:I2} (h:S2 x X) (h':S2 y Y):Inc S2 (mulR x y) (mulR X Y):=Inc.t3 fun L H e=>imul_inc h.1 h'.1 e
theorem sq_inc {x X:I2} (h:S2 x X):Inc S2 (sqR x) (sqR X):=Inc.t3 fun L H e=>isq_inc h.1 e
theorem rt_inc {x X:I2} (h:S2 x X):Inc S2 (rtR x) (rtR X):=Inc.t3 fun L H e=>isr_inc h.1 e
theorem S2.v {x X:I2} (h:S2 x X):V2 x=true:=h.1.v h.2
theorem SB.v {a A:Bx} (h:SB a A):VB a=true:=by simp only [VB,h.1.v,h.2.1.v,h.2.2.v,Bool.and_self]
theorem S2.refl {x:I2} (h:V2 x=true):S2 x x:=⟨by have:=V_iff.1 h; unfold In; omega,h⟩
theorem one_v:V2 one2=true:=by decide
theorem cond_inv {α:Type} {b:Bool} {x y:Re α} {A:α} {e:Int} (hy:y= .er e) (h:(bif b then x else y)= .ok A):b=true∧x= .ok A:=by
  cases b with
  |true=>exact ⟨rfl,h⟩
  |false=>rw [hy] at h; cases h
theorem Inc.cond {α:Type} {rel:α→α→Prop} {b B:Bool} {r R:Re α} {e e':Int} (hb:b=true) (h:Inc rel r R):Inc rel (bif b then r else .er e) (bif B then R else .er e'):=fun A hA=>by
  obtain ⟨_,h2⟩:=cond_inv rfl hA
  obtain ⟨a,h3,h4⟩:=h A h2
  exact ⟨a,by rw [hb]; exact h3,h4⟩
theorem dzip_inc {f:I2→I2→Re I2} (hf:∀x X y Y,S2 x X→S2 y Y→Inc S2 (f x y) (f X Y)) {a A b B:Bx} (h:SB a A) (h':SB b B):Inc SB (dzip f a b) (dzip f A B):=
  (hf _ _ _ _ h.1 h'.1).bind fun x X hx=>(hf _ _ _ _ h.2.1 h'.2.1).bind fun y Y hy=>(hf _ _ _ _ h.2.2 h'.2.2).bind fun z Z hz=>Inc.ok ⟨hx,hy,hz⟩
theorem dadd_inc {a A b B:Bx} (h:SB a A) (h':SB b B):Inc SB (dadd a b) (dadd A B):=Inc.cond (by rw [h.v,h'.v]; rfl) (dzip_inc (fun _ _ _ _=>add_inc) h h')
theorem dsub_inc {a A b B:Bx} (h:SB a A) (h':SB b B):Inc SB (dsub a b) (dsub A B):=Inc.cond (by rw [h.v,h'.v]; rfl) (dzip_inc (fun _ _ _ _=>sub_inc) h h')
theorem dscale_inc {a A:Bx} {k K:I2} (h:SB a A) (h':S2 k K):Inc SB (dscale a k) (dscale A K):=Inc.cond (by rw [h.v,h'.v]; rfl) (dzip_inc (fun _ _ _ _=>mul_inc) h ⟨h',h',h'⟩)
theorem ddot_inc {a A b B:Bx} (h:SB a A) (h':SB b B):Inc S2 (ddot a b) (ddot A B):=Inc.cond (by rw [h.v,h'.v]; rfl)
  ((mul_inc h.1 h'.1).bind fun x X hx=>(mul_inc h.2.1 h'.2.1).bind fun y Y hy=>(mul_inc h.2.2 h'.2.2).bind fun z Z hz=>(add_inc hx hy).bind fun s S hs=>add_inc hs hz)
def Lim {α:Type} (P:α→Prop) (r:Re α):Prop:=(∃a,r= .ok a∧P a)∨r= .er 3
theorem Lim.bind {α β:Type} {P:α→Prop} {Q:β→Prop} {r:Re α} {k:α→Re β} (h:Lim P r) (hk:∀a,P a→Lim Q (k a)):Lim Q (r.bind k):=by
  rcases h with ⟨a,e,hp⟩|e
  · rw [e,bind_ok]; exact hk a hp
  · rw [e]; exact Or.inr rfl
theorem Lim.ok {α:Type} {P:α→Prop} {a:α} (h:P a):Lim P (.ok a):=Or.inl ⟨a,rfl,h⟩
theorem Lim.chk (a b:Int):Lim (fun x=>V2 x=true) (G.t3 (chk a b)):=by
  rcases chk_eq a b with ⟨h,hv⟩|⟨h,hv⟩<;>rw [h]
  · exact Or.inl ⟨(a,b),rfl,hv⟩
  · exact Or.inr rfl
theorem VB_iff {a:Bx} :VB a=true↔V2 a.1=true∧V2 a.2.1=true∧V2 a.2.2=true:=by simp only [VB,Bool.and_eq_true]
def Nz {α:Type} (r:Re α):Prop:=∀e,r= .er e→e≠0
theorem Nz.cases {α:Type} {r:Re α} (h:Nz r):(∃x,r= .ok x)∨∃e,e≠0∧r= .er e:=by
  cases r with
  |er e=>exact Or.inr ⟨e,h e rfl,rfl⟩
  |ok x=>exact Or.inl ⟨x,rfl⟩
theorem Nz.ok {α:Type} {a:α} :Nz (.ok a):=fun e h=>by cases h
theorem Nz.er {α:Type} {e:Int} (h:e≠0):Nz (.er e:Re α):=fun e' h'=>by injection h' with h'; subst h'; exact h
theorem Nz.bind {α β:Type} {r:Re α} {k:α→Re β} (h:Nz r) (hk:∀a,Nz (k a)):Nz (r.bind k):=by
  rcases h.cases with ⟨x,e⟩|⟨e,he,e1⟩
  · rw [e]; exact hk x
  · rw [e1]; exact Nz.er he
theorem Nz.t3 (r:Int×Int×Int):Nz (G.t3 r):=by
  obtain ⟨a,b,e⟩:=r
  by_cases he:e=0
  · subst he; exact Nz.ok
  · rw [t3_er he]; exact Nz.er he
theorem Nz.cond {α:Type} {b:Bool} {x y:Re α} (h:Nz x) (h':Nz y):Nz (bif b then x else y):=by cases b; exact h'; exact h
theorem Nz.one {α:Type} :Nz (.er 1:Re α):=Nz.er (by decide)
theorem dzip_nz {f:I2→I2→Re I2} (hf:∀x y,Nz (f x y)) (a b:Bx):Nz (dzip f a b):=(hf _ _).bind fun _=>(hf _ _).bind fun _=>(hf _ _).bind fun _=>Nz.ok
theorem dadd_nz (a b:Bx):Nz (dadd a b):=Nz.cond (dzip_nz (fun _ _=>Nz.t3 _) _ _) Nz.one
theorem dsub_nz (a b:Bx):Nz (dsub a b):=Nz.cond (dzip_nz (fun _ _=>Nz.t3 _) _ _) Nz.one
theorem dscale_nz (a:Bx) (k:I2):Nz (dscale a k):=Nz.cond (dzip_nz (fun _ _=>Nz.t3 _) _ _) Nz.one
theorem ddot_nz (a b:Bx):Nz (ddot a b):=Nz.cond ((Nz.t3 _).bind fun _=>(Nz.t3 _).bind fun _=>(Nz.t3 _).bind fun _=>(Nz.t3 _).bind fun _=>Nz.t3 _) Nz.one
def o2:Re Int→Int×Int
  | .er e=>(0,e)
  | .ok x=>(x,0)
def o11:Re (Bx×I2×I2)→Int×Int×Int×Int×Int×Int×Int×Int×Int×Int×Int
  | .er e=>(0,0,0,0,0,0,0,0,0,0,e)
  | .ok x=>(x.1.1.1,x.1.1.2,x.1.2.1.1,x.1.2.1.2,x.1.2.2.1,x.1.2.2.2,x.2.1.1,x.2.1.2,x.2.2.1,x.2.2.2,0)
def st (s a b:Int) (r:Int×Int×Int):Int×Int×Int:=bif s !=0 then (a,b,s) else r
theorem st0 (a b:Int) (r:Int×Int×Int):st 0 a b r=r:=rfl
theorem stE {s:Int} (h:s≠0) (a b:Int) (r:Int×Int×Int):st s a b r=(a,b,s):=by simp [st,bne_of h]
def kr (s:Int) (r:Int×Int×Int):Int×Int×Int:=(r.1,r.2.1,kp s r.2.2)
theorem kr0 (r:Int×Int×Int):kr 0 r=r:=rfl
theorem krE {s:Int} (h:s≠0) (r:Int×Int×Int):kr s r=(r.1,r.2.1,s):=by simp [kr,kpn _ h]
theorem t3c (r:Int×Int×Int):(∃x y,r=(x,y,0))∨∃x y e,e≠0∧r=(x,y,e):=by
  obtain ⟨a,b,e⟩:=r
  by_cases he:e=0
  · subst he; exact Or.inl ⟨_,_,rfl⟩
  · exact Or.inr ⟨_,_,_,he,rfl⟩
def st7 (s:Int) (a:Bx) (r:Re Bx):Int×Int×Int×Int×Int×Int×Int:=bif s !=0 then (a.1.1,a.1.2,a.2.1.1,a.2.1.2,a.2.2.1,a.2.2.2,s) else o7 r
theorem st70 (a:Bx) (r:Re Bx):st7 0 a r=o7 r:=rfl
theorem st7E {s:Int} (h:s≠0) (a:Bx) (r:Re Bx):st7 s a r=(a.1.1,a.1.2,a.2.1.1,a.2.1.2,a.2.2.1,a.2.2.2,s):=by simp [st7,bne_of h]
theorem V2_mk (a b:Int):V2 (a,b)=V a b:=rfl
end Go.Proofs.YtpejalpgficopaaGreatDoor.G
end
section
namespace Go.Proofs.YtpejalpgficopaaGreatDoor.G
open Go Go.Proofs RX
set_option linter.unusedVariables false
def mn (x y:Int):Int:=if y<x then y else x
def mx (x y:Int):Int:=if y>x then y else x
theorem mn_eq (x y:Int):mn x y=min x y:=by unfold mn; split<;>omega
theorem mx_eq (x y:Int):mx x y=max x y:=by unfold mx; split<;>omega
def interval_extremes.sp:HSpec
  |[.slice (some ⟨0,0,none⟩) 2 2],[.cs [.int .i64 a,.int .i64 b] 3]=>some (true,.tuple ⟨[.int .i64 (mn (mn a a) b),.int .i64 (mx (mx a a) b)]⟩,[.cs [.int .i64 a,.int .i64 b] 3])
  |[.slice (some ⟨0,0,none⟩) 4 4],[.cs [.int .i64 a,.int .i64 b,.int .i64 c,.int .i64 d] 3]=>some (true,.tuple ⟨[.int .i64 (mn (mn (mn (mn a a) b) c) d),.int .i64 (mx (mx (mx (mx a a) b) c) d)]⟩,[.cs [.int .i64 a,.int .i64 b,.int .i64 c,.int .i64 d] 3])
  |_,_=>none
theorem extremes2 (a b:Int):xfn Tryz.prog ⟨[],[],[]⟩ [] 10 Tryz.f117 [.slice (some ⟨0,0,none⟩) 2 2] [.cs [.int .i64 a,.int .i64 b] 3]=some (.tuple ⟨[.int .i64 (mn (mn a a) b),.int .i64 (mx (mx a a) b)]⟩,[.cs [.int .i64 a,.int .i64 b] 3]):=by kernel_rfl
theorem extremes4 (a b c d:Int):xfn Tryz.prog ⟨[],[],[]⟩ [] 10 Tryz.f117 [.slice (some ⟨0,0,none⟩) 4 4] [.cs [.int .i64 a,.int .i64 b,.int .i64 c,.int .i64 d] 3]=some (.tuple ⟨[.int .i64 (mn (mn (mn (mn a a) b) c) d),.int .i64 (mx (mx (mx (mx a a) b) c) d)]⟩,[.cs [.int .i64 a,.int .i64 b,.int .i64 c,.int .i64 d] 3]):=by kernel_rfl
theorem interval_extremes.ok:SOK Tryz.prog 117 interval_extremes.sp:=by
  refine sok_of (E:=⟨[],[],[]⟩) ⟨specs_nil,inl_nil,mixed_ok,lps_nil⟩ 10 Tryz.func117 (by decide) rfl no_loops fun vs bl v bl' h=> ?_
  unfold interval_extremes.sp at h
  split at h
  · simp only [Option.some.injEq,Prod.mk.injEq,true_and] at h
    obtain ⟨rfl,rfl⟩:=h
    exact ⟨extremes2 _ _,by simp [okV,Nat.blt],clo_spec 8 _ rfl,told_blk rfl⟩
  · simp only [Option.some.injEq,Prod.mk.injEq,true_and] at h
    obtain ⟨rfl,rfl⟩:=h
    exact ⟨extremes4 _ _ _ _,by simp [okV,Nat.blt],clo_spec 8 _ rfl,told_blk rfl⟩
  · cases h
end Go.Proofs.YtpejalpgficopaaGreatDoor.G
end
section
namespace Go.Proofs.YtpejalpgficopaaGreatDoor.G
open Go Go.Proofs RX
set_option linter.unusedVariables false
set_option linter.unusedSimpArgs false
def bitOf (k:Nat):Int:=((2^k:Nat):Int)/2
theorem bitOf_zero:bitOf 0=0:=by decide
theorem bitOf_succ (k:Nat):bitOf (k+1)=((2^k:Nat):Int):=by
  unfold bitOf
  rw [Nat.pow_succ]
  omega
def root.tree (n r bit:Int) (d1 z d5 d6 d7 d8 d9 d10 d11 d12 d13 d14 d15 d16 d17 d18 d19:Value):Option (X×List Value×Heap):=
  bif decide (bit>0) then
    bif IntKind.i64.wrap (r+bit) !=0 then
      bif decide (IntKind.i64.wrap (r+bit)≤IntKind.i64.wrap (n.tdiv (IntKind.i64.wrap (r+bit)))) then
        some (.normal,[.int .i64 n,d1,z,.int .i64 (IntKind.i64.wrap (r+bit)),.int .i64 (bit.fdiv (2^min (Int.toNat 1) IntKind.i64.bits)),.int .i64 (IntKind.i64.wrap (r+bit)),.int .i64 bit,.bool true,.int .i64 bit,.int .i64 (bit.fdiv (2^min (Int.toNat 1) IntKind.i64.bits)),.int .i64 r,.int .i64 bit,.int .i64 (IntKind.i64.wrap (r+bit)),.int .i64 (IntKind.i64.wrap (r+bit)),.int .i64 n,.int .i64 (IntKind.i64.wrap (r+bit)),.int .i64 (IntKind.i64.wrap (n.tdiv (IntKind.i64.wrap (r+bit)))),.bool true,.int .i64 (IntKind.i64.wrap (r+bit)),d19],[])
      else
        some (.normal,[.int .i64 n,d1,z,.int .i64 r,.int .i64 (bit.fdiv (2^min (Int.toNat 1) IntKind.i64.bits)),.int .i64 (IntKind.i64.wrap (r+bit)),.int .i64 bit,.bool true,.int .i64 bit,.int .i64 (bit.fdiv (2^min (Int.toNat 1) IntKind.i64.bits)),.int .i64 r,.int .i64 bit,.int .i64 (IntKind.i64.wrap (r+bit)),.int .i64 (IntKind.i64.wrap (r+bit)),.int .i64 n,.int .i64 (IntKind.i64.wrap (r+bit)),.int .i64 (IntKind.i64.wrap (n.tdiv (IntKind.i64.wrap (r+bit)))),.bool false,d18,d19],[])
    else
      none
  else
    some (.exit 0,[.int .i64 n,d1,z,.int .i64 r,.int .i64 bit,d5,.int .i64 bit,.bool false,d8,d9,d10,d11,d12,d13,d14,d15,d16,d17,d18,d19],[])
theorem root.round (n r bit:Int) (d1 z d5 d6 d7 d8 d9 d10 d11 d12 d13 d14 d15 d16 d17 d18 d19:Value) (nx:Nat):exec Tryz.prog ⟨[],[],[]⟩ [] (hs Tryz.prog ⟨[],[],[]⟩ 3).lf (hs Tryz.prog ⟨[],[],[]⟩ 3).cf (loopCode Tryz.f130 0) ⟨[.int .i64 n,d1,z,.int .i64 r,.int .i64 bit,d5,d6,d7,d8,d9,d10,d11,d12,d13,d14,d15,d16,d17,d18,d19],[],nx⟩ (fun x S=>some (x,S.tmps,S.heap))=root.tree n r bit d1 z d5 d6 d7 d8 d9 d10 d11 d12 d13 d14 d15 d16 d17 d18 d19:=by kernel_rfl
def root.fin:Nat→List Value→List Value
  |0,T=>T
  | k+1,[.int .i64 n,d1,z,.int .i64 r,.int .i64 bit,d5,d6,d7,d8,d9,d10,d11,d12,d13,d14,d15,d16,d17,d18,d19]=>(match root.tree n r bit d1 z d5 d6 d7 d8 d9 d10 d11 d12 d13 d14 d15 d16 d17 d18 d19 with
    |some (.normal,T,_)=>root.fin k T
    |some (_,T,_)=>T
    |none=>[])
  |_+1,T=>T
def root.rt:Nat→Int→Int→Int
  |0,n,r=>r
  |k+1,n,r=>root.rt k n (if IntKind.i64.wrap (r+bitOf (k+1))≤IntKind.i64.wrap (n.tdiv (IntKind.i64.wrap (r+bitOf (k+1)))) then IntKind.i64.wrap (r+bitOf (k+1)) else r)
theorem bit_half (k:Nat):(bitOf (k+1)).fdiv (2^min (Int.toNat 1) IntKind.i64.bits)=bitOf k:=by
  rw [bitOf_succ]
  show (((2^k:Nat):Int)).fdiv 2=bitOf k
  rw [Int.fdiv_eq_ediv_of_nonneg _ (by omega)]
  rfl
theorem bitOf_le {k:Nat} (h:k≤32):0≤bitOf k∧bitOf k≤2147483648:=by
  have:2^k≤2^32:=Nat.pow_le_pow_right (by omega) h
  unfold bitOf
  generalize 2^k=m at*
  omega
theorem root.lp:∀(k:Nat) (n r bit:Int) (d1 z d5 d6 d7 d8 d9 d10 d11 d12 d13 d14 d15 d16 d17 d18 d19:Value) (nx:Nat),k≤32→bit=bitOf k→0≤r→r+2*bit≤4294967296→
    Lp Tryz.prog ⟨[],[],[]⟩ [] 3 (loopCode Tryz.f130 0) ⟨[.int .i64 n,d1,z,.int .i64 r,.int .i64 bit,d5,d6,d7,d8,d9,d10,d11,d12,d13,d14,d15,d16,d17,d18,d19],[],nx⟩ (.exit 0) ⟨[.int .i64 n,RX.nth (root.fin (k+1) [.int .i64 n,d1,z,.int .i64 r,.int .i64 bit,d5,d6,d7,d8,d9,d10,d11,d12,d13,d14,d15,d16,d17,d18,d19]) 1,RX.nth (root.fin (k+1) [.int .i64 n,d1,z,.int .i64 r,.int .i64 bit,d5,d6,d7,d8,d9,d10,d11,d12,d13,d14,d15,d16,d17,d18,d19]) 2,.int .i64 (root.rt k n r),RX.nth (root.fin (k+1) [.int .i64 n,d1,z,.int .i64 r,.int .i64 bit,d5,d6,d7,d8,d9,d10,d11,d12,d13,d14,d15,d16,d17,d18,d19]) 4,RX.nth (root.fin (k+1) [.int .i64 n,d1,z,.int .i64 r,.int .i64 bit,d5,d6,d7,d8,d9,d10,d11,d12,d13,d14,d15,d16,d17,d18,d19]) 5,RX.nth (root.fin (k+1) [.int .i64 n,d1,z,.int .i64 r,.int .i64 bit,d5,d6,d7,d8,d9,d10,d11,d12,d13,d14,d15,d16,d17,d18,d19]) 6,RX.nth (root.fin (k+1) [.int .i64 n,d1,z,.int .i64 r,.int .i64 bit,d5,d6,d7,d8,d9,d10,d11,d12,d13,d14,d15,d16,d17,d18,d19]) 7,RX.nth (root.fin (k+1) [.int .i64 n,d1,z,.int .i64 r,.int .i64 bit,d5,d6,d7,d8,d9,d10,d11,d12,d13,d14,d15,d16,d17,d18,d19]) 8,RX.nth (root.fin (k+1) [.int .i64 n,d1,z,.int .i64 r,.int .i64 bit,d5,d6,d7,d8,d9,d10,d11,d12,d13,d14,d15,d16,d17,d18,d19]) 9,RX.nth (root.fin (k+1) [.int .i64 n,d1,z,.int .i64 r,.int .i64 bit,d5,d6,d7,d8,d9,d10,d11,d12,d13,d14,d15,d16,d17,d18,d19]) 10,RX.nth (root.fin (k+1) [.int .i64 n,d1,z,.int .i64 r,.int .i64 bit,d5,d6,d7,d8,d9,d10,d11,d12,d13,d14,d15,d16,d17,d18,d19]) 11,RX.nth (root.fin (k+1) [.int .i64 n,d1,z,.int .i64 r,.int .i64 bit,d5,d6,d7,d8,d9,d10,d11,d12,d13,d14,d15,d16,d17,d18,d19]) 12,RX.nth (root.fin (k+1) [.int .i64 n,d1,z,.int .i64 r,.int .i64 bit,d5,d6,d7,d8,d9,d10,d11,d12,d13,d14,d15,d16,d17,d18,d19]) 13,RX.nth (root.fin (k+1) [.int .i64 n,d1,z,.int .i64 r,.int .i64 bit,d5,d6,d7,d8,d9,d10,d11,d12,d13,d14,d15,d16,d17,d18,d19]) 14,RX.nth (root.fin (k+1) [.int .i64 n,d1,z,.int .i64 r,.int .i64 bit,d5,d6,d7,d8,d9,d10,d11,d12,d13,d14,d15,d16,d17,d18,d19]) 15,RX.nth (root.fin (k+1) [.int .i64 n,d1,z,.int .i64 r,.int .i64 bit,d5,d6,d7,d8,d9,d10,d11,d12,d13,d14,d15,d16,d17,d18,d19]) 16,RX.nth (root.fin (k+1) [.int .i64 n,d1,z,.int .i64 r,.int .i64 bit,d5,d6,d7,d8,d9,d10,d11,d12,d13,d14,d15,d16,d17,d18,d19]) 17,RX.nth (root.fin (k+1) [.int .i64 n,d1,z,.int .i64 r,.int .i64 bit,d5,d6,d7,d8,d9,d10,d11,d12,d13,d14,d15,d16,d17,d18,d19]) 18,RX.nth (root.fin (k+1) [.int .i64 n,d1,z,.int .i64 r,.int .i64 bit,d5,d6,d7,d8,d9,d10,d11,d12,d13,d14,d15,d16,d17,d18,d19]) 19],[],nx⟩
  | 0,n,r,bit,d1,z,d5,d6,d7,d8,d9,d10,d11,d12,d13,d14,d15,d16,d17,d18,d19,nx,hk,hb,hr,hr'=>by
    rw [bitOf_zero] at hb
    subst hb
    have ht:root.tree n r 0 d1 z d5 d6 d7 d8 d9 d10 d11 d12 d13 d14 d15 d16 d17 d18 d19=some (.exit 0,[.int .i64 n,d1,z,.int .i64 r,.int .i64 0,d5,.int .i64 0,.bool false,d8,d9,d10,d11,d12,d13,d14,d15,d16,d17,d18,d19],[]):=rfl
    have hf:root.fin 1 [.int .i64 n,d1,z,.int .i64 r,.int .i64 0,d5,d6,d7,d8,d9,d10,d11,d12,d13,d14,d15,d16,d17,d18,d19]=[.int .i64 n,d1,z,.int .i64 r,.int .i64 0,d5,.int .i64 0,.bool false,d8,d9,d10,d11,d12,d13,d14,d15,d16,d17,d18,d19]:=by simp only [root.fin,ht]
    rw [hf]
    simp only [RX.nth,root.rt]
    refine Lp.done ((root.round n r 0 d1 z d5 d6 d7 d8 d9 d10 d11 d12 d13 d14 d15 d16 d17 d18 d19 nx).trans ht) trivial (fun h=>h.of fun v hv=>by
      simp only [List.mem_cons,List.not_mem_nil,or_false] at hv
      rcases hv with rfl|rfl|rfl|rfl|rfl|rfl|rfl|rfl|rfl|rfl|rfl|rfl|rfl|rfl|rfl|rfl|rfl|rfl|rfl|rfl<;>first|exact .inl (clo_spec 8 _ rfl)|exact .inr (by simp))
  | k + 1,n,r,bit,d1,z,d5,d6,d7,d8,d9,d10,d11,d12,d13,d14,d15,d16,d17,d18,d19,nx,hk,hb,hr,hr'=>by
    have hbl:=bitOf_le hk
    have hb0:0<bit:=by rw [hb,bitOf_succ]; have:=Nat.two_pow_pos k; omega
    have hw:IntKind.i64.wrap (r+bit)=r+bit:=w64 (by omega) (by omega)
    have hbit:bit.fdiv (2^min (Int.toNat 1) IntKind.i64.bits)=bitOf k:=by rw [hb]; exact bit_half k
    have hd1:decide (bit>0)=true:=decide_eq_true hb0
    have hd2:(IntKind.i64.wrap (r+bit) !=0)=true:=bne_of (by omega)
    have h2:2*bitOf k≤bit:=by
      rw [hb,bitOf_succ]
      unfold bitOf
      omega
    by_cases hc:IntKind.i64.wrap (r+bit)≤IntKind.i64.wrap (n.tdiv (IntKind.i64.wrap (r+bit)))
    · have ht:root.tree n r bit d1 z d5 d6 d7 d8 d9 d10 d11 d12 d13 d14 d15 d16 d17 d18 d19=some (.normal,[.int .i64 n,d1,z,.int .i64 (IntKind.i64.wrap (r+bit)),.int .i64 (bit.fdiv (2^min (Int.toNat 1) IntKind.i64.bits)),.int .i64 (IntKind.i64.wrap (r+bit)),.int .i64 bit,.bool true,.int .i64 bit,.int .i64 (bit.fdiv (2^min (Int.toNat 1) IntKind.i64.bits)),.int .i64 r,.int .i64 bit,.int .i64 (IntKind.i64.wrap (r+bit)),.int .i64 (IntKind.i64.wrap (r+bit)),.int .i64 n,.int .i64 (IntKind.i64.wrap (r+bit)),.int .i64 (IntKind.i64.wrap (n.tdiv (IntKind.i64.wrap (r+bit)))),.bool true,.int .i64 (IntKind.i64.wrap (r+bit)),d19],[]):=by
        simp only [root.tree,hd1,hd2,decide_eq_true hc,cond_true]
      have hf:root.fin (k+1+1) [.int .i64 n,d1,z,.int .i64 r,.int .i64 bit,d5,d6,d7,d8,d9,d10,d11,d12,d13,d14,d15,d16,d17,d18,d19]=root.fin (k+1) [.int .i64 n,d1,z,.int .i64 (IntKind.i64.wrap (r+bit)),.int .i64 (bit.fdiv (2^min (Int.toNat 1) IntKind.i64.bits)),.int .i64 (IntKind.i64.wrap (r+bit)),.int .i64 bit,.bool true,.int .i64 bit,.int .i64 (bit.fdiv (2^min (Int.toNat 1) IntKind.i64.bits)),.int .i64 r,.int .i64 bit,.int .i64 (IntKind.i64.wrap (r+bit)),.int .i64 (IntKind.i64.wrap (r+bit)),.int .i64 n,.int .i64 (IntKind.i64.wrap (r+bit)),.int .i64 (IntKind.i64.wrap (n.tdiv (IntKind.i64.wrap (r+bit)))),.bool true,.int .i64 (IntKind.i64.wrap (r+bit)),d19]:=by simp only [root.fin,ht]
      have hrt:root.rt (k+1) n r=root.rt k n (IntKind.i64.wrap (r+bit)):=by
        rw [root.rt,←hb,if_pos hc]
      rw [hf,hrt]
      refine Lp.more ((root.round n r bit d1 z d5 d6 d7 d8 d9 d10 d11 d12 d13 d14 d15 d16 d17 d18 d19 nx).trans ht) (fun h=>h.of fun v hv=>by
      simp only [List.mem_cons,List.not_mem_nil,or_false] at hv
      rcases hv with rfl|rfl|rfl|rfl|rfl|rfl|rfl|rfl|rfl|rfl|rfl|rfl|rfl|rfl|rfl|rfl|rfl|rfl|rfl|rfl<;>first|exact .inl (clo_spec 8 _ rfl)|exact .inr (by simp)) ?_
      exact root.lp k _ _ _ _ _ _ _ _ _ _ _ _ _ _ _ _ _ _ _ _ nx (by omega) hbit (by omega) (by omega)
    · have ht:root.tree n r bit d1 z d5 d6 d7 d8 d9 d10 d11 d12 d13 d14 d15 d16 d17 d18 d19=some (.normal,[.int .i64 n,d1,z,.int .i64 r,.int .i64 (bit.fdiv (2^min (Int.toNat 1) IntKind.i64.bits)),.int .i64 (IntKind.i64.wrap (r+bit)),.int .i64 bit,.bool true,.int .i64 bit,.int .i64 (bit.fdiv (2^min (Int.toNat 1) IntKind.i64.bits)),.int .i64 r,.int .i64 bit,.int .i64 (IntKind.i64.wrap (r+bit)),.int .i64 (IntKind.i64.wrap (r+bit)),.int .i64 n,.int .i64 (IntKind.i64.wrap (r+bit)),.int .i64 (IntKind.i64.wrap (n.tdiv (IntKind.i64.wrap (r+bit)))),.bool false,d18,d19],[]):=by
        simp only [root.tree,hd1,hd2,decide_eq_false hc,cond_true,cond_false]
      have hf:root.fin (k+1+1) [.int .i64 n,d1,z,.int .i64 r,.int .i64 bit,d5,d6,d7,d8,d9,d10,d11,d12,d13,d14,d15,d16,d17,d18,d19]=root.fin (k+1) [.int .i64 n,d1,z,.int .i64 r,.int .i64 (bit.fdiv (2^min (Int.toNat 1) IntKind.i64.bits)),.int .i64 (IntKind.i64.wrap (r+bit)),.int .i64 bit,.bool true,.int .i64 bit,.int .i64 (bit.fdiv (2^min (Int.toNat 1) IntKind.i64.bits)),.int .i64 r,.int .i64 bit,.int .i64 (IntKind.i64.wrap (r+bit)),.int .i64 (IntKind.i64.wrap (r+bit)),.int .i64 n,.int .i64 (IntKind.i64.wrap (r+bit)),.int .i64 (IntKind.i64.wrap (n.tdiv (IntKind.i64.wrap (r+bit)))),.bool false,d18,d19]:=by simp only [root.fin,ht]
      have hrt:root.rt (k+1) n r=root.rt k n r:=by
        rw [root.rt,←hb,if_neg hc]
      rw [hf,hrt]
      refine Lp.more ((root.round n r bit d1 z d5 d6 d7 d8 d9 d10 d11 d12 d13 d14 d15 d16 d17 d18 d19 nx).trans ht) (fun h=>h.of fun v hv=>by
      simp only [List.mem_cons,List.not_mem_nil,or_false] at hv
      rcases hv with rfl|rfl|rfl|rfl|rfl|rfl|rfl|rfl|rfl|rfl|rfl|rfl|rfl|rfl|rfl|rfl|rfl|rfl|rfl|rfl<;>first|exact .inl (clo_spec 8 _ rfl)|exact .inr (by simp)) ?_
      exact root.lp k _ _ _ _ _ _ _ _ _ _ _ _ _ _ _ _ _ _ _ _ nx (by omega) hbit (by omega) (by omega)
def root.t:LSpec1
  |⟨[.int .i64 n,d1,z,.int .i64 r,.int .i64 bit,d5,d6,d7,d8,d9,d10,d11,d12,d13,d14,d15,d16,d17,d18,d19],[],nx⟩=>some (decide (r=0)&&decide (bit=2147483648),.exit 0,⟨[.int .i64 n,RX.nth (root.fin 33 [.int .i64 n,d1,z,.int .i64 r,.int .i64 bit,d5,d6,d7,d8,d9,d10,d11,d12,d13,d14,d15,d16,d17,d18,d19]) 1,RX.nth (root.fin 33 [.int .i64 n,d1,z,.int .i64 r,.int .i64 bit,d5,d6,d7,d8,d9,d10,d11,d12,d13,d14,d15,d16,d17,d18,d19]) 2,.int .i64 (root.rt 32 n 0),RX.nth (root.fin 33 [.int .i64 n,d1,z,.int .i64 r,.int .i64 bit,d5,d6,d7,d8,d9,d10,d11,d12,d13,d14,d15,d16,d17,d18,d19]) 4,RX.nth (root.fin 33 [.int .i64 n,d1,z,.int .i64 r,.int .i64 bit,d5,d6,d7,d8,d9,d10,d11,d12,d13,d14,d15,d16,d17,d18,d19]) 5,RX.nth (root.fin 33 [.int .i64 n,d1,z,.int .i64 r,.int .i64 bit,d5,d6,d7,d8,d9,d10,d11,d12,d13,d14,d15,d16,d17,d18,d19]) 6,RX.nth (root.fin 33 [.int .i64 n,d1,z,.int .i64 r,.int .i64 bit,d5,d6,d7,d8,d9,d10,d11,d12,d13,d14,d15,d16,d17,d18,d19]) 7,RX.nth (root.fin 33 [.int .i64 n,d1,z,.int .i64 r,.int .i64 bit,d5,d6,d7,d8,d9,d10,d11,d12,d13,d14,d15,d16,d17,d18,d19]) 8,RX.nth (root.fin 33 [.int .i64 n,d1,z,.int .i64 r,.int .i64 bit,d5,d6,d7,d8,d9,d10,d11,d12,d13,d14,d15,d16,d17,d18,d19]) 9,RX.nth (root.fin 33 [.int .i64 n,d1,z,.int .i64 r,.int .i64 bit,d5,d6,d7,d8,d9,d10,d11,d12,d13,d14,d15,d16,d17,d18,d19]) 10,RX.nth (root.fin 33 [.int .i64 n,d1,z,.int .i64 r,.int .i64 bit,d5,d6,d7,d8,d9,d10,d11,d12,d13,d14,d15,d16,d17,d18,d19]) 11,RX.nth (root.fin 33 [.int .i64 n,d1,z,.int .i64 r,.int .i64 bit,d5,d6,d7,d8,d9,d10,d11,d12,d13,d14,d15,d16,d17,d18,d19]) 12,RX.nth (root.fin 33 [.int .i64 n,d1,z,.int .i64 r,.int .i64 bit,d5,d6,d7,d8,d9,d10,d11,d12,d13,d14,d15,d16,d17,d18,d19]) 13,RX.nth (root.fin 33 [.int .i64 n,d1,z,.int .i64 r,.int .i64 bit,d5,d6,d7,d8,d9,d10,d11,d12,d13,d14,d15,d16,d17,d18,d19]) 14,RX.nth (root.fin 33 [.int .i64 n,d1,z,.int .i64 r,.int .i64 bit,d5,d6,d7,d8,d9,d10,d11,d12,d13,d14,d15,d16,d17,d18,d19]) 15,RX.nth (root.fin 33 [.int .i64 n,d1,z,.int .i64 r,.int .i64 bit,d5,d6,d7,d8,d9,d10,d11,d12,d13,d14,d15,d16,d17,d18,d19]) 16,RX.nth (root.fin 33 [.int .i64 n,d1,z,.int .i64 r,.int .i64 bit,d5,d6,d7,d8,d9,d10,d11,d12,d13,d14,d15,d16,d17,d18,d19]) 17,RX.nth (root.fin 33 [.int .i64 n,d1,z,.int .i64 r,.int .i64 bit,d5,d6,d7,d8,d9,d10,d11,d12,d13,d14,d15,d16,d17,d18,d19]) 18,RX.nth (root.fin 33 [.int .i64 n,d1,z,.int .i64 r,.int .i64 bit,d5,d6,d7,d8,d9,d10,d11,d12,d13,d14,d15,d16,d17,d18,d19]) 19],[],nx⟩)
  |_=>none
theorem root.lok:LOK Tryz.prog (loopCode Tryz.f130 0) (one1 root.t):=by
  refine lok_of (E:=⟨[],[],[]⟩) (L:=[]) (f:=3) ⟨specs_nil,inl_nil,mixed_ok,lps_nil⟩ lsOk_nil fun S x S' h=> ?_
  unfold root.t at h
  split at h
  · simp only [Option.some.injEq,Prod.mk.injEq,Bool.and_eq_true,decide_eq_true_eq] at h
    obtain ⟨⟨rfl,rfl⟩,rfl,rfl⟩:=h
    exact root.lp 32 _ _ _ _ _ _ _ _ _ _ _ _ _ _ _ _ _ _ _ _ _ (by omega) (by decide) (by omega) (by omega)
  · cases h
def interval_root.sp:HSpec
  |[.int .i64 n],[]=>some (true,.int .i64 (root.rt 32 n 0),[])
  |_,_=>none
theorem root.run (n:Int):xfn Tryz.prog ⟨[],[],[]⟩ [(0,one1 root.t)] 10 Tryz.f130 [.int .i64 n] []=some (.int .i64 (root.rt 32 n 0),[]):=by kernel_rfl
theorem interval_root.ok:SOK Tryz.prog 130 interval_root.sp:=by
  refine sok_of (E:=⟨[],[],[]⟩) (L:=[(0,one1 root.t)]) ⟨specs_nil,inl_nil,mixed_ok,lps_nil⟩ 10 Tryz.func130 (by decide) rfl (one_loop rfl rfl root.lok) fun vs bl v bl' h=> ?_
  unfold interval_root.sp at h
  split at h
  · simp only [Option.some.injEq,Prod.mk.injEq,true_and] at h
    obtain ⟨rfl,rfl⟩:=h
    exact ⟨root.run _,by simp [okV,Nat.blt],clo_spec 8 _ rfl,told_blk rfl⟩
  · cases h
def rroot.tree (n r bit:Int) (d1 z d5 d6 d7 d8 d9 d10 d11 d12 d13 d14 d15 d16 d17 d18 d19 d20 d21 d22 d23 d24:Value):Option (X×List Value×Heap):=
  bif decide (bit≥0) then
    bif decide (0≤bit) then
      bif decide (IntKind.i64.wrap (r+IntKind.i64.wrap (1*2^min bit.toNat IntKind.i64.bits))≤3037000499) then
        bif decide (IntKind.i64.wrap (IntKind.i64.wrap (r+IntKind.i64.wrap (1*2^min bit.toNat IntKind.i64.bits))*IntKind.i64.wrap (r+IntKind.i64.wrap (1*2^min bit.toNat IntKind.i64.bits)))≤n) then
          some (.normal,[.int .i64 n,d1,z,.int .i64 (IntKind.i64.wrap (r+IntKind.i64.wrap (1*2^min bit.toNat IntKind.i64.bits))),.int .i64 (IntKind.i64.wrap (bit-1)),.int .i64 (IntKind.i64.wrap (r+IntKind.i64.wrap (1*2^min bit.toNat IntKind.i64.bits))),.int .i64 bit,.bool true,.int .i64 bit,.int .i64 (IntKind.i64.wrap (bit-1)),.int .i64 r,.int .i64 bit,.int .i64 (IntKind.i64.wrap (1*2^min bit.toNat IntKind.i64.bits)),.int .i64 (IntKind.i64.wrap (r+IntKind.i64.wrap (1*2^min bit.toNat IntKind.i64.bits))),.int .i64 (IntKind.i64.wrap (r+IntKind.i64.wrap (1*2^min bit.toNat IntKind.i64.bits))),.bool (decide (IntKind.i64.wrap (r+IntKind.i64.wrap (1*2^min bit.toNat IntKind.i64.bits))≤3037000499)),.bool true,.int .i64 (IntKind.i64.wrap (r+IntKind.i64.wrap (1*2^min bit.toNat IntKind.i64.bits))),.int .i64 (IntKind.i64.wrap (r+IntKind.i64.wrap (1*2^min bit.toNat IntKind.i64.bits))),.int .i64 (IntKind.i64.wrap (IntKind.i64.wrap (r+IntKind.i64.wrap (1*2^min bit.toNat IntKind.i64.bits))*IntKind.i64.wrap (r+IntKind.i64.wrap (1*2^min bit.toNat IntKind.i64.bits)))),.int .i64 n,.bool (decide (IntKind.i64.wrap (IntKind.i64.wrap (r+IntKind.i64.wrap (1*2^min bit.toNat IntKind.i64.bits))*IntKind.i64.wrap (r+IntKind.i64.wrap (1*2^min bit.toNat IntKind.i64.bits)))≤n)),.bool true,.int .i64 (IntKind.i64.wrap (r+IntKind.i64.wrap (1*2^min bit.toNat IntKind.i64.bits))),d24],[])
        else
          some (.normal,[.int .i64 n,d1,z,.int .i64 r,.int .i64 (IntKind.i64.wrap (bit-1)),.int .i64 (IntKind.i64.wrap (r+IntKind.i64.wrap (1*2^min bit.toNat IntKind.i64.bits))),.int .i64 bit,.bool true,.int .i64 bit,.int .i64 (IntKind.i64.wrap (bit-1)),.int .i64 r,.int .i64 bit,.int .i64 (IntKind.i64.wrap (1*2^min bit.toNat IntKind.i64.bits)),.int .i64 (IntKind.i64.wrap (r+IntKind.i64.wrap (1*2^min bit.toNat IntKind.i64.bits))),.int .i64 (IntKind.i64.wrap (r+IntKind.i64.wrap (1*2^min bit.toNat IntKind.i64.bits))),.bool (decide (IntKind.i64.wrap (r+IntKind.i64.wrap (1*2^min bit.toNat IntKind.i64.bits))≤3037000499)),.bool true,.int .i64 (IntKind.i64.wrap (r+IntKind.i64.wrap (1*2^min bit.toNat IntKind.i64.bits))),.int .i64 (IntKind.i64.wrap (r+IntKind.i64.wrap (1*2^min bit.toNat IntKind.i64.bits))),.int .i64 (IntKind.i64.wrap (IntKind.i64.wrap (r+IntKind.i64.wrap (1*2^min bit.toNat IntKind.i64.bits))*IntKind.i64.wrap (r+IntKind.i64.wrap (1*2^min bit.toNat IntKind.i64.bits)))),.int .i64 n,.bool (decide (IntKind.i64.wrap (IntKind.i64.wrap (r+IntKind.i64.wrap (1*2^min bit.toNat IntKind.i64.bits))*IntKind.i64.wrap (r+IntKind.i64.wrap (1*2^min bit.toNat IntKind.i64.bits)))≤n)),.bool false,d23,d24],[])
      else
        some (.normal,[.int .i64 n,d1,z,.int .i64 r,.int .i64 (IntKind.i64.wrap (bit-1)),.int .i64 (IntKind.i64.wrap (r+IntKind.i64.wrap (1*2^min bit.toNat IntKind.i64.bits))),.int .i64 bit,.bool true,.int .i64 bit,.int .i64 (IntKind.i64.wrap (bit-1)),.int .i64 r,.int .i64 bit,.int .i64 (IntKind.i64.wrap (1*2^min bit.toNat IntKind.i64.bits)),.int .i64 (IntKind.i64.wrap (r+IntKind.i64.wrap (1*2^min bit.toNat IntKind.i64.bits))),.int .i64 (IntKind.i64.wrap (r+IntKind.i64.wrap (1*2^min bit.toNat IntKind.i64.bits))),.bool (decide (IntKind.i64.wrap (r+IntKind.i64.wrap (1*2^min bit.toNat IntKind.i64.bits))≤3037000499)),.bool false,.tuple ⟨[]⟩,.tuple ⟨[]⟩,.tuple ⟨[]⟩,.tuple ⟨[]⟩,.tuple ⟨[]⟩,.bool false,d23,d24],[])
    else
      none
  else
    some (.exit 0,[.int .i64 n,d1,z,.int .i64 r,.int .i64 bit,d5,.int .i64 bit,.bool false,d8,d9,d10,d11,d12,d13,d14,d15,d16,d17,d18,d19,d20,d21,d22,d23,d24],[])
theorem rroot.round (n r bit:Int) (d1 z d5 d6 d7 d8 d9 d10 d11 d12 d13 d14 d15 d16 d17 d18 d19 d20 d21 d22 d23 d24:Value) (nx:Nat):exec Tryz.prog ⟨[],[],[]⟩ [] (hs Tryz.prog ⟨[],[],[]⟩ 3).lf (hs Tryz.prog ⟨[],[],[]⟩ 3).cf (loopCode Tryz.f181 0) ⟨[.int .i64 n,d1,z,.int .i64 r,.int .i64 bit,d5,d6,d7,d8,d9,d10,d11,d12,d13,d14,d15,d16,d17,d18,d19,d20,d21,d22,d23,d24],[],nx⟩ (fun x S=>some (x,S.tmps,S.heap))=rroot.tree n r bit d1 z d5 d6 d7 d8 d9 d10 d11 d12 d13 d14 d15 d16 d17 d18 d19 d20 d21 d22 d23 d24:=by kernel_rfl
def rroot.fin:Nat→List Value→List Value
  |0,T=>T
  | k+1,[.int .i64 n,d1,z,.int .i64 r,.int .i64 bit,d5,d6,d7,d8,d9,d10,d11,d12,d13,d14,d15,d16,d17,d18,d19,d20,d21,d22,d23,d24]=>(match rroot.tree n r bit d1 z d5 d6 d7 d8 d9 d10 d11 d12 d13 d14 d15 d16 d17 d18 d19 d20 d21 d22 d23 d24 with
    |some (.normal,T,_)=>rroot.fin k T
    |some (_,T,_)=>T
    |none=>[])
  |_+1,T=>T
def rroot.rt:Nat→Int→Int→Int
  |0,n,r=>r
  |k+1,n,r=>rroot.rt k n (if r+2^k≤3037000499∧(r+2^k)*(r+2^k)≤n then r+2^k else r)
end Go.Proofs.YtpejalpgficopaaGreatDoor.G
end
section
namespace RX
open Go Go.RowKit
set_option linter.unusedVariables false
def namesV:Nat→Value→List Nat
  |0,_=>[]
  | n+1,v=>
    match v with
    | .pointer (some ⟨b,_,none⟩)=>[b]
    | .slice (some ⟨b,_,none⟩) _ _=>[b]
    | .agg ⟨cs⟩=>cs.foldr (fun c l=>namesV n c++l) []
    | .tuple ⟨cs⟩=>cs.foldr (fun c l=>namesV n c++l) []
    | .func _ ⟨f⟩ ⟨c⟩=>f.foldr (fun c l=>namesV n c++l) (c.foldr (fun c l=>namesV n c++l) [])
    | .iface _ v=>namesV n v
    |_=>[]
def fromN (m:Nat):List Nat→List Nat
  |[]=>[]
  |x::r=>bif Nat.ble m x then x::fromN m r else fromN m r
theorem mem_fromN {m x:Nat} :∀ {l:List Nat},x∈fromN m l→m≤x∧x∈l
  |[],h=>by simp [fromN] at h
  | y ::r,h=>by
    simp only [fromN] at h
    cases hb:Nat.ble m y with
    | true=>
      rw [hb] at h
      simp only [cond_true,List.mem_cons] at h
      rcases h with rfl|h
      · exact ⟨Nat.le_of_ble_eq_true hb,by simp⟩
      · exact ⟨(mem_fromN h).1,by simp [(mem_fromN h).2]⟩
    | false=>
      rw [hb] at h
      exact ⟨(mem_fromN h).1,by simp [(mem_fromN h).2]⟩
theorem nodup_fromN {m:Nat} :∀ {l:List Nat},l.Nodup→(fromN m l).Nodup
  |[],_=>by simp [fromN]
  | y::r,h=>by
    simp only [List.nodup_cons] at h
    simp only [fromN]
    cases hb:Nat.ble m y with
    |true=>simp only [cond_true,List.nodup_cons]; exact ⟨fun hm=>h.1 (mem_fromN hm).2,nodup_fromN h.2⟩
    |false=>exact nodup_fromN h.2
def sg (m:Nat) (rn:List Nat) (i:Nat):Nat:=bif Nat.blt i m then i else m+idx i rn
def okM (m:Nat) (rn:List Nat) (i:Nat):Bool:=Nat.blt i m||memN i rn
theorem rho_sg {m:Nat} {rn:List Nat} {i:Nat} (h:okM m rn i=true):rho m rn (sg m rn i)=i:=by
  unfold okM at h
  unfold sg
  cases hb:Nat.blt i m with
  | true=>
    have:i<m:=by simpa [Nat.blt_eq] using hb
    simp [rho,this]
  | false=>
    rw [hb] at h
    simp only [Bool.false_or] at h
    have:=idx_get (memN_spec.1 h)
    simp only [cond_false,rho]
    rw [if_neg (by omega),List.getD_eq_getElem?_getD,show m+idx i rn-m=idx i rn from by omega,this]
    rfl
def okW (p:Nat→Bool):Nat→Value→Bool
  |0,_=>false
  | n+1,v=>
    match v with
    | .bool _| .int _ _| .float _ _| .complex _ _ _| .string _| .nilFunc| .nilIface=>true
    | .pointer none=>true
    | .pointer (some ⟨b,_,none⟩)=>p b
    | .slice none _ _=>true
    | .slice (some ⟨b,_,none⟩) _ _=>p b
    | .agg ⟨cs⟩=>cs.all (okW p n)
    | .tuple ⟨cs⟩=>cs.all (okW p n)
    | .func _ ⟨f⟩ ⟨c⟩=>f.all (okW p n)&&c.all (okW p n)
    | .iface _ v=>okW p n v
    |_=>false
theorem okW_comp {p:Nat→Bool} {g h k:Nat→Nat} (e:∀i,p i=true→g (h i)=k i):∀(n:Nat) (v:Value),okW p n v=true→ren g (ren h v)=ren k v:=by
  intro n
  induction n with
  |zero=>intro v hv; simp [okW] at hv
  | succ n ih=>
    have hl:∀l:List Value,l.all (okW p n)=true→(l.map (ren h)).map (ren g)=l.map (ren k):=fun l hl=>by
      rw [List.all_eq_true] at hl
      rw [List.map_map]
      exact List.map_congr_left fun v hv=>ih v (hl v hv)
    intro v hv
    unfold okW at hv
    split at hv
    all_goals try simp only [ren_bool,ren_int,ren_string,ren_nilFunc,ren_nilIface,ren_nilptr,ren_nilslice]
    · simp [ren]
    · simp [ren]
    · simp [e _ hv]
    · simp [e _ hv]
    · rw [ren_agg,ren_agg,ren_agg,hl _ hv]
    · rw [ren_tuple,ren_tuple,ren_tuple,hl _ hv]
    · simp only [Bool.and_eq_true] at hv
      rw [ren_func,ren_func,ren_func,hl _ hv.1,hl _ hv.2]
    · rw [ren_iface,ren_iface,ren_iface,ih _ hv]
    · simp at hv
def self (P:Program) (E:Env) (L:List (Nat×LSpec)) (n:Nat) (fn:Func):HSpec:=fun vs bl=>
  bif vs.all (okV (fun m=>Nat.blt m bl.length) 8) then
    match execFn P E L (hs P E n).lf (hs P E n).cf fn vs (enum bl 0) bl.length (fun v H _=>some (v,H)) with
    | some (v,H)=>
      (match firstB H 0 bl.length,getB H (fromN bl.length (dedup (namesV 8 v))) with
      | some l,some l2=>
        bif okW (okM bl.length (fromN bl.length (dedup (namesV 8 v)))) 8 v&&l.all Blk.clo&&l2.all Blk.clo then some (true,ren (sg bl.length (fromN bl.length (dedup (namesV 8 v)))) v,l++l2) else none
      |_,_=>none)
    |none=>none
  else none
theorem self_ok {P:Program} {E:Env} {L:List (Nat×LSpec)} (hE:EnvOk P E) (n:Nat) {f:FuncId} {fn:Func} (hf:P.funcs[f]? =some fn) (hn:fn.name≠ "runtime.NumGoroutine") (hb:fn.body.isSome=true) (hL:∀c,fn.body=some c→LsOk P L c):SOK P f (self P E L n fn):=by
  refine ⟨⟨fn,hf,hn,hb⟩,fun vs bl v bl' hs hcl g w hmem hinj htab hnt=> ?_⟩
  unfold self at hs
  cases hargs0:vs.all (okV (fun m=>Nat.blt m bl.length) 8) with
  |false=>rw [hargs0] at hs; cases hs
  |true=>
  rw [hargs0] at hs
  simp only [cond_true] at hs
  rw [List.all_eq_true] at hargs0
  split at hs
  rotate_left
  · cases hs
  rename_i v0 H0 hrun
  split at hs
  rotate_left
  · cases hs
  rename_i l l2 hl hl2
  generalize hrn:fromN bl.length (dedup (namesV 8 v0))=rn at hs hl2
  have hnod:rn.Nodup:=hrn▸nodup_fromN (nodup_dedup _)
  have hbig:∀x∈rn,bl.length≤x:=fun x hx=>by subst hrn; exact (mem_fromN hx).1
  cases hck:okW (okM bl.length rn) 8 v0&&l.all Blk.clo&&l2.all Blk.clo with
  |false=>rw [hck] at hs; cases hs
  |true=>
  rw [hck] at hs
  simp only [cond_true,Option.some.injEq,Prod.mk.injEq,true_and] at hs
  obtain ⟨rfl,rfl⟩:=hs
  simp only [Bool.and_eq_true] at hck
  obtain ⟨⟨hok,hc1⟩,hc2⟩:=hck
  have hcb:∀b∈l++l2,∀c∈b.cells,Clo c:=fun b hb=>by
    rw [List.mem_append] at hb
    exact hb.elim (told_blk hc1 b) (told_blk hc2 b)
  have bnd:∀u∈vs,Bnd bl.length u:=fun u hu g g' e=>okV_spec (fun m hm=>e m (by simpa [Nat.blt_eq] using hm)) 8 u (hargs0 u hu)
  have lk:∀m b,look (enum bl 0) m=some b→bl[m]? =some b:=fun m b h=>by
    rw [look_enum] at h
    simpa using h
  have hr:HRel w (fun k=>∃i,i<bl.length∧k=g i) g (enum bl 0) bl.length w:=by
    refine ⟨fun m b hm=> ?_,fun m b hm=> ?_,fun m b hm=> ?_,fun m k b c hm hk e=> ?_,fun m b hm=> ?_,Keep.refl w _,htab,fun m b hm=>hnt m (List.getElem?_eq_some_iff.1 (lk m b hm)).1⟩
    · exact (List.getElem?_eq_some_iff.1 (lk m b hm)).1
    · exact fun c hc=>(hcl b (List.mem_of_getElem? (lk m b hm)) c hc).bnd _
    · rw [hmem m b (lk m b hm),map_clo (hcl b (List.mem_of_getElem? (lk m b hm)))]
    · exact hinj m k (List.getElem?_eq_some_iff.1 (lk m b hm)).1 (List.getElem?_eq_some_iff.1 (lk k c hk)).1 e
    · exact .inr ⟨m,(List.getElem?_eq_some_iff.1 (lk m b hm)).1,rfl⟩
  refine (execFn_sound (N:=fun _=>True) hE (hs_lf hE n) (hs_cf hE n) hf hL trivial hrun hr bnd).mono fun e w' ⟨v',g',H',nx',he,hk,hag,hle,hr',hbv⟩=> ?_
  simp only [Option.some.injEq,Prod.mk.injEq] at hk
  obtain ⟨rfl,rfl⟩:=hk
  obtain ⟨h1,h2⟩:=firstB_get hl
  obtain ⟨h3,h4⟩:=getB_get hl2
  have hlook:∀i,bl.length≤i→i<(l++l2).length→∃x b,rn[i-bl.length]? =some x∧l2[i-bl.length]? =some b∧look H' x=some b∧rho bl.length rn i=x:=fun i hi hi2=>by
    have hi3:i-bl.length<l2.length:=by simp only [List.length_append] at hi2; omega
    obtain ⟨x,hx1,hx2⟩:=h4 _ _ (List.getElem?_eq_getElem hi3)
    refine ⟨x,_,hx1,List.getElem?_eq_getElem hi3,hx2,?_⟩
    unfold rho
    rw [if_neg (by omega),List.getD_eq_getElem?_getD,hx1]
    rfl
  refine ⟨fun i=>g' (rho bl.length rn i),fun i hi=> ?_,?_,fun i b hi=> ?_,fun i hi hi2=> ?_,fun i j hi hi2 hj hj2 e=> ?_,hr'.keep⟩
  · show g' (rho bl.length rn i)=g i
    unfold rho
    rw [if_pos hi,hag i hi]
  · rw [he,okW_comp (g:=fun i=>g' (rho bl.length rn i)) (h:=sg bl.length rn) (k:=g') (fun i hi=>by show g' (rho bl.length rn (sg bl.length rn i))=g' i; rw [rho_sg hi]) 8 v' hok]
  · have hb0:=hcb b (List.mem_of_getElem? hi)
    show w'.heap[g' (rho bl.length rn i)]? =_
    by_cases hlt:i<bl.length
    · rw [List.getElem?_append_left (by omega)] at hi
      have:=hr'.mem i b (by have:=h2 i b hi; rwa [Nat.zero_add] at this)
      unfold rho
      rw [if_pos hlt,this,map_clo hb0]
    · obtain ⟨x,b',hx1,hx2,hx3,hx4⟩:=hlook i (by omega) (List.getElem?_eq_some_iff.1 hi).1
      rw [List.getElem?_append_right (by omega),h1,hx2] at hi
      injection hi with hi
      subst hi
      rw [hx4,hr'.mem x _ hx3,map_clo hb0]
  · obtain ⟨x,b',hx1,hx2,hx3,hx4⟩:=hlook i hi hi2
    show w.heap.size≤g' (rho bl.length rn i)
    rw [hx4]
    rcases hr'.own x b' hx3 with ho|⟨j,hj,ho⟩
    · exact ho
    · exfalso
      have hlj:∃b,look H' j=some b:=⟨l[j]'(by omega),by have:=h2 j _ (List.getElem?_eq_getElem (by omega)); rwa [Nat.zero_add] at this⟩
      obtain ⟨b2,hb2⟩:=hlj
      have:=hr'.inj x j b' b2 hx3 hb2 (by rw [ho,hag j hj])
      have:=hbig x (List.mem_of_getElem? hx1)
      omega
  · obtain ⟨x,b1,hx1,hx2,hx3,hx4⟩:=hlook i hi hi2
    obtain ⟨y,b2,hy1,hy2,hy3,hy4⟩:=hlook j hj hj2
    simp only [hx4,hy4] at e
    have:=hr'.inj x y b1 b2 hx3 hy3 e
    subst this
    obtain ⟨p1,q1⟩:=List.getElem?_eq_some_iff.1 hx1
    obtain ⟨p2,q2⟩:=List.getElem?_eq_some_iff.1 hy1
    have:=nodup_inj hnod p1 p2 (q1.trans q2.symm)
    omega
end RX
end
section
namespace Go.Proofs.YtpejalpgficopaaGreatDoor.G
open Go Go.Proofs Go.RowKit RX
set_option linter.unusedVariables false
set_option linter.unusedSimpArgs false
def bigint_Mul.sp (f:Bool→ByteArray→Bool→ByteArray→(Bool×ByteArray)) (p:Bool→ByteArray→Bool→ByteArray→Bool):HSpec
  |[.agg ⟨[.bool a0_0,.string a0_1]⟩,.agg ⟨[.bool a1_0,.string a1_1]⟩],[]=>some (p a0_0 a0_1 a1_0 a1_1,.agg ⟨[.bool (f a0_0 a0_1 a1_0 a1_1).1,.string (f a0_0 a0_1 a1_0 a1_1).2]⟩,[])
  |_,_=>none
def bigint_Add.sp (f:Bool→ByteArray→Bool→ByteArray→(Bool×ByteArray)) (p:Bool→ByteArray→Bool→ByteArray→Bool):HSpec
  |[.agg ⟨[.bool a0_0,.string a0_1]⟩,.agg ⟨[.bool a1_0,.string a1_1]⟩],[]=>some (p a0_0 a0_1 a1_0 a1_1,.agg ⟨[.bool (f a0_0 a0_1 a1_0 a1_1).1,.string (f a0_0 a0_1 a1_0 a1_1).2]⟩,[])
  |_,_=>none
def bigint_Sub.sp (f:Bool→ByteArray→Bool→ByteArray→(Bool×ByteArray)) (p:Bool→ByteArray→Bool→ByteArray→Bool):HSpec
  |[.agg ⟨[.bool a0_0,.string a0_1]⟩,.agg ⟨[.bool a1_0,.string a1_1]⟩],[]=>some (p a0_0 a0_1 a1_0 a1_1,.agg ⟨[.bool (f a0_0 a0_1 a1_0 a1_1).1,.string (f a0_0 a0_1 a1_0 a1_1).2]⟩,[])
  |_,_=>none
def bigint_Of.sp (f:Int→(Bool×ByteArray)) (p:Int→Bool):HSpec
  |[.int .i64 a0],[]=>some (p a0,.agg ⟨[.bool (f a0).1,.string (f a0).2]⟩,[])
  |_,_=>none
def bigint_DivMod.sp (f:Bool→ByteArray→Bool→ByteArray→(Bool×ByteArray×Bool×ByteArray×Int)) (p:Bool→ByteArray→Bool→ByteArray→Bool):HSpec
  |[.agg ⟨[.bool a0_0,.string a0_1]⟩,.agg ⟨[.bool a1_0,.string a1_1]⟩],[]=>some (p a0_0 a0_1 a1_0 a1_1,.tuple ⟨[.agg ⟨[.bool (f a0_0 a0_1 a1_0 a1_1).1,.string (f a0_0 a0_1 a1_0 a1_1).2.1]⟩,.agg ⟨[.bool (f a0_0 a0_1 a1_0 a1_1).2.2.1,.string (f a0_0 a0_1 a1_0 a1_1).2.2.2.1]⟩,.int .i64 (f a0_0 a0_1 a1_0 a1_1).2.2.2.2]⟩,[])
  |_,_=>none
def bigint_Gcd.sp (f:Bool→ByteArray→Bool→ByteArray→(Bool×ByteArray)) (p:Bool→ByteArray→Bool→ByteArray→Bool):HSpec
  |[.agg ⟨[.bool a0_0,.string a0_1]⟩,.agg ⟨[.bool a1_0,.string a1_1]⟩],[]=>some (p a0_0 a0_1 a1_0 a1_1,.agg ⟨[.bool (f a0_0 a0_1 a1_0 a1_1).1,.string (f a0_0 a0_1 a1_0 a1_1).2]⟩,[])
  |_,_=>none
def bigint_Cmp.sp (f:Bool→ByteArray→Bool→ByteArray→(Int)) (p:Bool→ByteArray→Bool→ByteArray→Bool):HSpec
  |[.agg ⟨[.bool a0_0,.string a0_1]⟩,.agg ⟨[.bool a1_0,.string a1_1]⟩],[]=>some (p a0_0 a0_1 a1_0 a1_1,.int .i64 (f a0_0 a0_1 a1_0 a1_1),[])
  |_,_=>none
def bigint_Valid.sp (f:Bool→ByteArray→(Bool)):HSpec
  |[.agg ⟨[.bool a0_0,.string a0_1]⟩],[]=>some (true,.bool (f a0_0 a0_1),[])
  |_,_=>none
def bigint_Sign.sp (f:Bool→ByteArray→(Int)):HSpec
  |[.agg ⟨[.bool a0_0,.string a0_1]⟩],[]=>some (true,.int .i64 (f a0_0 a0_1),[])
  |_,_=>none
def bigint_Neg.sp (f:Bool→ByteArray→(Bool×ByteArray)):HSpec
  |[.agg ⟨[.bool a0_0,.string a0_1]⟩],[]=>some (true,.agg ⟨[.bool (f a0_0 a0_1).1,.string (f a0_0 a0_1).2]⟩,[])
  |_,_=>none
end Go.Proofs.YtpejalpgficopaaGreatDoor.G
end
section
namespace Go.Proofs.YtpejalpgficopaaGreatDoor.G
open Go Go.Proofs Go.RowKit RX
set_option linter.unusedVariables false
set_option linter.unusedSimpArgs false
def field_common.sp (f:Bool→ByteArray→Bool→ByteArray→Bool→ByteArray→Bool→ByteArray→Bool→ByteArray→(Bool×ByteArray)) (p:Bool→ByteArray→Bool→ByteArray→Bool→ByteArray→Bool→ByteArray→Bool→ByteArray→Bool):HSpec
  |[.agg ⟨[.bool a0_0,.string a0_1,.bool a0_2,.string a0_3,.bool a0_4,.string a0_5,.bool a0_6,.string a0_7]⟩,.agg ⟨[.bool a1_0,.string a1_1]⟩],[]=>some (p a0_0 a0_1 a0_2 a0_3 a0_4 a0_5 a0_6 a0_7 a1_0 a1_1,.agg ⟨[.bool (f a0_0 a0_1 a0_2 a0_3 a0_4 a0_5 a0_6 a0_7 a1_0 a1_1).1,.string (f a0_0 a0_1 a0_2 a0_3 a0_4 a0_5 a0_6 a0_7 a1_0 a1_1).2]⟩,[])
  |_,_=>none
def field_over.sp (f:Bool→ByteArray→Bool→ByteArray→(Bool×ByteArray)) (p:Bool→ByteArray→Bool→ByteArray→Bool):HSpec
  |[.agg ⟨[.bool a0_0,.string a0_1]⟩,.agg ⟨[.bool a1_0,.string a1_1]⟩],[]=>some (p a0_0 a0_1 a1_0 a1_1,.agg ⟨[.bool (f a0_0 a0_1 a1_0 a1_1).1,.string (f a0_0 a0_1 a1_0 a1_1).2]⟩,[])
  |_,_=>none
def field_lowest.sp (f:Bool→ByteArray→Bool→ByteArray→Bool→ByteArray→Bool→ByteArray→Bool→ByteArray→(Bool×ByteArray×Bool×ByteArray×Bool×ByteArray×Bool×ByteArray×Bool×ByteArray)) (p:Bool→ByteArray→Bool→ByteArray→Bool→ByteArray→Bool→ByteArray→Bool→ByteArray→Bool):HSpec
  |[.agg ⟨[.bool a0_0,.string a0_1,.bool a0_2,.string a0_3,.bool a0_4,.string a0_5,.bool a0_6,.string a0_7]⟩,.agg ⟨[.bool a1_0,.string a1_1]⟩],[]=>some (p a0_0 a0_1 a0_2 a0_3 a0_4 a0_5 a0_6 a0_7 a1_0 a1_1,.agg ⟨[.bool (f a0_0 a0_1 a0_2 a0_3 a0_4 a0_5 a0_6 a0_7 a1_0 a1_1).1,.string (f a0_0 a0_1 a0_2 a0_3 a0_4 a0_5 a0_6 a0_7 a1_0 a1_1).2.1,.bool (f a0_0 a0_1 a0_2 a0_3 a0_4 a0_5 a0_6 a0_7 a1_0 a1_1).2.2.1,.string (f a0_0 a0_1 a0_2 a0_3 a0_4 a0_5 a0_6 a0_7 a1_0 a1_1).2.2.2.1,.bool (f a0_0 a0_1 a0_2 a0_3 a0_4 a0_5 a0_6 a0_7 a1_0 a1_1).2.2.2.2.1,.string (f a0_0 a0_1 a0_2 a0_3 a0_4 a0_5 a0_6 a0_7 a1_0 a1_1).2.2.2.2.2.1,.bool (f a0_0 a0_1 a0_2 a0_3 a0_4 a0_5 a0_6 a0_7 a1_0 a1_1).2.2.2.2.2.2.1,.string (f a0_0 a0_1 a0_2 a0_3 a0_4 a0_5 a0_6 a0_7 a1_0 a1_1).2.2.2.2.2.2.2.1,.bool (f a0_0 a0_1 a0_2 a0_3 a0_4 a0_5 a0_6 a0_7 a1_0 a1_1).2.2.2.2.2.2.2.2.1,.string (f a0_0 a0_1 a0_2 a0_3 a0_4 a0_5 a0_6 a0_7 a1_0 a1_1).2.2.2.2.2.2.2.2.2]⟩,[])
  |_,_=>none
def field_Valid.sp (f:Bool→ByteArray→Bool→ByteArray→Bool→ByteArray→Bool→ByteArray→Bool→ByteArray→(Bool)) (p:Bool→ByteArray→Bool→ByteArray→Bool→ByteArray→Bool→ByteArray→Bool→ByteArray→Bool):HSpec
  |[.agg ⟨[.bool a0_0,.string a0_1,.bool a0_2,.string a0_3,.bool a0_4,.string a0_5,.bool a0_6,.string a0_7,.bool a0_8,.string a0_9]⟩],[]=>some (p a0_0 a0_1 a0_2 a0_3 a0_4 a0_5 a0_6 a0_7 a0_8 a0_9,.bool (f a0_0 a0_1 a0_2 a0_3 a0_4 a0_5 a0_6 a0_7 a0_8 a0_9),[])
  |_,_=>none
def field_Of.sp (f:Int→(Bool×ByteArray×Bool×ByteArray×Bool×ByteArray×Bool×ByteArray×Bool×ByteArray)) (p:Int→Bool):HSpec
  |[.int .i64 a0],[]=>some (p a0,.agg ⟨[.bool (f a0).1,.string (f a0).2.1,.bool (f a0).2.2.1,.string (f a0).2.2.2.1,.bool (f a0).2.2.2.2.1,.string (f a0).2.2.2.2.2.1,.bool (f a0).2.2.2.2.2.2.1,.string (f a0).2.2.2.2.2.2.2.1,.bool (f a0).2.2.2.2.2.2.2.2.1,.string (f a0).2.2.2.2.2.2.2.2.2]⟩,[])
  |_,_=>none
end Go.Proofs.YtpejalpgficopaaGreatDoor.G
end
