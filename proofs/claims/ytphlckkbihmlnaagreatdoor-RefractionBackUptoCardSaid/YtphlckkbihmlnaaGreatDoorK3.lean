/- A part of what the law's proof leans on. PACKED BY pack.py of this repo. -/
import Derived.Test.YtphlckkbihmlnaaGreatDoorK2
set_option linter.unusedVariables false
set_option linter.unusedSimpArgs false
set_option linter.unusedSectionVars false
set_option linter.defProp false
set_option maxRecDepth 100000
open Go.IntKind (i64 u64 u32)
section
namespace RX
open Go Go.RowKit
def enum:List Blk→Nat→Heap
 |[],_=>[]
 |b::r,n=>(n,b)::enum r (n+1)
theorem Lj:∀(l:List Blk) (n m:Nat),look (enum l n) m=if m<n then none else l[m-n]?
 |[],n,m=>by simp [enum,look]
 | b ::r,n,m=>by
  simp only [enum,look]
  cases h:Nat.beq n m with
  | true=>
   have:=zE h
   subst this
   simp
  | false=>
   have hne:n≠m:=fun e=>by subst e; simp at h
   simp only [cond_false,Lj r (n+1) m]
   by_cases hlt:m<n
   ·simp [hlt,show m<n+1 from by omega]
   ·have:¬m<n+1:=by omega
    simp only [hlt,this,if_false]
    rw [show m-n=(m-(n+1))+1 from by omega,List.getElem?_cons_succ]
def Ln (H:Heap):Nat→Nat→Option (List Blk)
 |_,0=>some []
 | i,n+1=>match look H i,Ln H (i+1) n with
  |some b,some l=>some (b::l)
  |_,_=>none
theorem Ka {H:Heap} :∀ {n i:Nat} {l:List Blk},Ln H i n=some l→l.length=n∧∀(j:Nat) (b:Blk),l[j]? =some b→look H (i+j)=some b
 |0,i,l,h=>by simp [Ln] at h; subst h; simp
 | n + 1,i,l,h=>by
  simp only [Ln] at h
  split at h
  ·rename_i b r hb hr
   injection h with h; subst h
   obtain ⟨h1,h2⟩:=Ka hr
   refine ⟨by simp [h1],fun j c hj=> ?_⟩
   cases j with
   |zero=>simp at hj; subst hj; exact hb
   | succ j=>
    have:=h2 j c (by simpa using hj)
    rwa [show i+1+j=i+(j+1) from by omega] at this
  ·simp at h
def xfn (P:Program) (E:Env) (L:List (Nat×LSpec)) (n:Nat) (fn:Func) (vs:List Value) (bl:List Blk):Option (Value×List Blk):=
 NF P E L (hs P E n).lf (hs P E n).cf fn vs (enum bl 0) bl.length fun v H _=>match Ln H 0 bl.length with|some l=>some (v,l)|none=>none
structure Told (P:Program) (E:Env) (L:List (Nat×LSpec)) (n:Nat) (fn:Func) (vs:List Value) (bl:List Blk) (v:Value) (bl':List Blk):Prop where
 run:xfn P E L n fn vs bl=some (v,bl')
 args:∀u∈vs,okV (fun m=>Nat.blt m bl.length) 8 u=true
 clo:Clo v
 blk:∀b∈bl',∀c∈b.cells,Clo c
theorem Qf {P:Program} {E:Env} {L:List (Nat×LSpec)} {N:Nat→Prop} (hE:EnvOk P E) (n:Nat) {f:FuncId} {fn:Func} (hf:P.funcs[f]? =some fn) (hn:fn.name≠ "runtime.NumGoroutine") (hb:fn.body.isSome=true) (hL:∀c,fn.body=some c→LsOkn P N L c) {s:HSpec}
  (h:∀vs bl v bl',s vs bl=some (true,v,bl')→Told P E L n fn vs bl v bl'∧N bl.length):SOK P f s:=by
 refine ⟨⟨fn,hf,hn,hb⟩,fun vs bl v bl' hs hcl g w hmem hinj htab hnt=> ?_⟩
 obtain ⟨⟨hrun,hargs,hcv,hcb⟩,hN⟩:=h vs bl v bl' hs
 have bnd:∀u∈vs,Bnd bl.length u:=fun u hu g g' e=>I9 (fun m hm=>e m (by simpa [Nat.blt_eq] using hm)) 8 u (hargs u hu)
 have lk:∀m b,look (enum bl 0) m=some b→bl[m]? =some b:=fun m b h=>by
  rw [Lj] at h
  simpa using h
 have hr:HRel w (fun k=>∃i,i<bl.length∧k=g i) g (enum bl 0) bl.length w:=by
  refine ⟨fun m b hm=> ?_,fun m b hm=> ?_,fun m b hm=> ?_,fun m k b c hm hk e=> ?_,fun m b hm=> ?_,Keep.refl w _,htab,fun m b hm=>hnt m (List.getElem?_eq_some_iff.1 (lk m b hm)).1⟩
  ·exact (List.getElem?_eq_some_iff.1 (lk m b hm)).1
  ·exact fun c hc=>(hcl b (List.mem_of_getElem? (lk m b hm)) c hc).bnd _
  ·rw [hmem m b (lk m b hm),map_clo (hcl b (List.mem_of_getElem? (lk m b hm)))]
  ·exact hinj m k (List.getElem?_eq_some_iff.1 (lk m b hm)).1 (List.getElem?_eq_some_iff.1 (lk k c hk)).1 e
  ·exact .inr ⟨m,(List.getElem?_eq_some_iff.1 (lk m b hm)).1,rfl⟩
 refine (JJ hE (KI hE n) (KJ hE n) hf hL hN hrun hr bnd).mono fun e w' ⟨v',g',H',nx',he,hk,hag,hle,hr',hbv⟩=> ?_
 split at hk
 ·rename_i l hl
  simp only [zS,zP] at hk
  obtain ⟨rfl,rfl⟩:=hk
  obtain ⟨h1,h2⟩:=Ka hl
  have hlen:l.length=bl.length:=h1
  refine ⟨g,fun _ _=>rfl,by rw [he,hcv g',hcv g],fun i b hi=> ?_,fun i h3 h4=>by omega,fun i j h3 h4=>by omega,hr'.keep⟩
  have:=hr'.mem i b (by have:=h2 i b hi; rwa [Nat.zero_add] at this)
  have hlt:i<bl.length:=by rw [←h1]; exact (List.getElem?_eq_some_iff.1 hi).1
  rw [hag i hlt,map_clo (hcb b (List.mem_of_getElem? hi))] at this
  exact this
 ·simp at hk
theorem Cu {P:Program} {E:Env} {L:List (Nat×LSpec)} (hE:EnvOk P E) (n:Nat) {f:FuncId} {fn:Func} (hf:P.funcs[f]? =some fn) (hn:fn.name≠ "runtime.NumGoroutine") (hb:fn.body.isSome=true) (hL:∀c,fn.body=some c→LsOk P L c) {s:HSpec}
  (h:∀vs bl v bl',s vs bl=some (true,v,bl')→Told P E L n fn vs bl v bl'):SOK P f s:=
 Qf hE n hf hn hb hL fun vs bl v bl' hs=>⟨h vs bl v bl' hs,trivial⟩
def xfnN (P:Program) (E:Env) (L:List (Nat×LSpec)) (n:Nat) (fn:Func) (vs:List Value) (bl:List Blk) (rn:List Nat):Option (Value×List Blk):=
 NF P E L (hs P E n).lf (hs P E n).cf fn vs (enum bl 0) bl.length fun v H _=>match Ln H 0 bl.length,getB H rn with|some l,some l2=>some (v,l++l2)|_,_=>none
def rho (m:Nat) (rn:List Nat) (i:Nat):Nat:=if i<m then i else rn.getD (i-m) 0
structure ToldN (P:Program) (E:Env) (L:List (Nat×LSpec)) (n:Nat) (fn:Func) (vs:List Value) (bl:List Blk) (v:Value) (bl':List Blk) (rn:List Nat):Prop where
 run:xfnN P E L n fn vs bl rn=some (ren (rho bl.length rn) v,bl')
 args:∀u∈vs,okV (fun m=>Nat.blt m bl.length) 8 u=true
 ok:okN bl'.length 8 v=true
 blk:∀b∈bl',∀c∈b.cells,Clo c
 nod:rn.Nodup
 big:∀x∈rn,bl.length≤x
theorem SL {P:Program} {E:Env} {L:List (Nat×LSpec)} {N:Nat→Prop} (hE:EnvOk P E) (n:Nat) {f:FuncId} {fn:Func} (hf:P.funcs[f]? =some fn) (hn:fn.name≠ "runtime.NumGoroutine") (hb:fn.body.isSome=true) (hL:∀c,fn.body=some c→LsOkn P N L c) {s:HSpec}
  (h:∀vs bl v bl',s vs bl=some (true,v,bl')→(∃rn,ToldN P E L n fn vs bl v bl' rn)∧N bl.length):SOK P f s:=by
 refine ⟨⟨fn,hf,hn,hb⟩,fun vs bl v bl' hs hcl g w hmem hinj htab hnt=> ?_⟩
 obtain ⟨⟨rn,hrun,hargs,hok,hcb,hnod,hbig⟩,hN⟩:=h vs bl v bl' hs
 have bnd:∀u∈vs,Bnd bl.length u:=fun u hu g g' e=>I9 (fun m hm=>e m (by simpa [Nat.blt_eq] using hm)) 8 u (hargs u hu)
 have lk:∀m b,look (enum bl 0) m=some b→bl[m]? =some b:=fun m b h=>by
  rw [Lj] at h
  simpa using h
 have hr:HRel w (fun k=>∃i,i<bl.length∧k=g i) g (enum bl 0) bl.length w:=by
  refine ⟨fun m b hm=> ?_,fun m b hm=> ?_,fun m b hm=> ?_,fun m k b c hm hk e=> ?_,fun m b hm=> ?_,Keep.refl w _,htab,fun m b hm=>hnt m (List.getElem?_eq_some_iff.1 (lk m b hm)).1⟩
  ·exact (List.getElem?_eq_some_iff.1 (lk m b hm)).1
  ·exact fun c hc=>(hcl b (List.mem_of_getElem? (lk m b hm)) c hc).bnd _
  ·rw [hmem m b (lk m b hm),map_clo (hcl b (List.mem_of_getElem? (lk m b hm)))]
  ·exact hinj m k (List.getElem?_eq_some_iff.1 (lk m b hm)).1 (List.getElem?_eq_some_iff.1 (lk k c hk)).1 e
  ·exact .inr ⟨m,(List.getElem?_eq_some_iff.1 (lk m b hm)).1,rfl⟩
 refine (JJ hE (KI hE n) (KJ hE n) hf hL hN hrun hr bnd).mono fun e w' ⟨v',g',H',nx',he,hk,hag,hle,hr',hbv⟩=> ?_
 split at hk
 ·rename_i l l2 hl hl2
  simp only [zS,zP] at hk
  obtain ⟨rfl,rfl⟩:=hk
  obtain ⟨h1,h2⟩:=Ka hl
  obtain ⟨h3,h4⟩:=L8 hl2
  have hlook:∀i,bl.length≤i→i<(l++l2).length→∃x b,rn[i-bl.length]? =some x∧l2[i-bl.length]? =some b∧look H' x=some b∧rho bl.length rn i=x:=fun i hi hi2=>by
   have hi3:i-bl.length<l2.length:=by simp only [List.length_append] at hi2; omega
   obtain ⟨x,hx1,hx2⟩:=h4 _ _ (List.getElem?_eq_getElem hi3)
   refine ⟨x,_,hx1,List.getElem?_eq_getElem hi3,hx2,?_⟩
   unfold rho
   rw [if_neg (by omega),List.getD_eq_getElem?_getD,hx1]
   rfl
  refine ⟨fun i=>g' (rho bl.length rn i),fun i hi=> ?_,?_,fun i b hi=> ?_,fun i hi hi2=> ?_,fun i j hi hi2 hj hj2 e=> ?_,hr'.keep⟩
  ·show g' (rho bl.length rn i)=g i
   unfold rho
   rw [if_pos hi,hag i hi]
  ·rw [he,Ky (g:=g') (h:=rho bl.length rn) (k:=fun i=>g' (rho bl.length rn i)) (fun i _=>rfl) 8 v hok]
  ·have hb0:=hcb b (List.mem_of_getElem? hi)
   show w'.heap[g' (rho bl.length rn i)]? =_
   by_cases hlt:i<bl.length
   ·rw [List.getElem?_append_left (by omega)] at hi
    have:=hr'.mem i b (by have:=h2 i b hi; rwa [Nat.zero_add] at this)
    unfold rho
    rw [if_pos hlt,this,map_clo hb0]
   ·obtain ⟨x,b',hx1,hx2,hx3,hx4⟩:=hlook i (by omega) (List.getElem?_eq_some_iff.1 hi).1
    rw [List.getElem?_append_right (by omega),h1,hx2] at hi
    injection hi with hi
    subst hi
    rw [hx4,hr'.mem x _ hx3,map_clo hb0]
  ·obtain ⟨x,b',hx1,hx2,hx3,hx4⟩:=hlook i hi hi2
   show w.heap.size≤g' (rho bl.length rn i)
   rw [hx4]
   rcases hr'.own x b' hx3 with ho|⟨j,hj,ho⟩
   ·exact ho
   ·exfalso
    have hlj:∃b,look H' j=some b:=⟨l[j]'(by omega),by have:=h2 j _ (List.getElem?_eq_getElem (by omega)); rwa [Nat.zero_add] at this⟩
    obtain ⟨b2,hb2⟩:=hlj
    have:=hr'.inj x j b' b2 hx3 hb2 (by rw [ho,hag j hj])
    have:=hbig x (List.mem_of_getElem? hx1)
    omega
  ·obtain ⟨x,b1,hx1,hx2,hx3,hx4⟩:=hlook i hi hi2
   obtain ⟨y,b2,hy1,hy2,hy3,hy4⟩:=hlook j hj hj2
   simp only [hx4,hy4] at e
   have:=hr'.inj x y b1 b2 hx3 hy3 e
   subst this
   obtain ⟨p1,q1⟩:=List.getElem?_eq_some_iff.1 hx1
   obtain ⟨p2,q2⟩:=List.getElem?_eq_some_iff.1 hy1
   have:=K1 hnod p1 p2 (q1.trans q2.symm)
   omega
 ·simp at hk
theorem Hg {P:Program} {E:Env} {L:List (Nat×LSpec)} (hE:EnvOk P E) (n:Nat) {f:FuncId} {fn:Func} (hf:P.funcs[f]? =some fn) (hn:fn.name≠ "runtime.NumGoroutine") (hb:fn.body.isSome=true) (hL:∀c,fn.body=some c→LsOk P L c) {s:HSpec}
  (h:∀vs bl v bl',s vs bl=some (true,v,bl')→∃rn,ToldN P E L n fn vs bl v bl' rn):SOK P f s:=
 SL hE n hf hn hb hL fun vs bl v bl' hs=>⟨h vs bl v bl' hs,trivial⟩
theorem TZ {P:Program} {f:FuncId} {s:HSpec} (h:SOK P f s) {vs:List Value} {v:Value} (hs:s vs []=some (true,v,[])) (hv:∀u∈vs,Clo u) (hcv:Clo v) (w:World) (ht:TabOk w):
  Calls P f ⟨vs⟩ w fun e w'=>e= .returned v∧Below w.heap.size w w':=by
 have:=h.run vs [] v [] hs (by simp) (fun n=>n) w (by simp) (by simp) ht (fun i hi=>absurd hi (by simp))
 rw [map_clo hv] at this
 refine this.mono fun e w' ⟨g2,_,he,_,_,_,hk⟩=>⟨by rw [he,hcv g2],⟨hk.os,hk.tape,hk.output,hk.size,fun k hk'=>hk.block k hk' (by simp)⟩⟩
theorem Ac {P:Program} :∀(f:Nat) (s:HSpec),look ([]:List (Nat×HSpec)) f=some s→SOK P f s:=fun f s h=>by simp [look] at h
theorem Aa {P:Program} {n:Nat} {s:HSpec} {l:List (Nat×HSpec)} (h:SOK P n s) (r:∀f s,look l f=some s→SOK P f s):∀(f:Nat) (s':HSpec),look ((n,s)::l) f=some s'→SOK P f s':=fun f s' h'=>by
 simp only [look] at h'
 cases hb:Nat.beq n f with
 | true=>
  have:=zE hb
  subst this
  rw [hb] at h'
  simp only [cond_true,zS] at h'
  subst h'
  exact h
 | false=>
  rw [hb] at h'
  exact r f s' h'
def FnOk (P:Program) (f:Nat) (fn:Func):Prop:=P.funcs[f]? =some fn∧fn.name≠ "runtime.NumGoroutine" ∧fn.body.isSome=true
theorem Ai {P:Program} :∀(f:Nat) (fn:Func),look ([]:List (Nat×Func)) f=some fn→FnOk P f fn:=fun f s h=>by simp [look] at h
theorem Fl {P:Program} {n:Nat} {s:Func} {l:List (Nat×Func)} (h:FnOk P n s) (r:∀f s,look l f=some s→FnOk P f s):∀(f:Nat) (s':Func),look ((n,s)::l) f=some s'→FnOk P f s':=fun f s' h'=>by
 simp only [look] at h'
 cases hb:Nat.beq n f with
 | true=>
  have:=zE hb
  subst this
  rw [hb] at h'
  simp only [cond_true,zS] at h'
  subst h'
  exact h
 | false=>
  rw [hb] at h'
  exact r f s' h'
theorem acond {α β:Type} (k:α→β) (b:Bool) (x y:α):k (bif b then x else y)=bif b then k x else k y:=by cases b<;>rfl
theorem bcond {α β:Type} (k:α→Option β) (b:Bool) (x y:Option α):(bif b then x else y).bind k=bif b then x.bind k else y.bind k:=by cases b<;>rfl
theorem Ay {l:List Blk} (h:l.all Blk.clo=true):∀b∈l,∀c∈b.cells,Clo c:=fun b hb=>Blk.clo_spec (by rw [List.all_eq_true] at h; exact h b hb)
theorem Bv {P:Program} {N:Nat→Prop} {fn:Func} :∀c,fn.body=some c→LsOkn P N [] c:=fun _ _=>Be
theorem Ga {P:Program} {N:Nat→Prop} {fn:Func} {i:Nat} {b c:Code} {t:LSpec} (hb:fn.body=some b) (hl:(Gq b).filter (fun p=>Nat.beq i p.1)=[(i,c)]) (h:LOKn P N c t):∀c,fn.body=some c→LsOkn P N [(i,t)] c:=fun b' hb' p hp t' ht=>by
 rw [hb] at hb'
 injection hb' with hb'
 subst hb'
 simp only [look] at ht
 cases he:Nat.beq i p.1 with
 |false=>rw [he] at ht; cases ht
 | true=>
  rw [he] at ht
  simp only [cond_true,zS] at ht
  subst ht
  have hm:p∈(Gq b).filter (fun p=>Nat.beq i p.1):=List.mem_filter.2 ⟨hp,he⟩
  rw [hl,List.mem_singleton] at hm
  subst hm
  exact h
def Small (n:Nat) (S:St):Prop:=(∀v∈S.tmps,Bnd n v)∧(∀m b,look S.heap m=some b→m<n∧∀c∈b.cells,Bnd n c)
theorem SRel.small {W0:World} {out:Nat→Prop} {g0:Nat→Nat} {n0:Nat} {S:St} {a:Act} {w:World} (h:SRel W0 out g0 n0 S a w):n0≤S.nxt∧Small S.nxt S:=by
 obtain ⟨g,_,hn,tr,hr⟩:=h
 exact ⟨hn,tr.tb,fun m b hm=>⟨hr.dom m b hm,fun c hc=>hr.bnd m b hm c hc⟩⟩
theorem SRel.back {W0:World} {out:Nat→Prop} {g0:Nat→Nat} {n0 n:Nat} {S:St} {a:Act} {w:World} (h:SRel W0 out g0 n0 S a w) (hn:n0≤n) (hs:Small n S):SRel W0 out g0 n0 ⟨S.tmps,S.heap,n⟩ a w:=by
 obtain ⟨g,hg,_,tr,hr⟩:=h
 exact ⟨g,hg,hn,⟨tr.sz,tr.tm,tr.df,hs.1⟩,⟨fun m b hm=>(hs.2 m b hm).1,fun m b hm=>(hs.2 m b hm).2,hr.mem,hr.inj,hr.own,hr.keep,hr.tabs,hr.ntab⟩⟩
def Sub (N:Nat→Prop) (S S':St):Prop:=∀(W0:World) (out:Nat→Prop) (g0:Nat→Nat) (n0:Nat) (a:Act) (w:World),N n0→SRel W0 out g0 n0 S a w→SRel W0 out g0 n0 S' a w
structure Wk (T:List Value) (H:Heap) (n:Nat) (S:St):Prop where
 nx:S.nxt=n
 len:S.tmps.length=T.length
 tms:∀i,Fx (nth S.tmps i)=false→nth S.tmps i=nth T i
 hp:∀m b,look S.heap m=some b→look H m=some b
 sm:Small n S
theorem SRel.wk {W0:World} {out:Nat→Prop} {g0:Nat→Nat} {n0 n:Nat} {S S':St} {a:Act} {w:World} (h:SRel W0 out g0 n0 S a w) (hn:n0≤n) (hw:Wk S.tmps S.heap n S'):SRel W0 out g0 n0 S' a w:=by
 obtain ⟨g,hg,_,tr,hr⟩:=h
 refine ⟨g,hg,by rw [hw.nx]; exact hn,⟨by rw [tr.sz,hw.len],fun i hi=> ?_,tr.df,by rw [hw.nx]; exact hw.sm.1⟩,?_⟩
 ·have:=hw.tms i hi
  rw [this] at hi ⊢
  exact tr.tm i hi
 ·rw [hw.nx]
  exact ⟨fun m b hm=>(hw.sm.2 m b hm).1,fun m b hm=>(hw.sm.2 m b hm).2,fun m b hm=>hr.mem m b (hw.hp m b hm),fun m k b c hm hk=>hr.inj m k b c (hw.hp m b hm) (hw.hp k c hk),fun m b hm=>hr.own m b (hw.hp m b hm),hr.keep,hr.tabs,fun m b hm=>hr.ntab m b (hw.hp m b hm)⟩
inductive Lpn (P:Program) (N:Nat→Prop) (E:Env) (L:List (Nat×LSpec)) (f:Nat) (c:Code):St→X→St→Prop
 |done {S:St} {x:X} {T:List Value} {H:Heap} :exec P E L (hs P E f).lf (hs P E f).cf c S (fun x S=>some (x,S.tmps,S.heap))=some (x,T,H)→(match x with| .normal=>False|_=>True)→(Small S.nxt S→Small S.nxt ⟨T,H,S.nxt⟩)→Lpn P N E L f c S x ⟨T,H,S.nxt⟩
 |more {S:St} {T:List Value} {H:Heap} {x:X} {S':St} :exec P E L (hs P E f).lf (hs P E f).cf c S (fun x S=>some (x,S.tmps,S.heap))=some (.normal,T,H)→(Small S.nxt S→Small S.nxt ⟨T,H,S.nxt⟩)→Lpn P N E L f c ⟨T,H,S.nxt⟩ x S'→Lpn P N E L f c S x S'
 |next {S S1:St} {x:X} {S':St} :exec P E L (hs P E f).lf (hs P E f).cf c S (fun x S=>some (x,S))=some (.normal,S1)→Lpn P N E L f c S1 x S'→Lpn P N E L f c S x S'
 |last {S S1:St} {x:X} :exec P E L (hs P E f).lf (hs P E f).cf c S (fun x S=>some (x,S))=some (x,S1)→(match x with| .normal=>False|_=>True)→Lpn P N E L f c S x S1
 |more' {S:St} {T:List Value} {H:Heap} {x:X} {S2 S':St} :exec P E L (hs P E f).lf (hs P E f).cf c S (fun x S=>some (x,S.tmps,S.heap))=some (.normal,T,H)→(Small S.nxt S→Wk T H S.nxt S2)→Lpn P N E L f c S2 x S'→Lpn P N E L f c S x S'
 |done' {S:St} {T:List Value} {H:Heap} {x:X} {S2:St} :exec P E L (hs P E f).lf (hs P E f).cf c S (fun x S=>some (x,S.tmps,S.heap))=some (x,T,H)→x≠ .normal→(Small S.nxt S→Wk T H S.nxt S2)→Lpn P N E L f c S x S2
 |weak {S S1:St} {x:X} {S':St} :Sub N S S1→Lpn P N E L f c S1 x S'→Lpn P N E L f c S x S'
 |weaken {S:St} {x:X} {S1 S':St} :Lpn P N E L f c S x S1→Sub N S1 S'→Lpn P N E L f c S x S'
abbrev Lp (P:Program) (E:Env) (L:List (Nat×LSpec)) (f:Nat) (c:Code):St→X→St→Prop:=Lpn P (fun _=>True) E L f c
theorem Lp.done {P:Program} {E:Env} {L:List (Nat×LSpec)} {f:Nat} {c:Code} {S:St} {x:X} {T:List Value} {H:Heap} :exec P E L (hs P E f).lf (hs P E f).cf c S (fun x S=>some (x,S.tmps,S.heap))=some (x,T,H)→(match x with| .normal=>False|_=>True)→(Small S.nxt S→Small S.nxt ⟨T,H,S.nxt⟩)→Lp P E L f c S x ⟨T,H,S.nxt⟩:=Lpn.done
theorem Lp.more {P:Program} {E:Env} {L:List (Nat×LSpec)} {f:Nat} {c:Code} {S:St} {T:List Value} {H:Heap} {x:X} {S':St} :exec P E L (hs P E f).lf (hs P E f).cf c S (fun x S=>some (x,S.tmps,S.heap))=some (.normal,T,H)→(Small S.nxt S→Small S.nxt ⟨T,H,S.nxt⟩)→Lp P E L f c ⟨T,H,S.nxt⟩ x S'→Lp P E L f c S x S':=Lpn.more
theorem Rl {P:Program} {N:Nat→Prop} {E:Env} (hE:EnvOk P E) {L:List (Nat×LSpec)} {f:Nat} {c:Code} (hL:LsOkn P N L c) {S:St} {x:X} {S':St} (h:Lpn P N E L f c S x S')
  {W0:World} {out:Nat→Prop} {g0:Nat→Nat} {n0:Nat} (hN:N n0) {Q:Exit→Act→World→Prop} (hQ:∀a' w',SRel W0 out g0 n0 S' a' w'→Q x.to a' w'):
  ∃n,∀(a:Act) (w:World),SRel W0 out g0 n0 S a w→Code.rounds P c Q n a w:=by
 induction h with
 | @done S x T H he hx hs=>
  refine ⟨1,fun a w hr=> ?_⟩
  rw [rounds_succ]
  obtain ⟨hn,hsm⟩:=hr.small
  refine Gy hE (KI hE f) (KJ hE f) c hL S _ _ he W0 out g0 n0 a w _ hN hr fun y U a' w' hy ht=> ?_
  simp only [zS,zP] at hy
  obtain ⟨rfl,rfl,rfl⟩:=hy
  have:=hQ a' w' (ht.back hn (hs hsm))
  cases y with
  |normal=>exact hx.elim
  |exit i=>exact this
  |ret=>exact this
 | @more S T H x S' he hs _ ih=>
  obtain ⟨n,hn⟩:=ih hQ
  refine ⟨n+1,fun a w hr=> ?_⟩
  rw [rounds_succ]
  obtain ⟨hn',hsm⟩:=hr.small
  refine Gy hE (KI hE f) (KJ hE f) c hL S _ _ he W0 out g0 n0 a w _ hN hr fun y U a' w' hy ht=> ?_
  simp only [zS,zP] at hy
  obtain ⟨rfl,rfl,rfl⟩:=hy
  exact hn a' w' (ht.back hn' (hs hsm))
 | @next S S1 x S' he _ ih=>
  obtain ⟨n,hn⟩:=ih hQ
  refine ⟨n+1,fun a w hr=> ?_⟩
  rw [rounds_succ]
  refine Gy hE (KI hE f) (KJ hE f) c hL S _ _ he W0 out g0 n0 a w _ hN hr fun y U a' w' hy ht=> ?_
  simp only [zS,zP] at hy
  obtain ⟨rfl,rfl⟩:=hy
  exact hn a' w' ht
 | @last S S1 x he hx=>
  refine ⟨1,fun a w hr=> ?_⟩
  rw [rounds_succ]
  refine Gy hE (KI hE f) (KJ hE f) c hL S _ _ he W0 out g0 n0 a w _ hN hr fun y U a' w' hy ht=> ?_
  simp only [zS,zP] at hy
  obtain ⟨rfl,rfl⟩:=hy
  have:=hQ a' w' ht
  cases y with
  |normal=>exact hx.elim
  |exit i=>exact this
  |ret=>exact this
 | @more' S T H x S2 S' he hs _ ih=>
  obtain ⟨n,hn⟩:=ih hQ
  refine ⟨n+1,fun a w hr=> ?_⟩
  rw [rounds_succ]
  obtain ⟨hn',hsm⟩:=hr.small
  refine Gy hE (KI hE f) (KJ hE f) c hL S _ _ he W0 out g0 n0 a w _ hN hr fun y U a' w' hy ht=> ?_
  simp only [zS,zP] at hy
  obtain ⟨rfl,rfl,rfl⟩:=hy
  exact hn a' w' (ht.wk hn' (hs hsm))
 | @done' S T H x S2 he hx hs=>
  refine ⟨1,fun a w hr=> ?_⟩
  rw [rounds_succ]
  obtain ⟨hn,hsm⟩:=hr.small
  refine Gy hE (KI hE f) (KJ hE f) c hL S _ _ he W0 out g0 n0 a w _ hN hr fun y U a' w' hy ht=> ?_
  simp only [zS,zP] at hy
  obtain ⟨rfl,rfl,rfl⟩:=hy
  have:=hQ a' w' (ht.wk hn (hs hsm))
  cases y with
  |normal=>exact absurd rfl hx
  |exit i=>exact this
  |ret=>exact this
 | @weak S S1 x S' hs _ ih=>
  obtain ⟨n,hn⟩:=ih hQ
  exact ⟨n,fun a w hr=>hn a w (hs W0 out g0 n0 a w hN hr)⟩
 | @weaken S x S1 S' _ hs ih=>exact ih fun a' w' hr=>hQ a' w' (hs W0 out g0 n0 a' w' hN hr)
theorem Small.of {n:Nat} {S:St} (h:Small n S) {T:List Value} (ht:∀v∈T,Clo v∨v∈S.tmps):Small n ⟨T,S.heap,n⟩:=
 ⟨fun v hv=>(ht v hv).elim (fun c=>c.bnd n) (fun c=>h.1 v c),h.2⟩
def Ag (fn:Func) (i:Nat):Code:=match fn.body with
 |some b=>(match look (Gq b) i with|some c=>c|none=> .skip)
 |none=> .skip
theorem lok_ofn {P:Program} {N:Nat→Prop} {E:Env} (hE:EnvOk P E) {L:List (Nat×LSpec)} {f:Nat} {c:Code} {t:LSpec} (hc:LsOkn P N L c) (h:∀S lt x S',t S=some lt→lt.at=some (x,S')→Lpn P N E L f c S x S'):LOKn P N c t:=fun S lt x S' ht hat W0 out g0 n0 a w Q hN hr hQ=>by
 obtain ⟨n,hn⟩:=Rl hE hc (h S lt x S' ht hat) hN (Q:=Q) hQ
 exact wp_loop_rounds n (hn a w hr)
theorem lok_of {P:Program} {E:Env} (hE:EnvOk P E) {L:List (Nat×LSpec)} {f:Nat} {c:Code} {t:LSpec1} (hc:LsOk P L c) (h:∀S x S',t S=some (true,x,S')→Lp P E L f c S x S'):LOK P c (one1 t):=by
 refine lok_ofn (f:=f) hE hc fun S lt x S' ht hat=> ?_
 unfold one1 at ht
 split at ht
 ·rename_i need y U hts
  injection ht with ht
  subst ht
  cases need with
  |false=>cases hat
  | true=>
   simp only [LT.at,cond_true,zS,zP] at hat
   obtain ⟨rfl,rfl⟩:=hat
   exact h _ _ _ hts
 ·cases ht
theorem Rz {P:Program} {E:Env} {L:List (Nat×LSpec)} (hE:EnvOk P E) (n:Nat) {f:FuncId} {fn:Func} (hf:P.funcs[f]? =some fn) (hn:fn.name≠ "runtime.NumGoroutine") (hb:fn.body.isSome=true) (hL:∀c,fn.body=some c→LsOk P L c) {vs:List Value} {v:Value} (h:xfn P E L n fn vs []=some (v,[]))
  (ha:∀u∈vs,okV (fun m=>Nat.blt m 0) 8 u=true) (hv:Clo v) (w:World) (htab:TabOk w):Calls P f ⟨vs⟩ w fun e w'=>e= .returned v∧Below w.heap.size w w':=by
 have hs:SOK P f (fun us bl=>match bl with|[]=>(match Classical.propDecidable (us=vs) with| .isTrue _=>some (true,v,[])| .isFalse _=>none)|_=>none):=by
  refine Cu hE n hf hn hb hL fun us bl u bl' hh=> ?_
  split at hh
  ·split at hh
   ·rename_i e _
    subst e
    simp only [zS,zP,true_and] at hh
    obtain ⟨rfl,rfl⟩:=hh
    exact ⟨h,by simpa using ha,hv,by simp⟩
   ·cases hh
  ·cases hh
 refine TZ hs (vs:=vs) (v:=v) ?_ (fun u hu=> ?_) hv w htab
 ·simp only
  split
  ·rfl
  ·rename_i e _
   exact absurd rfl e
 ·intro g
  have:=I9 (p:=fun m=>Nat.blt m 0) (g:=g) (g':=fun n=>n) (fun n hn=>by simp [Nat.blt] at hn) 8 u (ha u hu)
  rw [this]
  have key:∀(k:Nat) (x:Value),okV (fun m=>Nat.blt m 0) k x=true→ren (fun n=>n) x=x:=by
   intro k
   induction k with
   |zero=>intro x hx; simp [okV] at hx
   | succ k ih=>
    have hl:∀l:List Value,l.all (okV (fun m=>Nat.blt m 0) k)=true→l.map (ren fun n=>n)=l:=fun l hl=>by
     rw [List.all_eq_true] at hl
     calc l.map (ren fun n=>n)=l.map id:=List.map_congr_left fun x hx=>ih x (hl x hx)
      _=l:=by simp
    intro x hx
    unfold okV at hx
    split at hx
    any_goals simp [ren]
    ·exact absurd hx (by simp [Nat.blt])
    ·exact absurd hx (by simp [Nat.blt])
    any_goals rw [HD]
    any_goals exact hl _ hx
    ·simp only [zB] at hx
     rw [HD]
     exact ⟨hl _ hx.1,hl _ hx.2⟩
    ·exact ih _ hx
    ·simp at hx
  exact key 8 u (ha u hu)
end RX
end
section
namespace Go.Proofs.YtphlckkbihmlnaaGreatDoor.G
open Go Go.Proofs Go.RowKit RX
theorem Ad:Tryz.prog.follows .mixedOrders=true:=by kernel_rfl
def Ch.sp (f:Bool→ByteArray→Bool→ByteArray→(Bool×ByteArray)) (p:Bool→ByteArray→Bool→ByteArray→Bool):HSpec
 |[.agg ⟨[.bool A2,.string A3]⟩,.agg ⟨[.bool A5,.string A4]⟩],[]=>some (p A2 A3 A5 A4,.agg ⟨[.bool (f A2 A3 A5 A4).1,.string (f A2 A3 A5 A4).2]⟩,[])
 |_,_=>none
def Ed.sp (f:Bool→ByteArray→Bool→ByteArray→(Bool×ByteArray)) (p:Bool→ByteArray→Bool→ByteArray→Bool):HSpec
 |[.agg ⟨[.bool A2,.string A3]⟩,.agg ⟨[.bool A5,.string A4]⟩],[]=>some (p A2 A3 A5 A4,.agg ⟨[.bool (f A2 A3 A5 A4).1,.string (f A2 A3 A5 A4).2]⟩,[])
 |_,_=>none
def Fp.sp (f:Bool→ByteArray→Bool→ByteArray→(Bool×ByteArray)) (p:Bool→ByteArray→Bool→ByteArray→Bool):HSpec
 |[.agg ⟨[.bool A2,.string A3]⟩,.agg ⟨[.bool A5,.string A4]⟩],[]=>some (p A2 A3 A5 A4,.agg ⟨[.bool (f A2 A3 A5 A4).1,.string (f A2 A3 A5 A4).2]⟩,[])
 |_,_=>none
def Dh.sp (f:Int→(Bool×ByteArray)) (p:Int→Bool):HSpec
 |[.int .i64 a0],[]=>some (p a0,.agg ⟨[.bool (f a0).1,.string (f a0).2]⟩,[])
 |_,_=>none
def Es.sp (f:Bool→ByteArray→Bool→ByteArray→(Bool×ByteArray×Bool×ByteArray×Int)) (p:Bool→ByteArray→Bool→ByteArray→Bool):HSpec
 |[.agg ⟨[.bool A2,.string A3]⟩,.agg ⟨[.bool A5,.string A4]⟩],[]=>some (p A2 A3 A5 A4,.tuple ⟨[.agg ⟨[.bool (f A2 A3 A5 A4).1,.string (f A2 A3 A5 A4).2.1]⟩,.agg ⟨[.bool (f A2 A3 A5 A4).2.2.1,.string (f A2 A3 A5 A4).2.2.2.1]⟩,.int .i64 (f A2 A3 A5 A4).2.2.2.2]⟩,[])
 |_,_=>none
def Fq.sp (f:Bool→ByteArray→Bool→ByteArray→(Bool×ByteArray)) (p:Bool→ByteArray→Bool→ByteArray→Bool):HSpec
 |[.agg ⟨[.bool A2,.string A3]⟩,.agg ⟨[.bool A5,.string A4]⟩],[]=>some (p A2 A3 A5 A4,.agg ⟨[.bool (f A2 A3 A5 A4).1,.string (f A2 A3 A5 A4).2]⟩,[])
 |_,_=>none
def Fs.sp (f:Bool→ByteArray→Bool→ByteArray→(Int)) (p:Bool→ByteArray→Bool→ByteArray→Bool):HSpec
 |[.agg ⟨[.bool A2,.string A3]⟩,.agg ⟨[.bool A5,.string A4]⟩],[]=>some (p A2 A3 A5 A4,.int .i64 (f A2 A3 A5 A4),[])
 |_,_=>none
def Fz.sp (f:Bool→ByteArray→(Bool)):HSpec
 |[.agg ⟨[.bool A2,.string A3]⟩],[]=>some (true,.bool (f A2 A3),[])
 |_,_=>none
def Eu.sp (f:Bool→ByteArray→(Int)):HSpec
 |[.agg ⟨[.bool A2,.string A3]⟩],[]=>some (true,.int .i64 (f A2 A3),[])
 |_,_=>none
def Fb.sp (f:Bool→ByteArray→(Bool×ByteArray)):HSpec
 |[.agg ⟨[.bool A2,.string A3]⟩],[]=>some (true,.agg ⟨[.bool (f A2 A3).1,.string (f A2 A3).2]⟩,[])
 |_,_=>none
def Bw.sp (f:TF5 (Bool×ByteArray)) (p:TF5 Bool):HSpec
 |[.agg ⟨[.bool A2,.string A3,.bool A8,.string A7,.bool A6,.string A9,.bool AB,.string AA]⟩,.agg ⟨[.bool A5,.string A4]⟩],[]=>some (p A2 A3 A8 A7 A6 A9 AB AA A5 A4,.agg ⟨[.bool (f A2 A3 A8 A7 A6 A9 AB AA A5 A4).1,.string (f A2 A3 A8 A7 A6 A9 AB AA A5 A4).2]⟩,[])
 |_,_=>none
def Cx.sp (f:Bool→ByteArray→Bool→ByteArray→(Bool×ByteArray)) (p:Bool→ByteArray→Bool→ByteArray→Bool):HSpec
 |[.agg ⟨[.bool A2,.string A3]⟩,.agg ⟨[.bool A5,.string A4]⟩],[]=>some (p A2 A3 A5 A4,.agg ⟨[.bool (f A2 A3 A5 A4).1,.string (f A2 A3 A5 A4).2]⟩,[])
 |_,_=>none
def Bf.sp (f:TF5 (TY5)) (p:TF5 Bool):HSpec
 |[.agg ⟨[.bool A2,.string A3,.bool A8,.string A7,.bool A6,.string A9,.bool AB,.string AA]⟩,.agg ⟨[.bool A5,.string A4]⟩],[]=>some (p A2 A3 A8 A7 A6 A9 AB AA A5 A4,.agg ⟨[.bool (f A2 A3 A8 A7 A6 A9 AB AA A5 A4).1,.string (f A2 A3 A8 A7 A6 A9 AB AA A5 A4).2.1,.bool (f A2 A3 A8 A7 A6 A9 AB AA A5 A4).2.2.1,.string (f A2 A3 A8 A7 A6 A9 AB AA A5 A4).2.2.2.1,.bool (f A2 A3 A8 A7 A6 A9 AB AA A5 A4).2.2.2.2.1,.string (f A2 A3 A8 A7 A6 A9 AB AA A5 A4).2.2.2.2.2.1,.bool (f A2 A3 A8 A7 A6 A9 AB AA A5 A4).2.2.2.2.2.2.1,.string (f A2 A3 A8 A7 A6 A9 AB AA A5 A4).2.2.2.2.2.2.2.1,.bool (f A2 A3 A8 A7 A6 A9 AB AA A5 A4).2.2.2.2.2.2.2.2.1,.string (f A2 A3 A8 A7 A6 A9 AB AA A5 A4).2.2.2.2.2.2.2.2.2]⟩,[])
 |_,_=>none
def Ae.sp (f:TF5 (Bool)) (p:TF5 Bool):HSpec
 |[.agg ⟨[.bool A2,.string A3,.bool A8,.string A7,.bool A6,.string A9,.bool AB,.string AA,.bool AD,.string AC]⟩],[]=>some (p A2 A3 A8 A7 A6 A9 AB AA AD AC,.bool (f A2 A3 A8 A7 A6 A9 AB AA AD AC),[])
 |_,_=>none
def Ce.sp (f:Int→(TY5)) (p:Int→Bool):HSpec
 |[.int .i64 a0],[]=>some (p a0,.agg ⟨[.bool (f a0).1,.string (f a0).2.1,.bool (f a0).2.2.1,.string (f a0).2.2.2.1,.bool (f a0).2.2.2.2.1,.string (f a0).2.2.2.2.2.1,.bool (f a0).2.2.2.2.2.2.1,.string (f a0).2.2.2.2.2.2.2.1,.bool (f a0).2.2.2.2.2.2.2.2.1,.string (f a0).2.2.2.2.2.2.2.2.2]⟩,[])
 |_,_=>none
def Dv.sp (f:Int→Int→Int→(Int)):HSpec
 |[.int .i64 a0,.int .i64 a1,.int .i64 a2],[]=>some (true,.int .i64 (f a0 a1 a2),[])
 |_,_=>none
def Bs.sp (f:Int→Bool→ByteArray→Bool→ByteArray→(Bool×ByteArray)) (p:Int→Bool→ByteArray→Bool→ByteArray→Bool):HSpec
 |[.int .i64 a0,.agg ⟨[.bool A5,.string A4]⟩,.agg ⟨[.bool AJ,.string AK]⟩],[]=>some (p a0 A5 A4 AJ AK,.agg ⟨[.bool (f a0 A5 A4 AJ AK).1,.string (f a0 A5 A4 AJ AK).2]⟩,[])
 |_,_=>none
def Ct.sp (f:Bool→ByteArray→Bool→ByteArray→(Int)) (p:Bool→ByteArray→Bool→ByteArray→Bool):HSpec
 |[.agg ⟨[.bool A2,.string A3]⟩,.agg ⟨[.bool A5,.string A4]⟩],[]=>some (p A2 A3 A5 A4,.int .i64 (f A2 A3 A5 A4),[])
 |_,_=>none
def Cj.sp (f:TF5 (Int)) (p:TF5 Bool):HSpec
 |[.agg ⟨[.bool A2,.string A3,.bool A8,.string A7,.bool A6,.string A9,.bool AB,.string AA,.bool AD,.string AC]⟩],[]=>some (p A2 A3 A8 A7 A6 A9 AB AA AD AC,.int .i64 (f A2 A3 A8 A7 A6 A9 AB AA AD AC),[])
 |_,_=>none
def Cw.sp (f:TF10 (TY5)) (p:TF10 Bool):HSpec
 |[.agg ⟨[.bool A2,.string A3,.bool A8,.string A7,.bool A6,.string A9,.bool AB,.string AA,.bool AD,.string AC]⟩,.agg ⟨[.bool A5,.string A4,.bool AF,.string AE,.bool AH,.string AG,.bool AO,.string AN,.bool AM,.string AL]⟩],[]=>some (p A2 A3 A8 A7 A6 A9 AB AA AD AC A5 A4 AF AE AH AG AO AN AM AL,.agg ⟨[.bool (f A2 A3 A8 A7 A6 A9 AB AA AD AC A5 A4 AF AE AH AG AO AN AM AL).1,.string (f A2 A3 A8 A7 A6 A9 AB AA AD AC A5 A4 AF AE AH AG AO AN AM AL).2.1,.bool (f A2 A3 A8 A7 A6 A9 AB AA AD AC A5 A4 AF AE AH AG AO AN AM AL).2.2.1,.string (f A2 A3 A8 A7 A6 A9 AB AA AD AC A5 A4 AF AE AH AG AO AN AM AL).2.2.2.1,.bool (f A2 A3 A8 A7 A6 A9 AB AA AD AC A5 A4 AF AE AH AG AO AN AM AL).2.2.2.2.1,.string (f A2 A3 A8 A7 A6 A9 AB AA AD AC A5 A4 AF AE AH AG AO AN AM AL).2.2.2.2.2.1,.bool (f A2 A3 A8 A7 A6 A9 AB AA AD AC A5 A4 AF AE AH AG AO AN AM AL).2.2.2.2.2.2.1,.string (f A2 A3 A8 A7 A6 A9 AB AA AD AC A5 A4 AF AE AH AG AO AN AM AL).2.2.2.2.2.2.2.1,.bool (f A2 A3 A8 A7 A6 A9 AB AA AD AC A5 A4 AF AE AH AG AO AN AM AL).2.2.2.2.2.2.2.2.1,.string (f A2 A3 A8 A7 A6 A9 AB AA AD AC A5 A4 AF AE AH AG AO AN AM AL).2.2.2.2.2.2.2.2.2]⟩,[])
 |_,_=>none
def Ea.sp (f:TF5 (TY5)) (p:TF5 Bool):HSpec
 |[.agg ⟨[.bool A2,.string A3,.bool A8,.string A7,.bool A6,.string A9,.bool AB,.string AA,.bool AD,.string AC]⟩],[]=>some (p A2 A3 A8 A7 A6 A9 AB AA AD AC,.agg ⟨[.bool (f A2 A3 A8 A7 A6 A9 AB AA AD AC).1,.string (f A2 A3 A8 A7 A6 A9 AB AA AD AC).2.1,.bool (f A2 A3 A8 A7 A6 A9 AB AA AD AC).2.2.1,.string (f A2 A3 A8 A7 A6 A9 AB AA AD AC).2.2.2.1,.bool (f A2 A3 A8 A7 A6 A9 AB AA AD AC).2.2.2.2.1,.string (f A2 A3 A8 A7 A6 A9 AB AA AD AC).2.2.2.2.2.1,.bool (f A2 A3 A8 A7 A6 A9 AB AA AD AC).2.2.2.2.2.2.1,.string (f A2 A3 A8 A7 A6 A9 AB AA AD AC).2.2.2.2.2.2.2.1,.bool (f A2 A3 A8 A7 A6 A9 AB AA AD AC).2.2.2.2.2.2.2.2.1,.string (f A2 A3 A8 A7 A6 A9 AB AA AD AC).2.2.2.2.2.2.2.2.2]⟩,[])
 |_,_=>none
def Dw.sp (f:TF10 (TY5)) (p:TF10 Bool):HSpec
 |[.agg ⟨[.bool A2,.string A3,.bool A8,.string A7,.bool A6,.string A9,.bool AB,.string AA,.bool AD,.string AC]⟩,.agg ⟨[.bool A5,.string A4,.bool AF,.string AE,.bool AH,.string AG,.bool AO,.string AN,.bool AM,.string AL]⟩],[]=>some (p A2 A3 A8 A7 A6 A9 AB AA AD AC A5 A4 AF AE AH AG AO AN AM AL,.agg ⟨[.bool (f A2 A3 A8 A7 A6 A9 AB AA AD AC A5 A4 AF AE AH AG AO AN AM AL).1,.string (f A2 A3 A8 A7 A6 A9 AB AA AD AC A5 A4 AF AE AH AG AO AN AM AL).2.1,.bool (f A2 A3 A8 A7 A6 A9 AB AA AD AC A5 A4 AF AE AH AG AO AN AM AL).2.2.1,.string (f A2 A3 A8 A7 A6 A9 AB AA AD AC A5 A4 AF AE AH AG AO AN AM AL).2.2.2.1,.bool (f A2 A3 A8 A7 A6 A9 AB AA AD AC A5 A4 AF AE AH AG AO AN AM AL).2.2.2.2.1,.string (f A2 A3 A8 A7 A6 A9 AB AA AD AC A5 A4 AF AE AH AG AO AN AM AL).2.2.2.2.2.1,.bool (f A2 A3 A8 A7 A6 A9 AB AA AD AC A5 A4 AF AE AH AG AO AN AM AL).2.2.2.2.2.2.1,.string (f A2 A3 A8 A7 A6 A9 AB AA AD AC A5 A4 AF AE AH AG AO AN AM AL).2.2.2.2.2.2.2.1,.bool (f A2 A3 A8 A7 A6 A9 AB AA AD AC A5 A4 AF AE AH AG AO AN AM AL).2.2.2.2.2.2.2.2.1,.string (f A2 A3 A8 A7 A6 A9 AB AA AD AC A5 A4 AF AE AH AG AO AN AM AL).2.2.2.2.2.2.2.2.2]⟩,[])
 |_,_=>none
def Dc.sp (f:TF10 (Int)) (p:TF10 Bool):HSpec
 |[.agg ⟨[.bool A2,.string A3,.bool A8,.string A7,.bool A6,.string A9,.bool AB,.string AA,.bool AD,.string AC]⟩,.agg ⟨[.bool A5,.string A4,.bool AF,.string AE,.bool AH,.string AG,.bool AO,.string AN,.bool AM,.string AL]⟩],[]=>some (p A2 A3 A8 A7 A6 A9 AB AA AD AC A5 A4 AF AE AH AG AO AN AM AL,.int .i64 (f A2 A3 A8 A7 A6 A9 AB AA AD AC A5 A4 AF AE AH AG AO AN AM AL),[])
 |_,_=>none
def Cc.sp (f:TF10 (TY5)) (p:TF10 Bool):HSpec
 |[.agg ⟨[.bool A2,.string A3,.bool A8,.string A7,.bool A6,.string A9,.bool AB,.string AA,.bool AD,.string AC]⟩,.agg ⟨[.bool A5,.string A4,.bool AF,.string AE,.bool AH,.string AG,.bool AO,.string AN,.bool AM,.string AL]⟩],[]=>some (p A2 A3 A8 A7 A6 A9 AB AA AD AC A5 A4 AF AE AH AG AO AN AM AL,.agg ⟨[.bool (f A2 A3 A8 A7 A6 A9 AB AA AD AC A5 A4 AF AE AH AG AO AN AM AL).1,.string (f A2 A3 A8 A7 A6 A9 AB AA AD AC A5 A4 AF AE AH AG AO AN AM AL).2.1,.bool (f A2 A3 A8 A7 A6 A9 AB AA AD AC A5 A4 AF AE AH AG AO AN AM AL).2.2.1,.string (f A2 A3 A8 A7 A6 A9 AB AA AD AC A5 A4 AF AE AH AG AO AN AM AL).2.2.2.1,.bool (f A2 A3 A8 A7 A6 A9 AB AA AD AC A5 A4 AF AE AH AG AO AN AM AL).2.2.2.2.1,.string (f A2 A3 A8 A7 A6 A9 AB AA AD AC A5 A4 AF AE AH AG AO AN AM AL).2.2.2.2.2.1,.bool (f A2 A3 A8 A7 A6 A9 AB AA AD AC A5 A4 AF AE AH AG AO AN AM AL).2.2.2.2.2.2.1,.string (f A2 A3 A8 A7 A6 A9 AB AA AD AC A5 A4 AF AE AH AG AO AN AM AL).2.2.2.2.2.2.2.1,.bool (f A2 A3 A8 A7 A6 A9 AB AA AD AC A5 A4 AF AE AH AG AO AN AM AL).2.2.2.2.2.2.2.2.1,.string (f A2 A3 A8 A7 A6 A9 AB AA AD AC A5 A4 AF AE AH AG AO AN AM AL).2.2.2.2.2.2.2.2.2]⟩,[])
 |_,_=>none
def Cy.sp (f:TF10 (TY5)) (p:TF10 Bool):HSpec
 |[.agg ⟨[.bool A2,.string A3,.bool A8,.string A7,.bool A6,.string A9,.bool AB,.string AA,.bool AD,.string AC]⟩,.agg ⟨[.bool A5,.string A4,.bool AF,.string AE,.bool AH,.string AG,.bool AO,.string AN,.bool AM,.string AL]⟩],[]=>some (p A2 A3 A8 A7 A6 A9 AB AA AD AC A5 A4 AF AE AH AG AO AN AM AL,.agg ⟨[.bool (f A2 A3 A8 A7 A6 A9 AB AA AD AC A5 A4 AF AE AH AG AO AN AM AL).1,.string (f A2 A3 A8 A7 A6 A9 AB AA AD AC A5 A4 AF AE AH AG AO AN AM AL).2.1,.bool (f A2 A3 A8 A7 A6 A9 AB AA AD AC A5 A4 AF AE AH AG AO AN AM AL).2.2.1,.string (f A2 A3 A8 A7 A6 A9 AB AA AD AC A5 A4 AF AE AH AG AO AN AM AL).2.2.2.1,.bool (f A2 A3 A8 A7 A6 A9 AB AA AD AC A5 A4 AF AE AH AG AO AN AM AL).2.2.2.2.1,.string (f A2 A3 A8 A7 A6 A9 AB AA AD AC A5 A4 AF AE AH AG AO AN AM AL).2.2.2.2.2.1,.bool (f A2 A3 A8 A7 A6 A9 AB AA AD AC A5 A4 AF AE AH AG AO AN AM AL).2.2.2.2.2.2.1,.string (f A2 A3 A8 A7 A6 A9 AB AA AD AC A5 A4 AF AE AH AG AO AN AM AL).2.2.2.2.2.2.2.1,.bool (f A2 A3 A8 A7 A6 A9 AB AA AD AC A5 A4 AF AE AH AG AO AN AM AL).2.2.2.2.2.2.2.2.1,.string (f A2 A3 A8 A7 A6 A9 AB AA AD AC A5 A4 AF AE AH AG AO AN AM AL).2.2.2.2.2.2.2.2.2]⟩,[])
 |_,_=>none
def Dq.sp (f:TF10 (Bool×ByteArray×Bool×ByteArray×Bool×ByteArray×Bool×ByteArray×Bool×ByteArray×Int)) (p:TF10 Bool):HSpec
 |[.agg ⟨[.bool A2,.string A3,.bool A8,.string A7,.bool A6,.string A9,.bool AB,.string AA,.bool AD,.string AC]⟩,.agg ⟨[.bool A5,.string A4,.bool AF,.string AE,.bool AH,.string AG,.bool AO,.string AN,.bool AM,.string AL]⟩],[]=>some (p A2 A3 A8 A7 A6 A9 AB AA AD AC A5 A4 AF AE AH AG AO AN AM AL,.tuple ⟨[.agg ⟨[.bool (f A2 A3 A8 A7 A6 A9 AB AA AD AC A5 A4 AF AE AH AG AO AN AM AL).1,.string (f A2 A3 A8 A7 A6 A9 AB AA AD AC A5 A4 AF AE AH AG AO AN AM AL).2.1,.bool (f A2 A3 A8 A7 A6 A9 AB AA AD AC A5 A4 AF AE AH AG AO AN AM AL).2.2.1,.string (f A2 A3 A8 A7 A6 A9 AB AA AD AC A5 A4 AF AE AH AG AO AN AM AL).2.2.2.1,.bool (f A2 A3 A8 A7 A6 A9 AB AA AD AC A5 A4 AF AE AH AG AO AN AM AL).2.2.2.2.1,.string (f A2 A3 A8 A7 A6 A9 AB AA AD AC A5 A4 AF AE AH AG AO AN AM AL).2.2.2.2.2.1,.bool (f A2 A3 A8 A7 A6 A9 AB AA AD AC A5 A4 AF AE AH AG AO AN AM AL).2.2.2.2.2.2.1,.string (f A2 A3 A8 A7 A6 A9 AB AA AD AC A5 A4 AF AE AH AG AO AN AM AL).2.2.2.2.2.2.2.1,.bool (f A2 A3 A8 A7 A6 A9 AB AA AD AC A5 A4 AF AE AH AG AO AN AM AL).2.2.2.2.2.2.2.2.1,.string (f A2 A3 A8 A7 A6 A9 AB AA AD AC A5 A4 AF AE AH AG AO AN AM AL).2.2.2.2.2.2.2.2.2.1]⟩,.int .i64 (f A2 A3 A8 A7 A6 A9 AB AA AD AC A5 A4 AF AE AH AG AO AN AM AL).2.2.2.2.2.2.2.2.2.2]⟩,[])
 |_,_=>none
def Bc.sp (f:TF10 (Int×Int×Int)) (p:TF10 Bool):HSpec
 |[.agg ⟨[.bool A2,.string A3,.bool A8,.string A7,.bool A6,.string A9,.bool AB,.string AA,.bool AD,.string AC]⟩,.agg ⟨[.bool A5,.string A4,.bool AF,.string AE,.bool AH,.string AG,.bool AO,.string AN,.bool AM,.string AL]⟩],[]=>some (p A2 A3 A8 A7 A6 A9 AB AA AD AC A5 A4 AF AE AH AG AO AN AM AL,.tuple ⟨[.agg ⟨[.int .i64 (f A2 A3 A8 A7 A6 A9 AB AA AD AC A5 A4 AF AE AH AG AO AN AM AL).1,.int .i64 (f A2 A3 A8 A7 A6 A9 AB AA AD AC A5 A4 AF AE AH AG AO AN AM AL).2.1]⟩,.int .i64 (f A2 A3 A8 A7 A6 A9 AB AA AD AC A5 A4 AF AE AH AG AO AN AM AL).2.2]⟩,[])
 |_,_=>none
def Dr.sp (f:Bool→ByteArray→Bool→ByteArray→(Int)) (p:Bool→ByteArray→Bool→ByteArray→Bool):HSpec
 |[.agg ⟨[.bool A2,.string A3]⟩,.agg ⟨[.bool A5,.string A4]⟩],[]=>some (p A2 A3 A5 A4,.int .i64 (f A2 A3 A5 A4),[])
 |_,_=>none
def Cb.sp (f:Int→(Bool×ByteArray)) (p:Int→Bool):HSpec
 |[.int .i64 a0],[]=>some (p a0,.agg ⟨[.bool (f a0).1,.string (f a0).2]⟩,[])
 |_,_=>none
def Ei.sp (f:Bool→ByteArray→Bool→ByteArray→(Bool×ByteArray)) (p:Bool→ByteArray→Bool→ByteArray→Bool):HSpec
 |[.agg ⟨[.bool A2,.string A3]⟩,.agg ⟨[.bool A5,.string A4]⟩],[]=>some (p A2 A3 A5 A4,.agg ⟨[.bool (f A2 A3 A5 A4).1,.string (f A2 A3 A5 A4).2]⟩,[])
 |_,_=>none
def Fm.sp (f:Bool→ByteArray→(Bool)):HSpec
 |[.agg ⟨[.bool A2,.string A3]⟩],[]=>some (true,.bool (f A2 A3),[])
 |_,_=>none
def Ft.sp (f:Bool→ByteArray→(Int)):HSpec
 |[.agg ⟨[.bool A2,.string A3]⟩],[]=>some (true,.int .i64 (f A2 A3),[])
 |_,_=>none
def Ee.sp (f:Bool→ByteArray→(Bool×ByteArray)):HSpec
 |[.agg ⟨[.bool A2,.string A3]⟩],[]=>some (true,.agg ⟨[.bool (f A2 A3).1,.string (f A2 A3).2]⟩,[])
 |_,_=>none
def Fc.sp (f:TF5 (Int×Int×Int×Int×Int×Bool)):HSpec
 |[.agg ⟨[.bool A2,.string A3,.bool A8,.string A7,.bool A6,.string A9,.bool AB,.string AA,.bool AD,.string AC]⟩],[]=>some (true,.tuple ⟨[.agg ⟨[.int .i64 (f A2 A3 A8 A7 A6 A9 AB AA AD AC).1,.int .i64 (f A2 A3 A8 A7 A6 A9 AB AA AD AC).2.1,.int .i64 (f A2 A3 A8 A7 A6 A9 AB AA AD AC).2.2.1,.int .i64 (f A2 A3 A8 A7 A6 A9 AB AA AD AC).2.2.2.1,.int .i64 (f A2 A3 A8 A7 A6 A9 AB AA AD AC).2.2.2.2.1]⟩,.bool (f A2 A3 A8 A7 A6 A9 AB AA AD AC).2.2.2.2.2]⟩,[])
 |_,_=>none
def Eh.sp (f:Int→Int→Int→Int→Int→(Int)) (p:Int→Int→Int→Int→Int→Bool):HSpec
 |[.agg ⟨[.int .i64 A2,.int .i64 A3,.int .i64 A8,.int .i64 A7,.int .i64 A6]⟩],[]=>some (p A2 A3 A8 A7 A6,.int .i64 (f A2 A3 A8 A7 A6),[])
 |_,_=>none
def Af.sp (f:TF5 (Bool)) (p:TF5 Bool):HSpec
 |[.agg ⟨[.bool A2,.string A3,.bool A8,.string A7,.bool A6,.string A9,.bool AB,.string AA,.bool AD,.string AC]⟩],[]=>some (p A2 A3 A8 A7 A6 A9 AB AA AD AC,.bool (f A2 A3 A8 A7 A6 A9 AB AA AD AC),[])
 |_,_=>none
def Bu.sp (f:TF5 (Bool)) (p:TF5 Bool):HSpec
 |[.agg ⟨[.bool A2,.string A3,.bool A8,.string A7,.bool A6,.string A9,.bool AB,.string AA,.bool AD,.string AC]⟩],[]=>some (p A2 A3 A8 A7 A6 A9 AB AA AD AC,.bool (f A2 A3 A8 A7 A6 A9 AB AA AD AC),[])
 |_,_=>none
def Bo.sp (f:TF15 (Bool)) (p:TF15 Bool):HSpec
 |[.agg ⟨[.bool A2,.string A3,.bool A8,.string A7,.bool A6,.string A9,.bool AB,.string AA,.bool AD,.string AC,.bool BK,.string BJ,.bool BI,.string BH,.bool BG,.string BF,.bool BE,.string BD,.bool BC,.string BB,.bool BA,.string B9,.bool B8,.string B7,.bool B6,.string B5,.bool B4,.string B3,.bool B2,.string AZ]⟩],[]=>some (p A2 A3 A8 A7 A6 A9 AB AA AD AC BK BJ BI BH BG BF BE BD BC BB BA B9 B8 B7 B6 B5 B4 B3 B2 AZ,.bool (f A2 A3 A8 A7 A6 A9 AB AA AD AC BK BJ BI BH BG BF BE BD BC BB BA B9 B8 B7 B6 B5 B4 B3 B2 AZ),[])
 |_,_=>none
def Cg.sp (f:Int→(TY5)) (p:Int→Bool):HSpec
 |[.int .i64 a0],[]=>some (p a0,.agg ⟨[.bool (f a0).1,.string (f a0).2.1,.bool (f a0).2.2.1,.string (f a0).2.2.2.1,.bool (f a0).2.2.2.2.1,.string (f a0).2.2.2.2.2.1,.bool (f a0).2.2.2.2.2.2.1,.string (f a0).2.2.2.2.2.2.2.1,.bool (f a0).2.2.2.2.2.2.2.2.1,.string (f a0).2.2.2.2.2.2.2.2.2]⟩,[])
 |_,_=>none
def Cf.sp (f:Int→Int→Int→(TY15)) (p:Int→Int→Int→Bool):HSpec
 |[.int .i64 a0,.int .i64 a1,.int .i64 a2],[]=>some (p a0 a1 a2,.agg ⟨[.bool (f a0 a1 a2).1,.string (f a0 a1 a2).2.1,.bool (f a0 a1 a2).2.2.1,.string (f a0 a1 a2).2.2.2.1,.bool (f a0 a1 a2).2.2.2.2.1,.string (f a0 a1 a2).2.2.2.2.2.1,.bool (f a0 a1 a2).2.2.2.2.2.2.1,.string (f a0 a1 a2).2.2.2.2.2.2.2.1,.bool (f a0 a1 a2).2.2.2.2.2.2.2.2.1,.string (f a0 a1 a2).2.2.2.2.2.2.2.2.2.1,.bool (f a0 a1 a2).2.2.2.2.2.2.2.2.2.2.1,.string (f a0 a1 a2).2.2.2.2.2.2.2.2.2.2.2.1,.bool (f a0 a1 a2).2.2.2.2.2.2.2.2.2.2.2.2.1,.string (f a0 a1 a2).2.2.2.2.2.2.2.2.2.2.2.2.2.1,.bool (f a0 a1 a2).2.2.2.2.2.2.2.2.2.2.2.2.2.2.1,.string (f a0 a1 a2).2.2.2.2.2.2.2.2.2.2.2.2.2.2.2.1,.bool (f a0 a1 a2).2.2.2.2.2.2.2.2.2.2.2.2.2.2.2.2.1,.string (f a0 a1 a2).2.2.2.2.2.2.2.2.2.2.2.2.2.2.2.2.2.1,.bool (f a0 a1 a2).2.2.2.2.2.2.2.2.2.2.2.2.2.2.2.2.2.2.1,.string (f a0 a1 a2).2.2.2.2.2.2.2.2.2.2.2.2.2.2.2.2.2.2.2.1,.bool (f a0 a1 a2).2.2.2.2.2.2.2.2.2.2.2.2.2.2.2.2.2.2.2.2.1,.string (f a0 a1 a2).2.2.2.2.2.2.2.2.2.2.2.2.2.2.2.2.2.2.2.2.2.1,.bool (f a0 a1 a2).2.2.2.2.2.2.2.2.2.2.2.2.2.2.2.2.2.2.2.2.2.2.1,.string (f a0 a1 a2).2.2.2.2.2.2.2.2.2.2.2.2.2.2.2.2.2.2.2.2.2.2.2.1,.bool (f a0 a1 a2).2.2.2.2.2.2.2.2.2.2.2.2.2.2.2.2.2.2.2.2.2.2.2.2.1,.string (f a0 a1 a2).2.2.2.2.2.2.2.2.2.2.2.2.2.2.2.2.2.2.2.2.2.2.2.2.2.1,.bool (f a0 a1 a2).2.2.2.2.2.2.2.2.2.2.2.2.2.2.2.2.2.2.2.2.2.2.2.2.2.2.1,.string (f a0 a1 a2).2.2.2.2.2.2.2.2.2.2.2.2.2.2.2.2.2.2.2.2.2.2.2.2.2.2.2.1,.bool (f a0 a1 a2).2.2.2.2.2.2.2.2.2.2.2.2.2.2.2.2.2.2.2.2.2.2.2.2.2.2.2.2.1,.string (f a0 a1 a2).2.2.2.2.2.2.2.2.2.2.2.2.2.2.2.2.2.2.2.2.2.2.2.2.2.2.2.2.2]⟩,[])
 |_,_=>none
def Bt.sp (f:TF15 (Bool)) (p:TF15 Bool):HSpec
 |[.agg ⟨[.bool A2,.string A3,.bool A8,.string A7,.bool A6,.string A9,.bool AB,.string AA,.bool AD,.string AC,.bool BK,.string BJ,.bool BI,.string BH,.bool BG,.string BF,.bool BE,.string BD,.bool BC,.string BB,.bool BA,.string B9,.bool B8,.string B7,.bool B6,.string B5,.bool B4,.string B3,.bool B2,.string AZ]⟩],[]=>some (p A2 A3 A8 A7 A6 A9 AB AA AD AC BK BJ BI BH BG BF BE BD BC BB BA B9 B8 B7 B6 B5 B4 B3 B2 AZ,.bool (f A2 A3 A8 A7 A6 A9 AB AA AD AC BK BJ BI BH BG BF BE BD BC BB BA B9 B8 B7 B6 B5 B4 B3 B2 AZ),[])
 |_,_=>none
def Bn.sp (f:TF20 (Bool)) (p:TF20 Bool):HSpec
 |[.agg ⟨.bool A2:: .string A3:: .bool A8:: .string A7:: .bool A6:: .string A9:: .bool AB:: .string AA:: .bool AD:: .string AC:: .bool BK:: .string BJ:: .bool BI:: .string BH:: .bool BG:: .string BF:: .bool BE:: .string BD:: .bool BC:: .string BB:: .bool BA:: .string B9:: .bool B8:: .string B7:: .bool B6:: .string B5:: .bool B4:: .string B3:: .bool B2:: .string AZ:: .bool CJ:: .string CI:: .bool CH:: .string CG:: .bool CF:: .string CE:: .bool CD:: .string CC:: .bool CB:: .string CA::[]⟩],[]=>some (p A2 A3 A8 A7 A6 A9 AB AA AD AC BK BJ BI BH BG BF BE BD BC BB BA B9 B8 B7 B6 B5 B4 B3 B2 AZ CJ CI CH CG CF CE CD CC CB CA,.bool (f A2 A3 A8 A7 A6 A9 AB AA AD AC BK BJ BI BH BG BF BE BD BC BB BA B9 B8 B7 B6 B5 B4 B3 B2 AZ CJ CI CH CG CF CE CD CC CB CA),[])
 |_,_=>none
def Cs.sp (f:Int→(Int×Int×Int×Int×Int×Int×Int×Int×Int×Int×Int)):HSpec
 |[.int .i64 a0],[]=>some (true,.tuple ⟨[.agg ⟨[.int .i64 (f a0).1,.int .i64 (f a0).2.1,.int .i64 (f a0).2.2.1,.int .i64 (f a0).2.2.2.1,.int .i64 (f a0).2.2.2.2.1,.int .i64 (f a0).2.2.2.2.2.1]⟩,.agg ⟨[.int .i64 (f a0).2.2.2.2.2.2.1,.int .i64 (f a0).2.2.2.2.2.2.2.1]⟩,.agg ⟨[.int .i64 (f a0).2.2.2.2.2.2.2.2.1,.int .i64 (f a0).2.2.2.2.2.2.2.2.2.1]⟩,.int .i64 (f a0).2.2.2.2.2.2.2.2.2.2]⟩,[])
 |_,_=>none
def Ab.sp (f:Int→Int→(Bool)):HSpec
 |[.agg ⟨[.int .i64 A2,.int .i64 A3]⟩],[]=>some (true,.bool (f A2 A3),[])
 |_,_=>none
def Bk.sp (f:Int→Int→Int→Int→Int→Int→(Bool)):HSpec
 |[.agg ⟨[.int .i64 A2,.int .i64 A3,.int .i64 A8,.int .i64 A7,.int .i64 A6,.int .i64 A9]⟩],[]=>some (true,.bool (f A2 A3 A8 A7 A6 A9),[])
 |_,_=>none
def Co.sp (f:Int→Int→Int→Int→Int→Int→Int→Int→Int→Int→Int→Int→Int→Int→(Bool)):HSpec
 |[.agg ⟨[.int .i64 A2,.int .i64 A3,.int .i64 A8,.int .i64 A7,.int .i64 A6,.int .i64 A9]⟩,.agg ⟨[.int .i64 A5,.int .i64 A4,.int .i64 AF,.int .i64 AE,.int .i64 AH,.int .i64 AG]⟩,.agg ⟨[.int .i64 AJ,.int .i64 AK]⟩],[]=>some (true,.bool (f A2 A3 A8 A7 A6 A9 A5 A4 AF AE AH AG AJ AK),[])
 |_,_=>none
def Ax.sp (f:Int→Int→(Int×Int×Int)):HSpec
 |[.int .i64 a0,.int .i64 a1],[]=>some (true,.tuple ⟨[.agg ⟨[.int .i64 (f a0 a1).1,.int .i64 (f a0 a1).2.1]⟩,.int .i64 (f a0 a1).2.2]⟩,[])
 |_,_=>none
def Br.sp (f:Int→Int→Int→Int→(Int×Int×Int)):HSpec
 |[.agg ⟨[.int .i64 A2,.int .i64 A3]⟩,.agg ⟨[.int .i64 A5,.int .i64 A4]⟩],[]=>some (true,.tuple ⟨[.agg ⟨[.int .i64 (f A2 A3 A5 A4).1,.int .i64 (f A2 A3 A5 A4).2.1]⟩,.int .i64 (f A2 A3 A5 A4).2.2]⟩,[])
 |_,_=>none
def Aj.sp (f:Int→Int→Int→Int→(Int×Int×Int)):HSpec
 |[.pointer (some ⟨0,0,none⟩),.agg ⟨[.int .i64 A5,.int .i64 A4]⟩,.int .i64 a2],[.cs [.int .i64 s0_0] 61]=>some (true,.agg ⟨[.int .i64 (f s0_0 A5 A4 a2).1,.int .i64 (f s0_0 A5 A4 a2).2.1]⟩,[.cs [.int .i64 (f s0_0 A5 A4 a2).2.2] 61])
 |_,_=>none
def Au.sp (f:Int→Int→Int→Int→(Int×Int×Int)):HSpec
 |[.agg ⟨[.int .i64 A2,.int .i64 A3]⟩,.agg ⟨[.int .i64 A5,.int .i64 A4]⟩],[]=>some (true,.tuple ⟨[.agg ⟨[.int .i64 (f A2 A3 A5 A4).1,.int .i64 (f A2 A3 A5 A4).2.1]⟩,.int .i64 (f A2 A3 A5 A4).2.2]⟩,[])
 |_,_=>none
def Az.sp (f:Int→Int→(Int)):HSpec
 |[.int .i64 a0,.int .i64 a1],[]=>some (a1 !=0,.int .i64 (f a0 a1),[])
 |_,_=>none
def Bq.sp (f:Int→Int→(Int)):HSpec
 |[.int .i64 a0,.int .i64 a1],[]=>some (a1 !=0,.int .i64 (f a0 a1),[])
 |_,_=>none
def Bb.sp (f:Int→Int→Int→Int→(Int×Int×Int)):HSpec
 |[.agg ⟨[.int .i64 A2,.int .i64 A3]⟩,.agg ⟨[.int .i64 A5,.int .i64 A4]⟩],[]=>some (true,.tuple ⟨[.agg ⟨[.int .i64 (f A2 A3 A5 A4).1,.int .i64 (f A2 A3 A5 A4).2.1]⟩,.int .i64 (f A2 A3 A5 A4).2.2]⟩,[])
 |_,_=>none
def Aw.sp (f:Int→Int→Int→Int→(Int×Int×Int)):HSpec
 |[.agg ⟨[.int .i64 A2,.int .i64 A3]⟩,.agg ⟨[.int .i64 A5,.int .i64 A4]⟩],[]=>some (true,.tuple ⟨[.agg ⟨[.int .i64 (f A2 A3 A5 A4).1,.int .i64 (f A2 A3 A5 A4).2.1]⟩,.int .i64 (f A2 A3 A5 A4).2.2]⟩,[])
 |_,_=>none
def Bj.sp (f:Int→Int→Int→Int→Int→(Int×Int×Int)):HSpec
 |[.pointer (some ⟨0,0,none⟩),.agg ⟨[.int .i64 A5,.int .i64 A4]⟩,.agg ⟨[.int .i64 AJ,.int .i64 AK]⟩],[.cs [.int .i64 s0_0] 61]=>some (true,.agg ⟨[.int .i64 (f s0_0 A5 A4 AJ AK).1,.int .i64 (f s0_0 A5 A4 AJ AK).2.1]⟩,[.cs [.int .i64 (f s0_0 A5 A4 AJ AK).2.2] 61])
 |_,_=>none
def Bz.sp (f:Int→Int→Int→Int→Int→(Int×Int×Int)):HSpec
 |[.pointer (some ⟨0,0,none⟩),.agg ⟨[.int .i64 A5,.int .i64 A4]⟩,.agg ⟨[.int .i64 AJ,.int .i64 AK]⟩],[.cs [.int .i64 s0_0] 61]=>some (true,.agg ⟨[.int .i64 (f s0_0 A5 A4 AJ AK).1,.int .i64 (f s0_0 A5 A4 AJ AK).2.1]⟩,[.cs [.int .i64 (f s0_0 A5 A4 AJ AK).2.2] 61])
 |_,_=>none
def Cr.sp (f:Int→Int→Int→(Int×Int×Int×Int)):HSpec
 |[.pointer (some ⟨0,0,none⟩),.agg ⟨[.int .i64 A5,.int .i64 A4]⟩],[.cs [.int .i64 s0_0] 61]=>some (true,.tuple ⟨[.agg ⟨[.int .i64 (f s0_0 A5 A4).1,.int .i64 (f s0_0 A5 A4).2.1]⟩,.int .i64 (f s0_0 A5 A4).2.2.1]⟩,[.cs [.int .i64 (f s0_0 A5 A4).2.2.2] 61])
 |_,_=>none
def Dn.sp (f:Int→Int→Int→Int→Int→Int→Int→Int→Int→Int→Int→Int→(Int×Int×Int)):HSpec
 |[.agg ⟨[.int .i64 A2,.int .i64 A3,.int .i64 A8,.int .i64 A7,.int .i64 A6,.int .i64 A9]⟩,.agg ⟨[.int .i64 A5,.int .i64 A4,.int .i64 AF,.int .i64 AE,.int .i64 AH,.int .i64 AG]⟩],[]=>some (true,.tuple ⟨[.agg ⟨[.int .i64 (f A2 A3 A8 A7 A6 A9 A5 A4 AF AE AH AG).1,.int .i64 (f A2 A3 A8 A7 A6 A9 A5 A4 AF AE AH AG).2.1]⟩,.int .i64 (f A2 A3 A8 A7 A6 A9 A5 A4 AF AE AH AG).2.2]⟩,[])
 |_,_=>none
def Dm.sp (f:Int→Int→(Int)):HSpec
 |[.agg ⟨[.int .i64 A2,.int .i64 A3]⟩],[]=>some (true,.int .i64 (f A2 A3),[])
 |_,_=>none
def At.sp (f:Int→Int→(Int×Int×Int)):HSpec
 |[.agg ⟨[.int .i64 A2,.int .i64 A3]⟩],[]=>some (true,.tuple ⟨[.agg ⟨[.int .i64 (f A2 A3).1,.int .i64 (f A2 A3).2.1]⟩,.int .i64 (f A2 A3).2.2]⟩,[])
 |_,_=>none
def Bp.sp (f:Int→Int→(Int×Int×Int)):HSpec
 |[.agg ⟨[.int .i64 A2,.int .i64 A3]⟩],[]=>some (true,.tuple ⟨[.agg ⟨[.int .i64 (f A2 A3).1,.int .i64 (f A2 A3).2.1]⟩,.int .i64 (f A2 A3).2.2]⟩,[])
 |_,_=>none
def Df.sp (f:Int→Int→(Int×Int×Int)):HSpec
 |[.agg ⟨[.int .i64 A2,.int .i64 A3]⟩],[]=>some (true,.tuple ⟨[.agg ⟨[.int .i64 (f A2 A3).1,.int .i64 (f A2 A3).2.1]⟩,.int .i64 (f A2 A3).2.2]⟩,[])
 |_,_=>none
def Dg.sp (f:(Int×Int)):HSpec
 |[],[]=>some (true,.agg ⟨[.int .i64 (f).1,.int .i64 (f).2]⟩,[])
 |_,_=>none
def By.sp (f:Int→Int→Int→Int→(Int×Int×Int)):HSpec
 |[.agg ⟨[.int .i64 A2,.int .i64 A3]⟩,.agg ⟨[.int .i64 A5,.int .i64 A4]⟩],[]=>some (true,.tuple ⟨[.agg ⟨[.int .i64 (f A2 A3 A5 A4).1,.int .i64 (f A2 A3 A5 A4).2.1]⟩,.int .i64 (f A2 A3 A5 A4).2.2]⟩,[])
 |_,_=>none
def Ba.sp (f:Int→Int→Int→Int→Int→Int→Int→(Int×Int×Int×Int×Int×Int×Int×Int)):HSpec
 |[.pointer (some ⟨0,0,none⟩),.agg ⟨[.int .i64 A5,.int .i64 A4,.int .i64 AF,.int .i64 AE,.int .i64 AH,.int .i64 AG]⟩],[.cs [.int .i64 s0_0] 61]=>some (true,.tuple ⟨[.agg ⟨[.int .i64 (f s0_0 A5 A4 AF AE AH AG).1,.int .i64 (f s0_0 A5 A4 AF AE AH AG).2.1,.int .i64 (f s0_0 A5 A4 AF AE AH AG).2.2.1,.int .i64 (f s0_0 A5 A4 AF AE AH AG).2.2.2.1,.int .i64 (f s0_0 A5 A4 AF AE AH AG).2.2.2.2.1,.int .i64 (f s0_0 A5 A4 AF AE AH AG).2.2.2.2.2.1]⟩,.int .i64 (f s0_0 A5 A4 AF AE AH AG).2.2.2.2.2.2.1]⟩,[.cs [.int .i64 (f s0_0 A5 A4 AF AE AH AG).2.2.2.2.2.2.2] 61])
 |_,_=>none
def Ds.sp (f:Int→Int→Int→Int→Int→Int→Int→Int→(Int×Int×Int×Int×Int×Int×Int)):HSpec
 |[.agg ⟨[.int .i64 A2,.int .i64 A3,.int .i64 A8,.int .i64 A7,.int .i64 A6,.int .i64 A9]⟩,.agg ⟨[.int .i64 A5,.int .i64 A4]⟩],[]=>some (true,.tuple ⟨[.agg ⟨[.int .i64 (f A2 A3 A8 A7 A6 A9 A5 A4).1,.int .i64 (f A2 A3 A8 A7 A6 A9 A5 A4).2.1,.int .i64 (f A2 A3 A8 A7 A6 A9 A5 A4).2.2.1,.int .i64 (f A2 A3 A8 A7 A6 A9 A5 A4).2.2.2.1,.int .i64 (f A2 A3 A8 A7 A6 A9 A5 A4).2.2.2.2.1,.int .i64 (f A2 A3 A8 A7 A6 A9 A5 A4).2.2.2.2.2.1]⟩,.int .i64 (f A2 A3 A8 A7 A6 A9 A5 A4).2.2.2.2.2.2]⟩,[])
 |_,_=>none
def Cd.sp (f:Int→Int→Int→Int→Int→Int→Int→Int→Int→(Int×Int×Int×Int×Int×Int×Int)):HSpec
 |[.pointer (some ⟨0,0,none⟩),.agg ⟨[.int .i64 A5,.int .i64 A4,.int .i64 AF,.int .i64 AE,.int .i64 AH,.int .i64 AG]⟩,.agg ⟨[.int .i64 AJ,.int .i64 AK]⟩],[.cs [.int .i64 s0_0] 76]=>some (true,.agg ⟨[.int .i64 (f s0_0 A5 A4 AF AE AH AG AJ AK).1,.int .i64 (f s0_0 A5 A4 AF AE AH AG AJ AK).2.1,.int .i64 (f s0_0 A5 A4 AF AE AH AG AJ AK).2.2.1,.int .i64 (f s0_0 A5 A4 AF AE AH AG AJ AK).2.2.2.1,.int .i64 (f s0_0 A5 A4 AF AE AH AG AJ AK).2.2.2.2.1,.int .i64 (f s0_0 A5 A4 AF AE AH AG AJ AK).2.2.2.2.2.1]⟩,[.cs [.int .i64 (f s0_0 A5 A4 AF AE AH AG AJ AK).2.2.2.2.2.2] 76])
 |_,_=>none
def Ef.sp (f:Int→Int→Int→Int→Int→Int→Int→Int→Int→Int→Int→Int→(Int×Int×Int×Int×Int×Int×Int)):HSpec
 |[.agg ⟨[.int .i64 A2,.int .i64 A3,.int .i64 A8,.int .i64 A7,.int .i64 A6,.int .i64 A9]⟩,.agg ⟨[.int .i64 A5,.int .i64 A4,.int .i64 AF,.int .i64 AE,.int .i64 AH,.int .i64 AG]⟩],[]=>some (true,.tuple ⟨[.agg ⟨[.int .i64 (f A2 A3 A8 A7 A6 A9 A5 A4 AF AE AH AG).1,.int .i64 (f A2 A3 A8 A7 A6 A9 A5 A4 AF AE AH AG).2.1,.int .i64 (f A2 A3 A8 A7 A6 A9 A5 A4 AF AE AH AG).2.2.1,.int .i64 (f A2 A3 A8 A7 A6 A9 A5 A4 AF AE AH AG).2.2.2.1,.int .i64 (f A2 A3 A8 A7 A6 A9 A5 A4 AF AE AH AG).2.2.2.2.1,.int .i64 (f A2 A3 A8 A7 A6 A9 A5 A4 AF AE AH AG).2.2.2.2.2.1]⟩,.int .i64 (f A2 A3 A8 A7 A6 A9 A5 A4 AF AE AH AG).2.2.2.2.2.2]⟩,[])
 |_,_=>none
def Cq.sp (f:Int→Int→Int→Int→Int→Int→Int→Int→Int→Int→Int→Int→Int→(Int×Int×Int×Int×Int×Int×Int)):HSpec
 |[.pointer (some ⟨0,0,none⟩),.agg ⟨[.int .i64 A5,.int .i64 A4,.int .i64 AF,.int .i64 AE,.int .i64 AH,.int .i64 AG]⟩,.agg ⟨[.int .i64 AJ,.int .i64 AK,.int .i64 GI,.int .i64 GH,.int .i64 GG,.int .i64 GF]⟩],[.cs [.int .i64 s0_0] 76]=>some (true,.agg ⟨[.int .i64 (f s0_0 A5 A4 AF AE AH AG AJ AK GI GH GG GF).1,.int .i64 (f s0_0 A5 A4 AF AE AH AG AJ AK GI GH GG GF).2.1,.int .i64 (f s0_0 A5 A4 AF AE AH AG AJ AK GI GH GG GF).2.2.1,.int .i64 (f s0_0 A5 A4 AF AE AH AG AJ AK GI GH GG GF).2.2.2.1,.int .i64 (f s0_0 A5 A4 AF AE AH AG AJ AK GI GH GG GF).2.2.2.2.1,.int .i64 (f s0_0 A5 A4 AF AE AH AG AJ AK GI GH GG GF).2.2.2.2.2.1]⟩,[.cs [.int .i64 (f s0_0 A5 A4 AF AE AH AG AJ AK GI GH GG GF).2.2.2.2.2.2] 76])
 |_,_=>none
def Ca.sp (f:Int→Int→Int→Int→Int→Int→Int→Int→Int→Int→Int→Int→Int→Int→(Int×Int×Int×Int×Int×Int×Int×Int×Int×Int×Int)):HSpec
 |[.agg ⟨[.int .i64 A2,.int .i64 A3,.int .i64 A8,.int .i64 A7,.int .i64 A6,.int .i64 A9]⟩,.agg ⟨[.int .i64 A5,.int .i64 A4,.int .i64 AF,.int .i64 AE,.int .i64 AH,.int .i64 AG]⟩,.agg ⟨[.int .i64 AJ,.int .i64 AK]⟩],[]=>some (true,.tuple ⟨[.agg ⟨[.int .i64 (f A2 A3 A8 A7 A6 A9 A5 A4 AF AE AH AG AJ AK).1,.int .i64 (f A2 A3 A8 A7 A6 A9 A5 A4 AF AE AH AG AJ AK).2.1,.int .i64 (f A2 A3 A8 A7 A6 A9 A5 A4 AF AE AH AG AJ AK).2.2.1,.int .i64 (f A2 A3 A8 A7 A6 A9 A5 A4 AF AE AH AG AJ AK).2.2.2.1,.int .i64 (f A2 A3 A8 A7 A6 A9 A5 A4 AF AE AH AG AJ AK).2.2.2.2.1,.int .i64 (f A2 A3 A8 A7 A6 A9 A5 A4 AF AE AH AG AJ AK).2.2.2.2.2.1]⟩,.agg ⟨[.int .i64 (f A2 A3 A8 A7 A6 A9 A5 A4 AF AE AH AG AJ AK).2.2.2.2.2.2.1,.int .i64 (f A2 A3 A8 A7 A6 A9 A5 A4 AF AE AH AG AJ AK).2.2.2.2.2.2.2.1]⟩,.agg ⟨[.int .i64 (f A2 A3 A8 A7 A6 A9 A5 A4 AF AE AH AG AJ AK).2.2.2.2.2.2.2.2.1,.int .i64 (f A2 A3 A8 A7 A6 A9 A5 A4 AF AE AH AG AJ AK).2.2.2.2.2.2.2.2.2.1]⟩,.int .i64 (f A2 A3 A8 A7 A6 A9 A5 A4 AF AE AH AG AJ AK).2.2.2.2.2.2.2.2.2.2]⟩,[])
 |_,_=>none
def Ex.sp (f:Int→(Int×Int×Int)):HSpec
 |[.int .i64 a0],[]=>some (true,.tuple ⟨[.agg ⟨[.int .i64 (f a0).1,.int .i64 (f a0).2.1]⟩,.int .i64 (f a0).2.2]⟩,[])
 |_,_=>none
def Dy.sp (f:Int→Int→(Int)):HSpec
 |[.agg ⟨[.int .i64 A2,.int .i64 A3]⟩],[]=>some (true,.int .i64 (f A2 A3),[])
 |_,_=>none
def Ek.sp (f:Int→Int→Int→Int→Int→Int→Int→Int→Int→Int→Int→Int→Int→Int→(Int×Int)):HSpec
 |[.agg ⟨[.int .i64 A2,.int .i64 A3,.int .i64 A8,.int .i64 A7,.int .i64 A6,.int .i64 A9]⟩,.agg ⟨[.int .i64 A5,.int .i64 A4,.int .i64 AF,.int .i64 AE,.int .i64 AH,.int .i64 AG]⟩,.agg ⟨[.int .i64 AJ,.int .i64 AK]⟩],[]=>some (true,.tuple ⟨[.int .i64 (f A2 A3 A8 A7 A6 A9 A5 A4 AF AE AH AG AJ AK).1,.int .i64 (f A2 A3 A8 A7 A6 A9 A5 A4 AF AE AH AG AJ AK).2]⟩,[])
 |_,_=>none
def Dk.sp (f:(Int×Int)):HSpec
 |[],[]=>some (true,.agg ⟨[.int .i64 (f).1,.int .i64 (f).2]⟩,[])
 |_,_=>none
def Ey.sp (f:(Int×Int×Int×Int×Int×Int)):HSpec
 |[],[]=>some (true,.agg ⟨[.int .i64 (f).1,.int .i64 (f).2.1,.int .i64 (f).2.2.1,.int .i64 (f).2.2.2.1,.int .i64 (f).2.2.2.2.1,.int .i64 (f).2.2.2.2.2]⟩,[])
 |_,_=>none
def Dl.sp (f:Int→Int→(Int×Int×Int)):HSpec
 |[.agg ⟨[.int .i64 A2,.int .i64 A3]⟩],[]=>some (true,.tuple ⟨[.agg ⟨[.int .i64 (f A2 A3).1,.int .i64 (f A2 A3).2.1]⟩,.int .i64 (f A2 A3).2.2]⟩,[])
 |_,_=>none
def Eb.sp (f:(Bool)):HSpec
 |[],[]=>some (true,.bool (f),[])
 |_,_=>none
def Ci.sp (f:TF20 (Bool)) (p:TF20 Bool):HSpec
 |[.agg ⟨.bool A2:: .string A3:: .bool A8:: .string A7:: .bool A6:: .string A9:: .bool AB:: .string AA:: .bool AD:: .string AC:: .bool BK:: .string BJ:: .bool BI:: .string BH:: .bool BG:: .string BF:: .bool BE:: .string BD:: .bool BC:: .string BB:: .bool BA:: .string B9:: .bool B8:: .string B7:: .bool B6:: .string B5:: .bool B4:: .string B3:: .bool B2:: .string AZ:: .bool CJ:: .string CI:: .bool CH:: .string CG:: .bool CF:: .string CE:: .bool CD:: .string CC:: .bool CB:: .string CA::[]⟩],[]=>some (p A2 A3 A8 A7 A6 A9 AB AA AD AC BK BJ BI BH BG BF BE BD BC BB BA B9 B8 B7 B6 B5 B4 B3 B2 AZ CJ CI CH CG CF CE CD CC CB CA,.bool (f A2 A3 A8 A7 A6 A9 AB AA AD AC BK BJ BI BH BG BF BE BD BC BB BA B9 B8 B7 B6 B5 B4 B3 B2 AZ CJ CI CH CG CF CE CD CC CB CA),[])
 |_,_=>none
def Dj.sp (f:TF15 (Bool)) (p:TF15 Bool):HSpec
 |[.agg ⟨[.bool A2,.string A3,.bool A8,.string A7,.bool A6,.string A9,.bool AB,.string AA,.bool AD,.string AC,.bool BK,.string BJ,.bool BI,.string BH,.bool BG,.string BF,.bool BE,.string BD,.bool BC,.string BB,.bool BA,.string B9,.bool B8,.string B7,.bool B6,.string B5,.bool B4,.string B3,.bool B2,.string AZ]⟩],[]=>some (p A2 A3 A8 A7 A6 A9 AB AA AD AC BK BJ BI BH BG BF BE BD BC BB BA B9 B8 B7 B6 B5 B4 B3 B2 AZ,.bool (f A2 A3 A8 A7 A6 A9 AB AA AD AC BK BJ BI BH BG BF BE BD BC BB BA B9 B8 B7 B6 B5 B4 B3 B2 AZ),[])
 |_,_=>none
def Dz.sp (f:Int→Int→Int→(TY15)) (p:Int→Int→Int→Bool):HSpec
 |[.int .i64 a0,.int .i64 a1,.int .i64 a2],[]=>some (p a0 a1 a2,.agg ⟨[.bool (f a0 a1 a2).1,.string (f a0 a1 a2).2.1,.bool (f a0 a1 a2).2.2.1,.string (f a0 a1 a2).2.2.2.1,.bool (f a0 a1 a2).2.2.2.2.1,.string (f a0 a1 a2).2.2.2.2.2.1,.bool (f a0 a1 a2).2.2.2.2.2.2.1,.string (f a0 a1 a2).2.2.2.2.2.2.2.1,.bool (f a0 a1 a2).2.2.2.2.2.2.2.2.1,.string (f a0 a1 a2).2.2.2.2.2.2.2.2.2.1,.bool (f a0 a1 a2).2.2.2.2.2.2.2.2.2.2.1,.string (f a0 a1 a2).2.2.2.2.2.2.2.2.2.2.2.1,.bool (f a0 a1 a2).2.2.2.2.2.2.2.2.2.2.2.2.1,.string (f a0 a1 a2).2.2.2.2.2.2.2.2.2.2.2.2.2.1,.bool (f a0 a1 a2).2.2.2.2.2.2.2.2.2.2.2.2.2.2.1,.string (f a0 a1 a2).2.2.2.2.2.2.2.2.2.2.2.2.2.2.2.1,.bool (f a0 a1 a2).2.2.2.2.2.2.2.2.2.2.2.2.2.2.2.2.1,.string (f a0 a1 a2).2.2.2.2.2.2.2.2.2.2.2.2.2.2.2.2.2.1,.bool (f a0 a1 a2).2.2.2.2.2.2.2.2.2.2.2.2.2.2.2.2.2.2.1,.string (f a0 a1 a2).2.2.2.2.2.2.2.2.2.2.2.2.2.2.2.2.2.2.2.1,.bool (f a0 a1 a2).2.2.2.2.2.2.2.2.2.2.2.2.2.2.2.2.2.2.2.2.1,.string (f a0 a1 a2).2.2.2.2.2.2.2.2.2.2.2.2.2.2.2.2.2.2.2.2.2.1,.bool (f a0 a1 a2).2.2.2.2.2.2.2.2.2.2.2.2.2.2.2.2.2.2.2.2.2.2.1,.string (f a0 a1 a2).2.2.2.2.2.2.2.2.2.2.2.2.2.2.2.2.2.2.2.2.2.2.2.1,.bool (f a0 a1 a2).2.2.2.2.2.2.2.2.2.2.2.2.2.2.2.2.2.2.2.2.2.2.2.2.1,.string (f a0 a1 a2).2.2.2.2.2.2.2.2.2.2.2.2.2.2.2.2.2.2.2.2.2.2.2.2.2.1,.bool (f a0 a1 a2).2.2.2.2.2.2.2.2.2.2.2.2.2.2.2.2.2.2.2.2.2.2.2.2.2.2.1,.string (f a0 a1 a2).2.2.2.2.2.2.2.2.2.2.2.2.2.2.2.2.2.2.2.2.2.2.2.2.2.2.2.1,.bool (f a0 a1 a2).2.2.2.2.2.2.2.2.2.2.2.2.2.2.2.2.2.2.2.2.2.2.2.2.2.2.2.2.1,.string (f a0 a1 a2).2.2.2.2.2.2.2.2.2.2.2.2.2.2.2.2.2.2.2.2.2.2.2.2.2.2.2.2.2]⟩,[])
 |_,_=>none
def Dd.sp (f:TF15 (Bool)) (p:TF15 Bool):HSpec
 |[.agg ⟨[.bool A2,.string A3,.bool A8,.string A7,.bool A6,.string A9,.bool AB,.string AA,.bool AD,.string AC,.bool BK,.string BJ,.bool BI,.string BH,.bool BG,.string BF,.bool BE,.string BD,.bool BC,.string BB,.bool BA,.string B9,.bool B8,.string B7,.bool B6,.string B5,.bool B4,.string B3,.bool B2,.string AZ]⟩],[]=>some (p A2 A3 A8 A7 A6 A9 AB AA AD AC BK BJ BI BH BG BF BE BD BC BB BA B9 B8 B7 B6 B5 B4 B3 B2 AZ,.bool (f A2 A3 A8 A7 A6 A9 AB AA AD AC BK BJ BI BH BG BF BE BD BC BB BA B9 B8 B7 B6 B5 B4 B3 B2 AZ),[])
 |_,_=>none
def De.sp (f:TF20 (Bool)) (p:TF20 Bool):HSpec
 |[.agg ⟨.bool A2:: .string A3:: .bool A8:: .string A7:: .bool A6:: .string A9:: .bool AB:: .string AA:: .bool AD:: .string AC:: .bool BK:: .string BJ:: .bool BI:: .string BH:: .bool BG:: .string BF:: .bool BE:: .string BD:: .bool BC:: .string BB:: .bool BA:: .string B9:: .bool B8:: .string B7:: .bool B6:: .string B5:: .bool B4:: .string B3:: .bool B2:: .string AZ:: .bool CJ:: .string CI:: .bool CH:: .string CG:: .bool CF:: .string CE:: .bool CD:: .string CC:: .bool CB:: .string CA::[]⟩],[]=>some (p A2 A3 A8 A7 A6 A9 AB AA AD AC BK BJ BI BH BG BF BE BD BC BB BA B9 B8 B7 B6 B5 B4 B3 B2 AZ CJ CI CH CG CF CE CD CC CB CA,.bool (f A2 A3 A8 A7 A6 A9 AB AA AD AC BK BJ BI BH BG BF BE BD BC BB BA B9 B8 B7 B6 B5 B4 B3 B2 AZ CJ CI CH CG CF CE CD CC CB CA),[])
 |_,_=>none
def Do.sp (f:TF30 (TY5)) (p:TF30 Bool):HSpec
 |[.agg ⟨[.bool A2,.string A3,.bool A8,.string A7,.bool A6,.string A9,.bool AB,.string AA,.bool AD,.string AC,.bool BK,.string BJ,.bool BI,.string BH,.bool BG,.string BF,.bool BE,.string BD,.bool BC,.string BB,.bool BA,.string B9,.bool B8,.string B7,.bool B6,.string B5,.bool B4,.string B3,.bool B2,.string AZ]⟩,.agg ⟨[.bool A5,.string A4,.bool AF,.string AE,.bool AH,.string AG,.bool AO,.string AN,.bool AM,.string AL,.bool DT,.string DS,.bool DR,.string DQ,.bool DP,.string DO,.bool DN,.string DM,.bool DL,.string DK,.bool DJ,.string DI,.bool DH,.string DG,.bool DF,.string DE,.bool DD,.string DC,.bool DB,.string DA]⟩],[]=>some (p A2 A3 A8 A7 A6 A9 AB AA AD AC BK BJ BI BH BG BF BE BD BC BB BA B9 B8 B7 B6 B5 B4 B3 B2 AZ A5 A4 AF AE AH AG AO AN AM AL DT DS DR DQ DP DO DN DM DL DK DJ DI DH DG DF DE DD DC DB DA,.agg ⟨[.bool (f A2 A3 A8 A7 A6 A9 AB AA AD AC BK BJ BI BH BG BF BE BD BC BB BA B9 B8 B7 B6 B5 B4 B3 B2 AZ A5 A4 AF AE AH AG AO AN AM AL DT DS DR DQ DP DO DN DM DL DK DJ DI DH DG DF DE DD DC DB DA).1,.string (f A2 A3 A8 A7 A6 A9 AB AA AD AC BK BJ BI BH BG BF BE BD BC BB BA B9 B8 B7 B6 B5 B4 B3 B2 AZ A5 A4 AF AE AH AG AO AN AM AL DT DS DR DQ DP DO DN DM DL DK DJ DI DH DG DF DE DD DC DB DA).2.1,.bool (f A2 A3 A8 A7 A6 A9 AB AA AD AC BK BJ BI BH BG BF BE BD BC BB BA B9 B8 B7 B6 B5 B4 B3 B2 AZ A5 A4 AF AE AH AG AO AN AM AL DT DS DR DQ DP DO DN DM DL DK DJ DI DH DG DF DE DD DC DB DA).2.2.1,.string (f A2 A3 A8 A7 A6 A9 AB AA AD AC BK BJ BI BH BG BF BE BD BC BB BA B9 B8 B7 B6 B5 B4 B3 B2 AZ A5 A4 AF AE AH AG AO AN AM AL DT DS DR DQ DP DO DN DM DL DK DJ DI DH DG DF DE DD DC DB DA).2.2.2.1,.bool (f A2 A3 A8 A7 A6 A9 AB AA AD AC BK BJ BI BH BG BF BE BD BC BB BA B9 B8 B7 B6 B5 B4 B3 B2 AZ A5 A4 AF AE AH AG AO AN AM AL DT DS DR DQ DP DO DN DM DL DK DJ DI DH DG DF DE DD DC DB DA).2.2.2.2.1,.string (f A2 A3 A8 A7 A6 A9 AB AA AD AC BK BJ BI BH BG BF BE BD BC BB BA B9 B8 B7 B6 B5 B4 B3 B2 AZ A5 A4 AF AE AH AG AO AN AM AL DT DS DR DQ DP DO DN DM DL DK DJ DI DH DG DF DE DD DC DB DA).2.2.2.2.2.1,.bool (f A2 A3 A8 A7 A6 A9 AB AA AD AC BK BJ BI BH BG BF BE BD BC BB BA B9 B8 B7 B6 B5 B4 B3 B2 AZ A5 A4 AF AE AH AG AO AN AM AL DT DS DR DQ DP DO DN DM DL DK DJ DI DH DG DF DE DD DC DB DA).2.2.2.2.2.2.1,.string (f A2 A3 A8 A7 A6 A9 AB AA AD AC BK BJ BI BH BG BF BE BD BC BB BA B9 B8 B7 B6 B5 B4 B3 B2 AZ A5 A4 AF AE AH AG AO AN AM AL DT DS DR DQ DP DO DN DM DL DK DJ DI DH DG DF DE DD DC DB DA).2.2.2.2.2.2.2.1,.bool (f A2 A3 A8 A7 A6 A9 AB AA AD AC BK BJ BI BH BG BF BE BD BC BB BA B9 B8 B7 B6 B5 B4 B3 B2 AZ A5 A4 AF AE AH AG AO AN AM AL DT DS DR DQ DP DO DN DM DL DK DJ DI DH DG DF DE DD DC DB DA).2.2.2.2.2.2.2.2.1,.string (f A2 A3 A8 A7 A6 A9 AB AA AD AC BK BJ BI BH BG BF BE BD BC BB BA B9 B8 B7 B6 B5 B4 B3 B2 AZ A5 A4 AF AE AH AG AO AN AM AL DT DS DR DQ DP DO DN DM DL DK DJ DI DH DG DF DE DD DC DB DA).2.2.2.2.2.2.2.2.2]⟩,[])
 |_,_=>none
def Bm.sp (f:TF20 (Int×Int×Int×Int×Int×Int×Int)) (p:TF20 Bool):HSpec
 |[.agg ⟨.bool A2:: .string A3:: .bool A8:: .string A7:: .bool A6:: .string A9:: .bool AB:: .string AA:: .bool AD:: .string AC:: .bool BK:: .string BJ:: .bool BI:: .string BH:: .bool BG:: .string BF:: .bool BE:: .string BD:: .bool BC:: .string BB:: .bool BA:: .string B9:: .bool B8:: .string B7:: .bool B6:: .string B5:: .bool B4:: .string B3:: .bool B2:: .string AZ:: .bool CJ:: .string CI:: .bool CH:: .string CG:: .bool CF:: .string CE:: .bool CD:: .string CC:: .bool CB:: .string CA::[]⟩],[]=>some (p A2 A3 A8 A7 A6 A9 AB AA AD AC BK BJ BI BH BG BF BE BD BC BB BA B9 B8 B7 B6 B5 B4 B3 B2 AZ CJ CI CH CG CF CE CD CC CB CA,.tuple ⟨[.agg ⟨[.int .i64 (f A2 A3 A8 A7 A6 A9 AB AA AD AC BK BJ BI BH BG BF BE BD BC BB BA B9 B8 B7 B6 B5 B4 B3 B2 AZ CJ CI CH CG CF CE CD CC CB CA).1,.int .i64 (f A2 A3 A8 A7 A6 A9 AB AA AD AC BK BJ BI BH BG BF BE BD BC BB BA B9 B8 B7 B6 B5 B4 B3 B2 AZ CJ CI CH CG CF CE CD CC CB CA).2.1,.int .i64 (f A2 A3 A8 A7 A6 A9 AB AA AD AC BK BJ BI BH BG BF BE BD BC BB BA B9 B8 B7 B6 B5 B4 B3 B2 AZ CJ CI CH CG CF CE CD CC CB CA).2.2.1,.int .i64 (f A2 A3 A8 A7 A6 A9 AB AA AD AC BK BJ BI BH BG BF BE BD BC BB BA B9 B8 B7 B6 B5 B4 B3 B2 AZ CJ CI CH CG CF CE CD CC CB CA).2.2.2.1,.int .i64 (f A2 A3 A8 A7 A6 A9 AB AA AD AC BK BJ BI BH BG BF BE BD BC BB BA B9 B8 B7 B6 B5 B4 B3 B2 AZ CJ CI CH CG CF CE CD CC CB CA).2.2.2.2.1,.int .i64 (f A2 A3 A8 A7 A6 A9 AB AA AD AC BK BJ BI BH BG BF BE BD BC BB BA B9 B8 B7 B6 B5 B4 B3 B2 AZ CJ CI CH CG CF CE CD CC CB CA).2.2.2.2.2.1]⟩,.int .i64 (f A2 A3 A8 A7 A6 A9 AB AA AD AC BK BJ BI BH BG BF BE BD BC BB BA B9 B8 B7 B6 B5 B4 B3 B2 AZ CJ CI CH CG CF CE CD CC CB CA).2.2.2.2.2.2]⟩,[])
 |_,_=>none
def Cz.sp (f:Int→Int→Int→Int→Int→(Int×Int×Int)):HSpec
 |[.pointer (some ⟨0,0,none⟩),.agg ⟨[.int .i64 A5,.int .i64 A4]⟩,.agg ⟨[.int .i64 AJ,.int .i64 AK]⟩],[.cs [.int .i64 s0_0] 61]=>some (true,.agg ⟨[.int .i64 (f s0_0 A5 A4 AJ AK).1,.int .i64 (f s0_0 A5 A4 AJ AK).2.1]⟩,[.cs [.int .i64 (f s0_0 A5 A4 AJ AK).2.2] 61])
 |_,_=>none
def Da.sp (f:Int→Int→Int→Int→Int→(Int×Int×Int)):HSpec
 |[.pointer (some ⟨0,0,none⟩),.agg ⟨[.int .i64 A5,.int .i64 A4]⟩,.agg ⟨[.int .i64 AJ,.int .i64 AK]⟩],[.cs [.int .i64 s0_0] 61]=>some (true,.agg ⟨[.int .i64 (f s0_0 A5 A4 AJ AK).1,.int .i64 (f s0_0 A5 A4 AJ AK).2.1]⟩,[.cs [.int .i64 (f s0_0 A5 A4 AJ AK).2.2] 61])
 |_,_=>none
def Ep.sp (f:Int→Int→Int→Int→(Int×Int×Int×Int×Int×Int×Int)):HSpec
 |[.agg ⟨[.int .i64 A2,.int .i64 A3]⟩,.agg ⟨[.int .i64 A5,.int .i64 A4]⟩],[]=>some (true,.tuple ⟨[.agg ⟨[.int .i64 (f A2 A3 A5 A4).1,.int .i64 (f A2 A3 A5 A4).2.1,.int .i64 (f A2 A3 A5 A4).2.2.1,.int .i64 (f A2 A3 A5 A4).2.2.2.1,.int .i64 (f A2 A3 A5 A4).2.2.2.2.1,.int .i64 (f A2 A3 A5 A4).2.2.2.2.2.1]⟩,.int .i64 (f A2 A3 A5 A4).2.2.2.2.2.2]⟩,[])
 |_,_=>none
def Ck.sp (f:Int→Int→(Bool)):HSpec
 |[.agg ⟨[.int .i64 A2,.int .i64 A3]⟩],[]=>some (true,.bool (f A2 A3),[])
 |_,_=>none
def Dt.sp (f:Int→Int→Int→Int→(Bool)):HSpec
 |[.agg ⟨[.int .i64 A2,.int .i64 A3]⟩,.agg ⟨[.int .i64 A5,.int .i64 A4]⟩],[]=>some (true,.bool (f A2 A3 A5 A4),[])
 |_,_=>none
def Ap.sp (f:Int→Int→(Int)):HSpec
 |[.int .i64 a0,.int .i64 a1],[]=>some (bif decide (a1<0) then i64.wrap (-a1) !=0 else a1 !=0,.int .i64 (f a0 a1),[])
 |_,_=>none
def Bg.sp (f:Int→Int→(Int)):HSpec
 |[.int .i64 a0,.int .i64 a1],[]=>some (bif decide (a1<0) then i64.wrap (-a1) !=0 else a1 !=0,.int .i64 (f a0 a1),[])
 |_,_=>none
def Db.sp (f:Int→Int→(Int×Int×Int)):HSpec
 |[.int .i64 a0,.int .i64 a1],[]=>some (true,.tuple ⟨[.agg ⟨[.int .i64 (f a0 a1).1,.int .i64 (f a0 a1).2.1]⟩,.int .i64 (f a0 a1).2.2]⟩,[])
 |_,_=>none
def Cl.sp (f:Int→Int→Int→Int→(Int×Int×Int)):HSpec
 |[.agg ⟨[.int .i64 A2,.int .i64 A3]⟩,.agg ⟨[.int .i64 A5,.int .i64 A4]⟩],[]=>some (true,.tuple ⟨[.agg ⟨[.int .i64 (f A2 A3 A5 A4).1,.int .i64 (f A2 A3 A5 A4).2.1]⟩,.int .i64 (f A2 A3 A5 A4).2.2]⟩,[])
 |_,_=>none
def Ec.sp (f:Int→Int→Int→Int→(Bool)):HSpec
 |[.agg ⟨[.int .i64 A2,.int .i64 A3]⟩,.agg ⟨[.int .i64 A5,.int .i64 A4]⟩],[]=>some (true,.bool (f A2 A3 A5 A4),[])
 |_,_=>none
def Ev.sp (AU:Int→Int→Int→Int→Int→(Int×Int×Int)) (AR:Int→Int→Int→Int→Int→(Int×Int×Int)) (AS:Int→Int→Int→Int→Int→(Int×Int×Int)) (AT:Int→Int→Int→Int→Int→(Int×Int×Int)):HSpec
 |[.pointer (some ⟨0,0,none⟩),.func (.func 50) ⟨[]⟩ ⟨[]⟩,.agg ⟨[.int .i64 AJ,.int .i64 AK]⟩,.agg ⟨[.int .i64 C6,.int .i64 C4]⟩],[.cs [.int .i64 s0_0] 61]=>some (true,.agg ⟨[.int .i64 (AU s0_0 AJ AK C6 C4).1,.int .i64 (AU s0_0 AJ AK C6 C4).2.1]⟩,[.cs [.int .i64 (AU s0_0 AJ AK C6 C4).2.2] 61])
 |[.pointer (some ⟨0,0,none⟩),.func (.func 46) ⟨[]⟩ ⟨[]⟩,.agg ⟨[.int .i64 AJ,.int .i64 AK]⟩,.agg ⟨[.int .i64 C6,.int .i64 C4]⟩],[.cs [.int .i64 s0_0] 61]=>some (true,.agg ⟨[.int .i64 (AR s0_0 AJ AK C6 C4).1,.int .i64 (AR s0_0 AJ AK C6 C4).2.1]⟩,[.cs [.int .i64 (AR s0_0 AJ AK C6 C4).2.2] 61])
 |[.pointer (some ⟨0,0,none⟩),.func (.func 47) ⟨[]⟩ ⟨[]⟩,.agg ⟨[.int .i64 AJ,.int .i64 AK]⟩,.agg ⟨[.int .i64 C6,.int .i64 C4]⟩],[.cs [.int .i64 s0_0] 61]=>some (true,.agg ⟨[.int .i64 (AS s0_0 AJ AK C6 C4).1,.int .i64 (AS s0_0 AJ AK C6 C4).2.1]⟩,[.cs [.int .i64 (AS s0_0 AJ AK C6 C4).2.2] 61])
 |[.pointer (some ⟨0,0,none⟩),.func (.func 54) ⟨[]⟩ ⟨[]⟩,.agg ⟨[.int .i64 AJ,.int .i64 AK]⟩,.agg ⟨[.int .i64 C6,.int .i64 C4]⟩],[.cs [.int .i64 s0_0] 61]=>some (true,.agg ⟨[.int .i64 (AT s0_0 AJ AK C6 C4).1,.int .i64 (AT s0_0 AJ AK C6 C4).2.1]⟩,[.cs [.int .i64 (AT s0_0 AJ AK C6 C4).2.2] 61])
 |_,_=>none
def Ff.sp (AW:Int→Int→Int→(Int×Int×Int)) (AY:Int→Int→Int→(Int×Int×Int)) (BQ:Int→Int→Int→(Int×Int×Int)):HSpec
 |[.pointer (some ⟨0,0,none⟩),.func (.func 23) ⟨[]⟩ ⟨[]⟩,.agg ⟨[.int .i64 AJ,.int .i64 AK]⟩],[.cs [.int .i64 s0_0] 76]=>some (true,.agg ⟨[.int .i64 (AW s0_0 AJ AK).1,.int .i64 (AW s0_0 AJ AK).2.1]⟩,[.cs [.int .i64 (AW s0_0 AJ AK).2.2] 76])
 |[.pointer (some ⟨0,0,none⟩),.func (.func 42) ⟨[]⟩ ⟨[]⟩,.agg ⟨[.int .i64 AJ,.int .i64 AK]⟩],[.cs [.int .i64 s0_0] 76]=>some (true,.agg ⟨[.int .i64 (AY s0_0 AJ AK).1,.int .i64 (AY s0_0 AJ AK).2.1]⟩,[.cs [.int .i64 (AY s0_0 AJ AK).2.2] 76])
 |[.pointer (some ⟨0,0,none⟩),.func (.func 43) ⟨[]⟩ ⟨[]⟩,.agg ⟨[.int .i64 AJ,.int .i64 AK]⟩],[.cs [.int .i64 s0_0] 76]=>some (true,.agg ⟨[.int .i64 (BQ s0_0 AJ AK).1,.int .i64 (BQ s0_0 AJ AK).2.1]⟩,[.cs [.int .i64 (BQ s0_0 AJ AK).2.2] 76])
 |_,_=>none
def Fe.sp (BR:Int→Int→Int→Int→Int→(Int×Int×Int)) (AX:Int→Int→Int→Int→Int→(Int×Int×Int)) (BM:Int→Int→Int→Int→Int→(Int×Int×Int)) (BP:Int→Int→Int→Int→Int→(Int×Int×Int)):HSpec
 |[.pointer (some ⟨0,0,none⟩),.func (.func 50) ⟨[]⟩ ⟨[]⟩,.agg ⟨[.int .i64 AJ,.int .i64 AK]⟩,.agg ⟨[.int .i64 C6,.int .i64 C4]⟩],[.cs [.int .i64 s0_0] 76]=>some (true,.agg ⟨[.int .i64 (BR s0_0 AJ AK C6 C4).1,.int .i64 (BR s0_0 AJ AK C6 C4).2.1]⟩,[.cs [.int .i64 (BR s0_0 AJ AK C6 C4).2.2] 76])
 |[.pointer (some ⟨0,0,none⟩),.func (.func 46) ⟨[]⟩ ⟨[]⟩,.agg ⟨[.int .i64 AJ,.int .i64 AK]⟩,.agg ⟨[.int .i64 C6,.int .i64 C4]⟩],[.cs [.int .i64 s0_0] 76]=>some (true,.agg ⟨[.int .i64 (AX s0_0 AJ AK C6 C4).1,.int .i64 (AX s0_0 AJ AK C6 C4).2.1]⟩,[.cs [.int .i64 (AX s0_0 AJ AK C6 C4).2.2] 76])
 |[.pointer (some ⟨0,0,none⟩),.func (.func 47) ⟨[]⟩ ⟨[]⟩,.agg ⟨[.int .i64 AJ,.int .i64 AK]⟩,.agg ⟨[.int .i64 C6,.int .i64 C4]⟩],[.cs [.int .i64 s0_0] 76]=>some (true,.agg ⟨[.int .i64 (BM s0_0 AJ AK C6 C4).1,.int .i64 (BM s0_0 AJ AK C6 C4).2.1]⟩,[.cs [.int .i64 (BM s0_0 AJ AK C6 C4).2.2] 76])
 |[.pointer (some ⟨0,0,none⟩),.func (.func 54) ⟨[]⟩ ⟨[]⟩,.agg ⟨[.int .i64 AJ,.int .i64 AK]⟩,.agg ⟨[.int .i64 C6,.int .i64 C4]⟩],[.cs [.int .i64 s0_0] 76]=>some (true,.agg ⟨[.int .i64 (BP s0_0 AJ AK C6 C4).1,.int .i64 (BP s0_0 AJ AK C6 C4).2.1]⟩,[.cs [.int .i64 (BP s0_0 AJ AK C6 C4).2.2] 76])
 |_,_=>none
def Gi.sp (C8:Int→Int→Int→(Int×Int×Int)) (CR:Int→Int→Int→(Int×Int×Int)):HSpec
 |[.pointer (some ⟨0,0,none⟩),.func (.func 23) ⟨[]⟩ ⟨[]⟩,.agg ⟨[.int .i64 AJ,.int .i64 AK]⟩],[.cs [.int .i64 s0_0] 61]=>some (true,.agg ⟨[.int .i64 (C8 s0_0 AJ AK).1,.int .i64 (C8 s0_0 AJ AK).2.1]⟩,[.cs [.int .i64 (C8 s0_0 AJ AK).2.2] 61])
 |[.pointer (some ⟨0,0,none⟩),.func (.func 42) ⟨[]⟩ ⟨[]⟩,.agg ⟨[.int .i64 AJ,.int .i64 AK]⟩],[.cs [.int .i64 s0_0] 61]=>some (true,.agg ⟨[.int .i64 (CR s0_0 AJ AK).1,.int .i64 (CR s0_0 AJ AK).2.1]⟩,[.cs [.int .i64 (CR s0_0 AJ AK).2.2] 61])
 |_,_=>none
end Go.Proofs.YtphlckkbihmlnaaGreatDoor.G
end
section
namespace Go.Proofs.YtphlckkbihmlnaaGreatDoor.G
open Go
theorem w64 {n:Int} (h: -9223372036854775808≤n) (h':n≤9223372036854775807):i64.wrap n=n:=by
 simp only [IntKind.wrap,IntKind.signed,IntKind.bits]
 simp only [Bool.true_and]
 split
 ·rename_i hc
  have:=of_decide_eq_true hc
  omega
 ·rename_i hc
  have:¬(n%2^64≥2^(64-1)):=fun h=>hc (decide_eq_true h)
  omega
theorem Em {a b:Int} (h:a≠b):(a !=b)=true:=by simp [h]
theorem Fa {a b:Int} (h:a≠b):(a==b)=false:=by simp [h]
theorem Ij {α:Type} (b:Bool) (x y:Option α):(bif b then x else y).isSome=bif b then x.isSome else y.isSome:=by cases b<;>rfl
theorem Hx (b:Bool):(bif b then true else true)=true:=by cases b<;>rfl
def V (a b:Int):Bool:=decide (-1073741824≤a∧a≤b∧b≤1073741824)
theorem Hf {a b:Int} :V a b=true↔ -1073741824≤a∧a≤b∧b≤1073741824:=by simp [V]
theorem V_not {a b:Int} :V a b=false↔¬(-1073741824≤a∧a≤b∧b≤1073741824):=by simp only [V,decide_eq_false_iff_not]
def chk (lo hi:Int):Int×Int×Int:=bif V lo hi then (lo,hi,0) else (0,0,3)
def cl (x y:Int):Int:= -((-x)/y)
def mn4 (x y z w:Int):Int:=min (min x y) (min z w)
def mx4 (x y z w:Int):Int:=max (max x y) (max z w)
def iadd (a b c d:Int):Int×Int×Int:=bif V a b&&V c d then chk (a+c) (b+d) else (0,0,1)
def isub (a b c d:Int):Int×Int×Int:=bif V a b&&V c d then chk (a-d) (b-c) else (0,0,1)
def imul (a b c d:Int):Int×Int×Int:=bif V a b&&V c d then chk (mn4 (a*c) (a*d) (b*c) (b*d)/16777216) (cl (mx4 (a*c) (a*d) (b*c) (b*d)) 16777216) else (0,0,1)
def pdiv (a b c d:Int):Int×Int×Int:=chk (min (a*16777216/c) (a*16777216/d)) (max (cl (b*16777216) c) (cl (b*16777216) d))
def idiv (a b c d:Int):Int×Int×Int:=bif V a b&&V c d then (if c≤0∧0≤d then (0,0,10) else if d<0 then pdiv (-b) (-a) (-d) (-c) else pdiv a b c d) else (0,0,1)
def isq (a b:Int):Int×Int×Int:=bif V a b then chk ((if a≤0∧0≤b then 0 else min (a*a) (b*b))/16777216) (cl (max (a*a) (b*b)) 16777216) else (0,0,1)
def cut (x:Int):Int:=max 0 (min 16777216 x)
theorem RA {x y A B:Int} (hA:0≤A) (hB:0≤B) (h1: -A≤x) (h2:x≤A) (h3: -B≤y) (h4:y≤B): -(A*B)≤x*y∧x*y≤A*B:=by
 have key:(x*y).natAbs≤A.natAbs*B.natAbs:=by
  rw [Int.natAbs_mul]
  exact Nat.mul_le_mul (by omega) (by omega)
 have h5:((A.natAbs*B.natAbs:Nat):Int)=A*B:=by
  rw [Int.natCast_mul,Int.natAbs_of_nonneg hA,Int.natAbs_of_nonneg hB]
 omega
theorem IO {x y:Int} (h1: -1073741824≤x) (h2:x≤1073741824) (h3: -1073741824≤y) (h4:y≤1073741824): -1152921504606846976≤x*y∧x*y≤1152921504606846976:=by
 have:=RA (A:=1073741824) (B:=1073741824) (by omega) (by omega) h1 h2 h3 h4
 omega
theorem lin {a c d y:Int} (h1:c≤y) (h2:y≤d):min (a*c) (a*d)≤a*y∧a*y≤max (a*c) (a*d):=by
 by_cases ha:0≤a
 ·have:=Int.mul_le_mul_of_nonneg_left h1 ha
  have:=Int.mul_le_mul_of_nonneg_left h2 ha
  omega
 ·have:=Int.mul_le_mul_of_nonpos_left (a:=a) (by omega) h1
  have:=Int.mul_le_mul_of_nonpos_left (a:=a) (by omega) h2
  omega
theorem lin' {a c d y:Int} (h1:c≤y) (h2:y≤d):min (c*a) (d*a)≤y*a∧y*a≤max (c*a) (d*a):=by
 rw [Int.mul_comm c,Int.mul_comm d,Int.mul_comm y]
 exact lin h1 h2
theorem mul_in {a b c d x y:Int} (h1:a≤x) (h2:x≤b) (h3:c≤y) (h4:y≤d):mn4 (a*c) (a*d) (b*c) (b*d)≤x*y∧x*y≤mx4 (a*c) (a*d) (b*c) (b*d):=by
 have e1:=lin' (a:=y) h1 h2
 have e2:=lin (a:=a) h3 h4
 have e3:=lin (a:=b) h3 h4
 simp only [mn4,mx4]
 omega
theorem HZ (x:Int):0≤x*x:=by
 by_cases h:0≤x
 ·exact Int.mul_nonneg h h
 ·have:=Int.mul_nonneg_of_nonpos_of_nonpos (a:=x) (b:=x) (by omega) (by omega)
  exact this
theorem Ic {x y:Int} (h: -y≤x) (h':x≤y):x*x≤y*y:=by
 have:=RA (A:=y) (B:=y) (by omega) (by omega) h h' h h'
 omega
theorem JI {x y k:Int} (hk:0<k) (h:x≤y):x/k≤y/k:=Int.ediv_le_ediv hk h
theorem MT {x y k:Int} (hk:0<k) (h:x≤y):cl x k≤cl y k:=by
 have:=Int.ediv_le_ediv hk (Int.neg_le_neg h)
 simp only [cl]
 omega
theorem L9 {x k:Int} (hk:0<k):x/k*k≤x∧x<x/k*k+k:=by
 have h1:=Int.emod_add_mul_ediv x k
 have h2:=Int.emod_nonneg x (show k≠0 by omega)
 have h3:=Int.emod_lt_of_pos x hk
 rw [Int.mul_comm] at h1
 omega
theorem cl_spec {x k:Int} (hk:0<k):x≤cl x k*k∧cl x k*k<x+k:=by
 have:=L9 (x:= -x) hk
 simp only [cl,Int.neg_mul]
 omega
theorem TF {x k:Int} (hk:0<k):x/k≤cl x k:=by
 have h1:=L9 (x:=x) hk
 have h2:=cl_spec (x:=x) hk
 exact Int.le_of_mul_le_mul_right (a:=k) (by omega) hk
theorem K8 {x y k:Int} (hk:0<k) (h:x≤y):x/k≤cl y k:=Int.le_trans (JI hk h) (TF hk)
theorem RE {x k q:Int} (hk:0<k):q≤x/k↔q*k≤x:=Int.le_ediv_iff_mul_le hk
theorem Ru {x k:Int} (hk:0<k) (h:0≤x):0≤x/k:=by
 have:=JI hk h
 simpa using this
theorem QG {lo hi:Int} (h1: -1073741824≤lo) (h2:lo≤hi) (h3:hi≤1073741824):chk lo hi=(lo,hi,0):=by
 simp only [chk,Hf.2 ⟨h1,h2,h3⟩,cond_true]
theorem chk_ok {lo hi a b:Int} (h:chk lo hi=(a,b,0)):lo=a∧hi=b∧ -1073741824≤a∧a≤b∧b≤1073741824:=by
 unfold chk at h
 cases hv:V lo hi with
 | true=>
  have:=Hf.1 hv
  simp only [hv,cond_true,zP,and_true] at h
  omega
 |false=>simp [hv] at h
theorem chk_eq (lo hi:Int):chk lo hi=(lo,hi,0)∧V lo hi=true∨chk lo hi=(0,0,3)∧V lo hi=false:=by
 unfold chk
 cases V lo hi<;>simp
theorem Iy {a b:Int} (hb:0<b) (h1: -4611686018427387904≤a) (h2:a≤4611686018427387904): -4611686018427387904≤a/b∧a/b≤4611686018427387904:=by
  constructor
  · rw [RE hb]
    have:(4611686018427387904:Int)*1≤4611686018427387904*b:=Int.mul_le_mul_of_nonneg_left (by omega) (by omega)
    omega
  · by_cases ha:0≤a
    · exact Int.le_trans (Int.ediv_le_self b ha) h2
    · have:=JI (x:=a) (y:=0) hb (by omega)
      have:(0:Int)/b=0:=Int.zero_ediv b
      omega
theorem mnE (x y:Int):(if y<x then y else x)=min x y:=by split<;>omega
theorem mxE (x y:Int):(if y>x then y else x)=max x y:=by split<;>omega
theorem Nx {a b a' b':Int} (h:a=a') (h':b=b'):chk a b=chk a' b':=by rw [h,h']
def kp (s:Int) (e:Int):Int:=bif s==0 then e else s
theorem kp0 (e:Int):kp 0 e=e:=rfl
theorem kpn {s:Int} (e:Int) (h:s≠0):kp s e=s:=by simp [kp,Fa h]
def bnd (r:Int×Int×Int) (k:Int→Int→Int×Int×Int):Int×Int×Int:=bif r.2.2 !=0 then (0,0,r.2.2) else k r.1 r.2.1
def fin (r:Int×Int×Int):Int×Int×Int:=bnd r fun x y=>(cut x,cut y,0)
def wn (a b k l:Int):Bool:=V a b&&(decide (k*16777216≤a)&&decide (b≤l*16777216))
def shr (p0 p1 q0 q1:Int):Int×Int×Int:=bnd (isub p0 p1 q0 q1) fun d0 d1=>bnd (iadd p0 p1 q0 q1) fun s0 s1=>bnd (idiv d0 d1 s0 s1) fun x0 x1=>fin (isq x0 x1)
def srf (a0 a1 a2 a3 a4 a5 a6 a7:Int):Bool:=wn a0 a1 0 1&&(wn a2 a3 0 1&&(wn a4 a5 1 4&&wn a6 a7 1 4))
def pol (a0 a1 a2 a3 a4 a5 a6 a7 x0 x1 y0 y1:Int):Int×Int×Int:=bif srf a0 a1 a2 a3 a4 a5 a6 a7 then bnd (imul a4 a5 x0 x1) (fun p0 p1=>bnd (imul a6 a7 y0 y1) fun q0 q1=>shr p0 p1 q0 q1) else (0,0,1)
def mean (r s:Int×Int×Int):Int×Int×Int:=bnd r fun p0 p1=>bnd s fun q0 q1=>bnd (iadd p0 p1 q0 q1) fun s0 s1=>fin (imul s0 s1 8388608 8388608)
def refl (a0 a1 a2 a3 a4 a5 a6 a7:Int):Int×Int×Int:=mean (pol a0 a1 a2 a3 a4 a5 a6 a7 a0 a1 a2 a3) (pol a0 a1 a2 a3 a4 a5 a6 a7 a2 a3 a0 a1)
def In (a b c d:Int):Prop:=c≤a∧a≤b∧b≤d
theorem op_v {a b c d:Int} {x:Int×Int×Int} {L H:Int} (h:(bif V a b&&V c d then x else (0,0,1))=(L,H,0)):V a b=true∧V c d=true:=by
 cases h1:V a b<;>cases h2:V c d<;>simp [h1,h2] at h ⊢
end Go.Proofs.YtphlckkbihmlnaaGreatDoor.G
end
