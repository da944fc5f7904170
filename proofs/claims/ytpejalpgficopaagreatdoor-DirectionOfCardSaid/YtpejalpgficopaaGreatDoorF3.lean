/- A part of what the law's proof leans on. PACKED BY pack.py of this repo. -/
import Derived.Test.YtpejalpgficopaaGreatDoorF2
set_option linter.unusedVariables false
set_option linter.unusedSimpArgs false
set_option linter.unusedSectionVars false
set_option linter.defProp false
set_option maxRecDepth 100000
open Go.IntKind (i64 u64 u32)
section
namespace RX
open Go Go.RowKit
def enum:List Blk→Nat→Heap
 |[],_=>[]
 |b::r,n=>(n,b)::enum r (n+1)
theorem IB:∀(l:List Blk) (n m:Nat),look (enum l n) m=if m<n then none else l[m-n]?
 |[],n,m=>by simp [enum,look]
 | b ::r,n,m=>by
  simp only [enum,look]
  cases h:Nat.beq n m with
  | true=>
   have:=zE h
   subst this
   simp
  | false=>
   have hne:n≠m:=fun e=>by subst e; simp at h
   simp only [cond_false,IB r (n+1) m]
   by_cases hlt:m<n
   ·simp [hlt,show m<n+1 from by omega]
   ·have:¬m<n+1:=by omega
    simp only [hlt,this,if_false]
    rw [show m-n=(m-(n+1))+1 from by omega,List.getElem?_cons_succ]
def Ij (H:Heap):Nat→Nat→Option (List Blk)
 |_,0=>some []
 | i,n+1=>match look H i,Ij H (i+1) n with
  |some b,some l=>some (b::l)
  |_,_=>none
theorem HJ {H:Heap} :∀ {n i:Nat} {l:List Blk},Ij H i n=some l→l.length=n∧∀(j:Nat) (b:Blk),l[j]? =some b→look H (i+j)=some b
 |0,i,l,h=>by simp [Ij] at h; subst h; simp
 | n + 1,i,l,h=>by
  simp only [Ij] at h
  split at h
  ·rename_i b r hb hr
   injection h with h; subst h
   obtain ⟨h1,h2⟩:=HJ hr
   refine ⟨by simp [h1],fun j c hj=> ?_⟩
   cases j with
   |zero=>simp at hj; subst hj; exact hb
   | succ j=>
    have:=h2 j c (by simpa using hj)
    rwa [show i+1+j=i+(j+1) from by omega] at this
  ·simp at h
def xfn (P:Program) (E:Env) (L:List (Nat×LSpec)) (n:Nat) (fn:Func) (vs:List Value) (bl:List Blk):Option (Value×List Blk):=
 Jn P E L (hs P E n).lf (hs P E n).cf fn vs (enum bl 0) bl.length fun v H _=>match Ij H 0 bl.length with|some l=>some (v,l)|none=>none
structure Told (P:Program) (E:Env) (L:List (Nat×LSpec)) (n:Nat) (fn:Func) (vs:List Value) (bl:List Blk) (v:Value) (bl':List Blk):Prop where
 run:xfn P E L n fn vs bl=some (v,bl')
 args:∀u∈vs,okV (fun m=>Nat.blt m bl.length) 8 u=true
 clo:Clo v
 blk:∀b∈bl',∀c∈b.cells,Clo c
theorem Oj {P:Program} {E:Env} {L:List (Nat×LSpec)} {N:Nat→Prop} (hE:EnvOk P E) (n:Nat) {f:FuncId} {fn:Func} (hf:P.funcs[f]? =some fn) (hn:fn.name≠ "runtime.NumGoroutine") (hb:fn.body.isSome=true) (hL:∀c,fn.body=some c→LsOkn P N L c) {s:HSpec}
  (h:∀vs bl v bl',s vs bl=some (true,v,bl')→Told P E L n fn vs bl v bl'∧N bl.length):SOK P f s:=by
 refine ⟨⟨fn,hf,hn,hb⟩,fun vs bl v bl' hs hcl g w hmem hinj htab hnt=> ?_⟩
 obtain ⟨⟨hrun,hargs,hcv,hcb⟩,hN⟩:=h vs bl v bl' hs
 have bnd:∀u∈vs,Bnd bl.length u:=fun u hu g g' e=>Ft (fun m hm=>e m (by simpa [Nat.blt_eq] using hm)) 8 u (hargs u hu)
 have lk:∀m b,look (enum bl 0) m=some b→bl[m]? =some b:=fun m b h=>by
  rw [IB] at h
  simpa using h
 have hr:HRel w (fun k=>∃i,i<bl.length∧k=g i) g (enum bl 0) bl.length w:=by
  refine ⟨fun m b hm=> ?_,fun m b hm=> ?_,fun m b hm=> ?_,fun m k b c hm hk e=> ?_,fun m b hm=> ?_,Keep.refl w _,htab,fun m b hm=>hnt m (List.getElem?_eq_some_iff.1 (lk m b hm)).1⟩
  ·exact (List.getElem?_eq_some_iff.1 (lk m b hm)).1
  ·exact fun c hc=>(hcl b (List.mem_of_getElem? (lk m b hm)) c hc).bnd _
  ·rw [hmem m b (lk m b hm),map_clo (hcl b (List.mem_of_getElem? (lk m b hm)))]
  ·exact hinj m k (List.getElem?_eq_some_iff.1 (lk m b hm)).1 (List.getElem?_eq_some_iff.1 (lk k c hk)).1 e
  ·exact .inr ⟨m,(List.getElem?_eq_some_iff.1 (lk m b hm)).1,rfl⟩
 refine (GG hE (Hj hE n) (Hk hE n) hf hL hN hrun hr bnd).mono fun e w' ⟨v',g',H',nx',he,hk,hag,hle,hr',hbv⟩=> ?_
 split at hk
 ·rename_i l hl
  simp only [zS,zP] at hk
  obtain ⟨rfl,rfl⟩:=hk
  obtain ⟨h1,h2⟩:=HJ hl
  have hlen:l.length=bl.length:=h1
  refine ⟨g,fun _ _=>rfl,by rw [he,hcv g',hcv g],fun i b hi=> ?_,fun i h3 h4=>by omega,fun i j h3 h4=>by omega,hr'.keep⟩
  have:=hr'.mem i b (by have:=h2 i b hi; rwa [Nat.zero_add] at this)
  have hlt:i<bl.length:=by rw [←h1]; exact (List.getElem?_eq_some_iff.1 hi).1
  rw [hag i hlt,map_clo (hcb b (List.mem_of_getElem? hi))] at this
  exact this
 ·simp at hk
theorem Dl {P:Program} {E:Env} {L:List (Nat×LSpec)} (hE:EnvOk P E) (n:Nat) {f:FuncId} {fn:Func} (hf:P.funcs[f]? =some fn) (hn:fn.name≠ "runtime.NumGoroutine") (hb:fn.body.isSome=true) (hL:∀c,fn.body=some c→LsOk P L c) {s:HSpec}
  (h:∀vs bl v bl',s vs bl=some (true,v,bl')→Told P E L n fn vs bl v bl'):SOK P f s:=
 Oj hE n hf hn hb hL fun vs bl v bl' hs=>⟨h vs bl v bl' hs,trivial⟩
def xfnN (P:Program) (E:Env) (L:List (Nat×LSpec)) (n:Nat) (fn:Func) (vs:List Value) (bl:List Blk) (rn:List Nat):Option (Value×List Blk):=
 Jn P E L (hs P E n).lf (hs P E n).cf fn vs (enum bl 0) bl.length fun v H _=>match Ij H 0 bl.length,getB H rn with|some l,some l2=>some (v,l++l2)|_,_=>none
def rho (m:Nat) (rn:List Nat) (i:Nat):Nat:=if i<m then i else rn.getD (i-m) 0
structure ToldN (P:Program) (E:Env) (L:List (Nat×LSpec)) (n:Nat) (fn:Func) (vs:List Value) (bl:List Blk) (v:Value) (bl':List Blk) (rn:List Nat):Prop where
 run:xfnN P E L n fn vs bl rn=some (ren (rho bl.length rn) v,bl')
 args:∀u∈vs,okV (fun m=>Nat.blt m bl.length) 8 u=true
 ok:okN bl'.length 8 v=true
 blk:∀b∈bl',∀c∈b.cells,Clo c
 nod:rn.Nodup
 big:∀x∈rn,bl.length≤x
theorem QL {P:Program} {E:Env} {L:List (Nat×LSpec)} {N:Nat→Prop} (hE:EnvOk P E) (n:Nat) {f:FuncId} {fn:Func} (hf:P.funcs[f]? =some fn) (hn:fn.name≠ "runtime.NumGoroutine") (hb:fn.body.isSome=true) (hL:∀c,fn.body=some c→LsOkn P N L c) {s:HSpec}
  (h:∀vs bl v bl',s vs bl=some (true,v,bl')→(∃rn,ToldN P E L n fn vs bl v bl' rn)∧N bl.length):SOK P f s:=by
 refine ⟨⟨fn,hf,hn,hb⟩,fun vs bl v bl' hs hcl g w hmem hinj htab hnt=> ?_⟩
 obtain ⟨⟨rn,hrun,hargs,hok,hcb,hnod,hbig⟩,hN⟩:=h vs bl v bl' hs
 have bnd:∀u∈vs,Bnd bl.length u:=fun u hu g g' e=>Ft (fun m hm=>e m (by simpa [Nat.blt_eq] using hm)) 8 u (hargs u hu)
 have lk:∀m b,look (enum bl 0) m=some b→bl[m]? =some b:=fun m b h=>by
  rw [IB] at h
  simpa using h
 have hr:HRel w (fun k=>∃i,i<bl.length∧k=g i) g (enum bl 0) bl.length w:=by
  refine ⟨fun m b hm=> ?_,fun m b hm=> ?_,fun m b hm=> ?_,fun m k b c hm hk e=> ?_,fun m b hm=> ?_,Keep.refl w _,htab,fun m b hm=>hnt m (List.getElem?_eq_some_iff.1 (lk m b hm)).1⟩
  ·exact (List.getElem?_eq_some_iff.1 (lk m b hm)).1
  ·exact fun c hc=>(hcl b (List.mem_of_getElem? (lk m b hm)) c hc).bnd _
  ·rw [hmem m b (lk m b hm),map_clo (hcl b (List.mem_of_getElem? (lk m b hm)))]
  ·exact hinj m k (List.getElem?_eq_some_iff.1 (lk m b hm)).1 (List.getElem?_eq_some_iff.1 (lk k c hk)).1 e
  ·exact .inr ⟨m,(List.getElem?_eq_some_iff.1 (lk m b hm)).1,rfl⟩
 refine (GG hE (Hj hE n) (Hk hE n) hf hL hN hrun hr bnd).mono fun e w' ⟨v',g',H',nx',he,hk,hag,hle,hr',hbv⟩=> ?_
 split at hk
 ·rename_i l l2 hl hl2
  simp only [zS,zP] at hk
  obtain ⟨rfl,rfl⟩:=hk
  obtain ⟨h1,h2⟩:=HJ hl
  obtain ⟨h3,h4⟩:=Hm hl2
  have hlook:∀i,bl.length≤i→i<(l++l2).length→∃x b,rn[i-bl.length]? =some x∧l2[i-bl.length]? =some b∧look H' x=some b∧rho bl.length rn i=x:=fun i hi hi2=>by
   have hi3:i-bl.length<l2.length:=by simp only [List.length_append] at hi2; omega
   obtain ⟨x,hx1,hx2⟩:=h4 _ _ (List.getElem?_eq_getElem hi3)
   refine ⟨x,_,hx1,List.getElem?_eq_getElem hi3,hx2,?_⟩
   unfold rho
   rw [if_neg (by omega),List.getD_eq_getElem?_getD,hx1]
   rfl
  refine ⟨fun i=>g' (rho bl.length rn i),fun i hi=> ?_,?_,fun i b hi=> ?_,fun i hi hi2=> ?_,fun i j hi hi2 hj hj2 e=> ?_,hr'.keep⟩
  ·show g' (rho bl.length rn i)=g i
   unfold rho
   rw [if_pos hi,hag i hi]
  ·rw [he,J3 (g:=g') (h:=rho bl.length rn) (k:=fun i=>g' (rho bl.length rn i)) (fun i _=>rfl) 8 v hok]
  ·have hb0:=hcb b (List.mem_of_getElem? hi)
   show w'.heap[g' (rho bl.length rn i)]? =_
   by_cases hlt:i<bl.length
   ·rw [List.getElem?_append_left (by omega)] at hi
    have:=hr'.mem i b (by have:=h2 i b hi; rwa [Nat.zero_add] at this)
    unfold rho
    rw [if_pos hlt,this,map_clo hb0]
   ·obtain ⟨x,b',hx1,hx2,hx3,hx4⟩:=hlook i (by omega) (List.getElem?_eq_some_iff.1 hi).1
    rw [List.getElem?_append_right (by omega),h1,hx2] at hi
    injection hi with hi
    subst hi
    rw [hx4,hr'.mem x _ hx3,map_clo hb0]
  ·obtain ⟨x,b',hx1,hx2,hx3,hx4⟩:=hlook i hi hi2
   show w.heap.size≤g' (rho bl.length rn i)
   rw [hx4]
   rcases hr'.own x b' hx3 with ho|⟨j,hj,ho⟩
   ·exact ho
   ·exfalso
    have hlj:∃b,look H' j=some b:=⟨l[j]'(by omega),by have:=h2 j _ (List.getElem?_eq_getElem (by omega)); rwa [Nat.zero_add] at this⟩
    obtain ⟨b2,hb2⟩:=hlj
    have:=hr'.inj x j b' b2 hx3 hb2 (by rw [ho,hag j hj])
    have:=hbig x (List.mem_of_getElem? hx1)
    omega
  ·obtain ⟨x,b1,hx1,hx2,hx3,hx4⟩:=hlook i hi hi2
   obtain ⟨y,b2,hy1,hy2,hy3,hy4⟩:=hlook j hj hj2
   simp only [hx4,hy4] at e
   have:=hr'.inj x y b1 b2 hx3 hy3 e
   subst this
   obtain ⟨p1,q1⟩:=List.getElem?_eq_some_iff.1 hx1
   obtain ⟨p2,q2⟩:=List.getElem?_eq_some_iff.1 hy1
   have:=Gx hnod p1 p2 (q1.trans q2.symm)
   omega
 ·simp at hk
theorem Fs {P:Program} {E:Env} {L:List (Nat×LSpec)} (hE:EnvOk P E) (n:Nat) {f:FuncId} {fn:Func} (hf:P.funcs[f]? =some fn) (hn:fn.name≠ "runtime.NumGoroutine") (hb:fn.body.isSome=true) (hL:∀c,fn.body=some c→LsOk P L c) {s:HSpec}
  (h:∀vs bl v bl',s vs bl=some (true,v,bl')→∃rn,ToldN P E L n fn vs bl v bl' rn):SOK P f s:=
 QL hE n hf hn hb hL fun vs bl v bl' hs=>⟨h vs bl v bl' hs,trivial⟩
theorem RN {P:Program} {f:FuncId} {s:HSpec} (h:SOK P f s) {vs:List Value} {v:Value} (hs:s vs []=some (true,v,[])) (hv:∀u∈vs,Clo u) (hcv:Clo v) (w:World) (ht:TabOk w):
  Calls P f ⟨vs⟩ w fun e w'=>e= .returned v∧Below w.heap.size w w':=by
 have:=h.run vs [] v [] hs (by simp) (fun n=>n) w (by simp) (by simp) ht (fun i hi=>absurd hi (by simp))
 rw [map_clo hv] at this
 refine this.mono fun e w' ⟨g2,_,he,_,_,_,hk⟩=>⟨by rw [he,hcv g2],⟨hk.os,hk.tape,hk.output,hk.size,fun k hk'=>hk.block k hk' (by simp)⟩⟩
theorem Ac {P:Program} :∀(f:Nat) (s:HSpec),look ([]:List (Nat×HSpec)) f=some s→SOK P f s:=fun f s h=>by simp [look] at h
theorem Aa {P:Program} {n:Nat} {s:HSpec} {l:List (Nat×HSpec)} (h:SOK P n s) (r:∀f s,look l f=some s→SOK P f s):∀(f:Nat) (s':HSpec),look ((n,s)::l) f=some s'→SOK P f s':=fun f s' h'=>by
 simp only [look] at h'
 cases hb:Nat.beq n f with
 | true=>
  have:=zE hb
  subst this
  rw [hb] at h'
  simp only [cond_true,zS] at h'
  subst h'
  exact h
 | false=>
  rw [hb] at h'
  exact r f s' h'
def FnOk (P:Program) (f:Nat) (fn:Func):Prop:=P.funcs[f]? =some fn∧fn.name≠ "runtime.NumGoroutine" ∧fn.body.isSome=true
theorem Aq {P:Program} :∀(f:Nat) (fn:Func),look ([]:List (Nat×Func)) f=some fn→FnOk P f fn:=fun f s h=>by simp [look] at h
theorem Bu {P:Program} {n:Nat} {s:Func} {l:List (Nat×Func)} (h:FnOk P n s) (r:∀f s,look l f=some s→FnOk P f s):∀(f:Nat) (s':Func),look ((n,s)::l) f=some s'→FnOk P f s':=fun f s' h'=>by
 simp only [look] at h'
 cases hb:Nat.beq n f with
 | true=>
  have:=zE hb
  subst this
  rw [hb] at h'
  simp only [cond_true,zS] at h'
  subst h'
  exact h
 | false=>
  rw [hb] at h'
  exact r f s' h'
theorem acond {α β:Type} (k:α→β) (b:Bool) (x y:α):k (bif b then x else y)=bif b then k x else k y:=by cases b<;>rfl
theorem bcond {α β:Type} (k:α→Option β) (b:Bool) (x y:Option α):(bif b then x else y).bind k=bif b then x.bind k else y.bind k:=by cases b<;>rfl
theorem Bg {l:List Blk} (h:l.all Blk.clo=true):∀b∈l,∀c∈b.cells,Clo c:=fun b hb=>Blk.clo_spec (by rw [List.all_eq_true] at h; exact h b hb)
theorem Bf {P:Program} {N:Nat→Prop} {fn:Func} :∀c,fn.body=some c→LsOkn P N [] c:=fun _ _=>Bs
theorem F2 {P:Program} {N:Nat→Prop} {fn:Func} {i:Nat} {b c:Code} {t:LSpec} (hb:fn.body=some b) (hl:(F8 b).filter (fun p=>Nat.beq i p.1)=[(i,c)]) (h:LOKn P N c t):∀c,fn.body=some c→LsOkn P N [(i,t)] c:=fun b' hb' p hp t' ht=>by
 rw [hb] at hb'
 injection hb' with hb'
 subst hb'
 simp only [look] at ht
 cases he:Nat.beq i p.1 with
 |false=>rw [he] at ht; cases ht
 | true=>
  rw [he] at ht
  simp only [cond_true,zS] at ht
  subst ht
  have hm:p∈(F8 b).filter (fun p=>Nat.beq i p.1):=List.mem_filter.2 ⟨hp,he⟩
  rw [hl,List.mem_singleton] at hm
  subst hm
  exact h
def Small (n:Nat) (S:St):Prop:=(∀v∈S.tmps,Bnd n v)∧(∀m b,look S.heap m=some b→m<n∧∀c∈b.cells,Bnd n c)
theorem SRel.small {W0:World} {out:Nat→Prop} {g0:Nat→Nat} {n0:Nat} {S:St} {a:Act} {w:World} (h:SRel W0 out g0 n0 S a w):n0≤S.nxt∧Small S.nxt S:=by
 obtain ⟨g,_,hn,tr,hr⟩:=h
 exact ⟨hn,tr.tb,fun m b hm=>⟨hr.dom m b hm,fun c hc=>hr.bnd m b hm c hc⟩⟩
theorem SRel.back {W0:World} {out:Nat→Prop} {g0:Nat→Nat} {n0 n:Nat} {S:St} {a:Act} {w:World} (h:SRel W0 out g0 n0 S a w) (hn:n0≤n) (hs:Small n S):SRel W0 out g0 n0 ⟨S.tmps,S.heap,n⟩ a w:=by
 obtain ⟨g,hg,_,tr,hr⟩:=h
 exact ⟨g,hg,hn,⟨tr.sz,tr.tm,tr.df,hs.1⟩,⟨fun m b hm=>(hs.2 m b hm).1,fun m b hm=>(hs.2 m b hm).2,hr.mem,hr.inj,hr.own,hr.keep,hr.tabs,hr.ntab⟩⟩
def Sub (N:Nat→Prop) (S S':St):Prop:=∀(W0:World) (out:Nat→Prop) (g0:Nat→Nat) (n0:Nat) (a:Act) (w:World),N n0→SRel W0 out g0 n0 S a w→SRel W0 out g0 n0 S' a w
structure Wk (T:List Value) (H:Heap) (n:Nat) (S:St):Prop where
 nx:S.nxt=n
 len:S.tmps.length=T.length
 tms:∀i,EX (nth S.tmps i)=false→nth S.tmps i=nth T i
 hp:∀m b,look S.heap m=some b→look H m=some b
 sm:Small n S
theorem SRel.wk {W0:World} {out:Nat→Prop} {g0:Nat→Nat} {n0 n:Nat} {S S':St} {a:Act} {w:World} (h:SRel W0 out g0 n0 S a w) (hn:n0≤n) (hw:Wk S.tmps S.heap n S'):SRel W0 out g0 n0 S' a w:=by
 obtain ⟨g,hg,_,tr,hr⟩:=h
 refine ⟨g,hg,by rw [hw.nx]; exact hn,⟨by rw [tr.sz,hw.len],fun i hi=> ?_,tr.df,by rw [hw.nx]; exact hw.sm.1⟩,?_⟩
 ·have:=hw.tms i hi
  rw [this] at hi ⊢
  exact tr.tm i hi
 ·rw [hw.nx]
  exact ⟨fun m b hm=>(hw.sm.2 m b hm).1,fun m b hm=>(hw.sm.2 m b hm).2,fun m b hm=>hr.mem m b (hw.hp m b hm),fun m k b c hm hk=>hr.inj m k b c (hw.hp m b hm) (hw.hp k c hk),fun m b hm=>hr.own m b (hw.hp m b hm),hr.keep,hr.tabs,fun m b hm=>hr.ntab m b (hw.hp m b hm)⟩
inductive Lpn (P:Program) (N:Nat→Prop) (E:Env) (L:List (Nat×LSpec)) (f:Nat) (c:Code):St→X→St→Prop
 |done {S:St} {x:X} {T:List Value} {H:Heap} :exec P E L (hs P E f).lf (hs P E f).cf c S (fun x S=>some (x,S.tmps,S.heap))=some (x,T,H)→(match x with| .normal=>False|_=>True)→(Small S.nxt S→Small S.nxt ⟨T,H,S.nxt⟩)→Lpn P N E L f c S x ⟨T,H,S.nxt⟩
 |more {S:St} {T:List Value} {H:Heap} {x:X} {S':St} :exec P E L (hs P E f).lf (hs P E f).cf c S (fun x S=>some (x,S.tmps,S.heap))=some (.normal,T,H)→(Small S.nxt S→Small S.nxt ⟨T,H,S.nxt⟩)→Lpn P N E L f c ⟨T,H,S.nxt⟩ x S'→Lpn P N E L f c S x S'
 |next {S S1:St} {x:X} {S':St} :exec P E L (hs P E f).lf (hs P E f).cf c S (fun x S=>some (x,S))=some (.normal,S1)→Lpn P N E L f c S1 x S'→Lpn P N E L f c S x S'
 |last {S S1:St} {x:X} :exec P E L (hs P E f).lf (hs P E f).cf c S (fun x S=>some (x,S))=some (x,S1)→(match x with| .normal=>False|_=>True)→Lpn P N E L f c S x S1
 |more' {S:St} {T:List Value} {H:Heap} {x:X} {S2 S':St} :exec P E L (hs P E f).lf (hs P E f).cf c S (fun x S=>some (x,S.tmps,S.heap))=some (.normal,T,H)→(Small S.nxt S→Wk T H S.nxt S2)→Lpn P N E L f c S2 x S'→Lpn P N E L f c S x S'
 |done' {S:St} {T:List Value} {H:Heap} {x:X} {S2:St} :exec P E L (hs P E f).lf (hs P E f).cf c S (fun x S=>some (x,S.tmps,S.heap))=some (x,T,H)→x≠ .normal→(Small S.nxt S→Wk T H S.nxt S2)→Lpn P N E L f c S x S2
 |weak {S S1:St} {x:X} {S':St} :Sub N S S1→Lpn P N E L f c S1 x S'→Lpn P N E L f c S x S'
 |weaken {S:St} {x:X} {S1 S':St} :Lpn P N E L f c S x S1→Sub N S1 S'→Lpn P N E L f c S x S'
abbrev Lp (P:Program) (E:Env) (L:List (Nat×LSpec)) (f:Nat) (c:Code):St→X→St→Prop:=Lpn P (fun _=>True) E L f c
theorem Lp.done {P:Program} {E:Env} {L:List (Nat×LSpec)} {f:Nat} {c:Code} {S:St} {x:X} {T:List Value} {H:Heap} :exec P E L (hs P E f).lf (hs P E f).cf c S (fun x S=>some (x,S.tmps,S.heap))=some (x,T,H)→(match x with| .normal=>False|_=>True)→(Small S.nxt S→Small S.nxt ⟨T,H,S.nxt⟩)→Lp P E L f c S x ⟨T,H,S.nxt⟩:=Lpn.done
theorem Lp.more {P:Program} {E:Env} {L:List (Nat×LSpec)} {f:Nat} {c:Code} {S:St} {T:List Value} {H:Heap} {x:X} {S':St} :exec P E L (hs P E f).lf (hs P E f).cf c S (fun x S=>some (x,S.tmps,S.heap))=some (.normal,T,H)→(Small S.nxt S→Small S.nxt ⟨T,H,S.nxt⟩)→Lp P E L f c ⟨T,H,S.nxt⟩ x S'→Lp P E L f c S x S':=Lpn.more
theorem Po {P:Program} {N:Nat→Prop} {E:Env} (hE:EnvOk P E) {L:List (Nat×LSpec)} {f:Nat} {c:Code} (hL:LsOkn P N L c) {S:St} {x:X} {S':St} (h:Lpn P N E L f c S x S')
  {W0:World} {out:Nat→Prop} {g0:Nat→Nat} {n0:Nat} (hN:N n0) {Q:Exit→Act→World→Prop} (hQ:∀a' w',SRel W0 out g0 n0 S' a' w'→Q x.to a' w'):
  ∃n,∀(a:Act) (w:World),SRel W0 out g0 n0 S a w→Code.rounds P c Q n a w:=by
 induction h with
 | @done S x T H he hx hs=>
  refine ⟨1,fun a w hr=> ?_⟩
  rw [rounds_succ]
  obtain ⟨hn,hsm⟩:=hr.small
  refine FE hE (Hj hE f) (Hk hE f) c hL S _ _ he W0 out g0 n0 a w _ hN hr fun y U a' w' hy ht=> ?_
  simp only [zS,zP] at hy
  obtain ⟨rfl,rfl,rfl⟩:=hy
  have:=hQ a' w' (ht.back hn (hs hsm))
  cases y with
  |normal=>exact hx.elim
  |exit i=>exact this
  |ret=>exact this
 | @more S T H x S' he hs _ ih=>
  obtain ⟨n,hn⟩:=ih hQ
  refine ⟨n+1,fun a w hr=> ?_⟩
  rw [rounds_succ]
  obtain ⟨hn',hsm⟩:=hr.small
  refine FE hE (Hj hE f) (Hk hE f) c hL S _ _ he W0 out g0 n0 a w _ hN hr fun y U a' w' hy ht=> ?_
  simp only [zS,zP] at hy
  obtain ⟨rfl,rfl,rfl⟩:=hy
  exact hn a' w' (ht.back hn' (hs hsm))
 | @next S S1 x S' he _ ih=>
  obtain ⟨n,hn⟩:=ih hQ
  refine ⟨n+1,fun a w hr=> ?_⟩
  rw [rounds_succ]
  refine FE hE (Hj hE f) (Hk hE f) c hL S _ _ he W0 out g0 n0 a w _ hN hr fun y U a' w' hy ht=> ?_
  simp only [zS,zP] at hy
  obtain ⟨rfl,rfl⟩:=hy
  exact hn a' w' ht
 | @last S S1 x he hx=>
  refine ⟨1,fun a w hr=> ?_⟩
  rw [rounds_succ]
  refine FE hE (Hj hE f) (Hk hE f) c hL S _ _ he W0 out g0 n0 a w _ hN hr fun y U a' w' hy ht=> ?_
  simp only [zS,zP] at hy
  obtain ⟨rfl,rfl⟩:=hy
  have:=hQ a' w' ht
  cases y with
  |normal=>exact hx.elim
  |exit i=>exact this
  |ret=>exact this
 | @more' S T H x S2 S' he hs _ ih=>
  obtain ⟨n,hn⟩:=ih hQ
  refine ⟨n+1,fun a w hr=> ?_⟩
  rw [rounds_succ]
  obtain ⟨hn',hsm⟩:=hr.small
  refine FE hE (Hj hE f) (Hk hE f) c hL S _ _ he W0 out g0 n0 a w _ hN hr fun y U a' w' hy ht=> ?_
  simp only [zS,zP] at hy
  obtain ⟨rfl,rfl,rfl⟩:=hy
  exact hn a' w' (ht.wk hn' (hs hsm))
 | @done' S T H x S2 he hx hs=>
  refine ⟨1,fun a w hr=> ?_⟩
  rw [rounds_succ]
  obtain ⟨hn,hsm⟩:=hr.small
  refine FE hE (Hj hE f) (Hk hE f) c hL S _ _ he W0 out g0 n0 a w _ hN hr fun y U a' w' hy ht=> ?_
  simp only [zS,zP] at hy
  obtain ⟨rfl,rfl,rfl⟩:=hy
  have:=hQ a' w' (ht.wk hn (hs hsm))
  cases y with
  |normal=>exact absurd rfl hx
  |exit i=>exact this
  |ret=>exact this
 | @weak S S1 x S' hs _ ih=>
  obtain ⟨n,hn⟩:=ih hQ
  exact ⟨n,fun a w hr=>hn a w (hs W0 out g0 n0 a w hN hr)⟩
 | @weaken S x S1 S' _ hs ih=>exact ih fun a' w' hr=>hQ a' w' (hs W0 out g0 n0 a' w' hN hr)
theorem Small.of {n:Nat} {S:St} (h:Small n S) {T:List Value} (ht:∀v∈T,Clo v∨v∈S.tmps):Small n ⟨T,S.heap,n⟩:=
 ⟨fun v hv=>(ht v hv).elim (fun c=>c.bnd n) (fun c=>h.1 v c),h.2⟩
def Ay (fn:Func) (i:Nat):Code:=match fn.body with
 |some b=>(match look (F8 b) i with|some c=>c|none=> .skip)
 |none=> .skip
theorem lok_ofn {P:Program} {N:Nat→Prop} {E:Env} (hE:EnvOk P E) {L:List (Nat×LSpec)} {f:Nat} {c:Code} {t:LSpec} (hc:LsOkn P N L c) (h:∀S lt x S',t S=some lt→lt.at=some (x,S')→Lpn P N E L f c S x S'):LOKn P N c t:=fun S lt x S' ht hat W0 out g0 n0 a w Q hN hr hQ=>by
 obtain ⟨n,hn⟩:=Po hE hc (h S lt x S' ht hat) hN (Q:=Q) hQ
 exact wp_loop_rounds n (hn a w hr)
theorem Qk {P:Program} {E:Env} (hE:EnvOk P E) {L:List (Nat×LSpec)} {f:Nat} {c:Code} {t:LSpec1} (hc:LsOk P L c) (h:∀S x S',t S=some (true,x,S')→Lp P E L f c S x S'):LOK P c (one1 t):=by
 refine lok_ofn (f:=f) hE hc fun S lt x S' ht hat=> ?_
 unfold one1 at ht
 split at ht
 ·rename_i need y U hts
  injection ht with ht
  subst ht
  cases need with
  |false=>cases hat
  | true=>
   simp only [LT.at,cond_true,zS,zP] at hat
   obtain ⟨rfl,rfl⟩:=hat
   exact h _ _ _ hts
 ·cases ht
theorem Q5 {P:Program} {E:Env} {L:List (Nat×LSpec)} (hE:EnvOk P E) (n:Nat) {f:FuncId} {fn:Func} (hf:P.funcs[f]? =some fn) (hn:fn.name≠ "runtime.NumGoroutine") (hb:fn.body.isSome=true) (hL:∀c,fn.body=some c→LsOk P L c) {vs:List Value} {v:Value} (h:xfn P E L n fn vs []=some (v,[]))
  (ha:∀u∈vs,okV (fun m=>Nat.blt m 0) 8 u=true) (hv:Clo v) (w:World) (htab:TabOk w):Calls P f ⟨vs⟩ w fun e w'=>e= .returned v∧Below w.heap.size w w':=by
 have hs:SOK P f (fun us bl=>match bl with|[]=>(match Classical.propDecidable (us=vs) with| .isTrue _=>some (true,v,[])| .isFalse _=>none)|_=>none):=by
  refine Dl hE n hf hn hb hL fun us bl u bl' hh=> ?_
  split at hh
  ·split at hh
   ·rename_i e _
    subst e
    simp only [zS,zP,true_and] at hh
    obtain ⟨rfl,rfl⟩:=hh
    exact ⟨h,by simpa using ha,hv,by simp⟩
   ·cases hh
  ·cases hh
 refine RN hs (vs:=vs) (v:=v) ?_ (fun u hu=> ?_) hv w htab
 ·simp only
  split
  ·rfl
  ·rename_i e _
   exact absurd rfl e
 ·intro g
  have:=Ft (p:=fun m=>Nat.blt m 0) (g:=g) (g':=fun n=>n) (fun n hn=>by simp [Nat.blt] at hn) 8 u (ha u hu)
  rw [this]
  have key:∀(k:Nat) (x:Value),okV (fun m=>Nat.blt m 0) k x=true→ren (fun n=>n) x=x:=by
   intro k
   induction k with
   |zero=>intro x hx; simp [okV] at hx
   | succ k ih=>
    have hl:∀l:List Value,l.all (okV (fun m=>Nat.blt m 0) k)=true→l.map (ren fun n=>n)=l:=fun l hl=>by
     rw [List.all_eq_true] at hl
     calc l.map (ren fun n=>n)=l.map id:=List.map_congr_left fun x hx=>ih x (hl x hx)
      _=l:=by simp
    intro x hx
    unfold okV at hx
    split at hx
    any_goals simp [ren]
    ·exact absurd hx (by simp [Nat.blt])
    ·exact absurd hx (by simp [Nat.blt])
    any_goals rw [FR]
    any_goals exact hl _ hx
    ·simp only [zB] at hx
     rw [FR]
     exact ⟨hl _ hx.1,hl _ hx.2⟩
    ·exact ih _ hx
    ·simp at hx
  exact key 8 u (ha u hu)
end RX
end
section
namespace Go.Proofs.YtpejalpgficopaaGreatDoor.G
open Go Go.Proofs Go.RowKit RX
theorem Aj:Tryz.prog.follows .mixedOrders=true:=by kernel_rfl
def direction_Print.sp (f:Int→Int→Int→Int→Int→Int→(ByteArray×Int)):HSpec
 |[.agg ⟨[.int .i64 A7,.int .i64 AA,.int .i64 AG,.int .i64 AF,.int .i64 AE,.int .i64 AD]⟩],[]=>some (true,.tuple ⟨[.string (f A7 AA AG AF AE AD).1,.int .i64 (f A7 AA AG AF AE AD).2]⟩,[])
 |_,_=>none
def culetref28_Print.sp (f:Int→Int→Int→Int→Int→Int→(ByteArray×Int)):HSpec
 |[.agg ⟨[.int .i64 A7,.int .i64 AA,.int .i64 AG,.int .i64 AF,.int .i64 AE,.int .i64 AD]⟩],[]=>some (true,.tuple ⟨[.string (f A7 AA AG AF AE AD).1,.int .i64 (f A7 AA AG AF AE AD).2]⟩,[])
 |_,_=>none
def Bv.sp (f:Int→Int→Int→Int→Int→Int→Int→(Int×Int×Int×Int×Int×Int×Int×Int)):HSpec
 |[.pointer (some ⟨0,0,none⟩),.agg ⟨[.int .i64 AC,.int .i64 AB,.int .i64 AM,.int .i64 AL,.int .i64 AQ,.int .i64 AP]⟩],[.cs [.int .i64 s0_0] 98]=>some (true,.tuple ⟨[.agg ⟨[.int .i64 (f s0_0 AC AB AM AL AQ AP).1,.int .i64 (f s0_0 AC AB AM AL AQ AP).2.1,.int .i64 (f s0_0 AC AB AM AL AQ AP).2.2.1,.int .i64 (f s0_0 AC AB AM AL AQ AP).2.2.2.1,.int .i64 (f s0_0 AC AB AM AL AQ AP).2.2.2.2.1,.int .i64 (f s0_0 AC AB AM AL AQ AP).2.2.2.2.2.1]⟩,.int .i64 (f s0_0 AC AB AM AL AQ AP).2.2.2.2.2.2.1]⟩,[.cs [.int .i64 (f s0_0 AC AB AM AL AQ AP).2.2.2.2.2.2.2] 98])
 |_,_=>none
def Ah.sp (f:Int→Int→(Bool)):HSpec
 |[.agg ⟨[.int .i64 A7,.int .i64 AA]⟩],[]=>some (true,.bool (f A7 AA),[])
 |_,_=>none
def Au.sp (f:Int→Int→Int→Int→(Int×Int×Int)):HSpec
 |[.pointer (some ⟨0,0,none⟩),.agg ⟨[.int .i64 AC,.int .i64 AB]⟩,.int .i64 a2],[.cs [.int .i64 s0_0] 98]=>some (true,.agg ⟨[.int .i64 (f s0_0 AC AB a2).1,.int .i64 (f s0_0 AC AB a2).2.1]⟩,[.cs [.int .i64 (f s0_0 AC AB a2).2.2] 98])
 |_,_=>none
def Bc.sp (f:Int→Int→(Int×Int×Int)):HSpec
 |[.int .i64 a0,.int .i64 a1],[]=>some (true,.tuple ⟨[.agg ⟨[.int .i64 (f a0 a1).1,.int .i64 (f a0 a1).2.1]⟩,.int .i64 (f a0 a1).2.2]⟩,[])
 |_,_=>none
def As.sp (f:Int→Int→(Int)):HSpec
 |[.int .i64 a0,.int .i64 a1],[]=>some (a1 !=0,.int .i64 (f a0 a1),[])
 |_,_=>none
def Bb.sp (f:Int→Int→(Int)):HSpec
 |[.int .i64 a0,.int .i64 a1],[]=>some (a1 !=0,.int .i64 (f a0 a1),[])
 |_,_=>none
def Bn.sp (f:Int→Int→(Int×Int×Int)):HSpec
 |[.agg ⟨[.int .i64 A7,.int .i64 AA]⟩],[]=>some (true,.tuple ⟨[.agg ⟨[.int .i64 (f A7 AA).1,.int .i64 (f A7 AA).2.1]⟩,.int .i64 (f A7 AA).2.2]⟩,[])
 |_,_=>none
def Cs.sp (f:Int→Int→(Int×Int×Int)):HSpec
 |[.agg ⟨[.int .i64 A7,.int .i64 AA]⟩],[]=>some (true,.tuple ⟨[.agg ⟨[.int .i64 (f A7 AA).1,.int .i64 (f A7 AA).2.1]⟩,.int .i64 (f A7 AA).2.2]⟩,[])
 |_,_=>none
def Cr.sp (f:Int→Int→Int→Int→(Int×Int×Int)):HSpec
 |[.agg ⟨[.int .i64 A7,.int .i64 AA]⟩,.agg ⟨[.int .i64 AC,.int .i64 AB]⟩],[]=>some (true,.tuple ⟨[.agg ⟨[.int .i64 (f A7 AA AC AB).1,.int .i64 (f A7 AA AC AB).2.1]⟩,.int .i64 (f A7 AA AC AB).2.2]⟩,[])
 |_,_=>none
def Bt.sp (f:Int→Int→Int→Int→(Int×Int×Int)):HSpec
 |[.agg ⟨[.int .i64 A7,.int .i64 AA]⟩,.agg ⟨[.int .i64 AC,.int .i64 AB]⟩],[]=>some (true,.tuple ⟨[.agg ⟨[.int .i64 (f A7 AA AC AB).1,.int .i64 (f A7 AA AC AB).2.1]⟩,.int .i64 (f A7 AA AC AB).2.2]⟩,[])
 |_,_=>none
def Cq.sp (f:Int→Int→Int→Int→(Int×Int×Int)):HSpec
 |[.agg ⟨[.int .i64 A7,.int .i64 AA]⟩,.agg ⟨[.int .i64 AC,.int .i64 AB]⟩],[]=>some (true,.tuple ⟨[.agg ⟨[.int .i64 (f A7 AA AC AB).1,.int .i64 (f A7 AA AC AB).2.1]⟩,.int .i64 (f A7 AA AC AB).2.2]⟩,[])
 |_,_=>none
def Bq.sp (f:Int→Int→Int→Int→Int→(Int×Int×Int)):HSpec
 |[.pointer (some ⟨0,0,none⟩),.agg ⟨[.int .i64 AC,.int .i64 AB]⟩,.agg ⟨[.int .i64 AV,.int .i64 AU]⟩],[.cs [.int .i64 s0_0] 98]=>some (true,.agg ⟨[.int .i64 (f s0_0 AC AB AV AU).1,.int .i64 (f s0_0 AC AB AV AU).2.1]⟩,[.cs [.int .i64 (f s0_0 AC AB AV AU).2.2] 98])
 |_,_=>none
def Bp.sp (f:Int→Int→Int→Int→Int→(Int×Int×Int)):HSpec
 |[.pointer (some ⟨0,0,none⟩),.agg ⟨[.int .i64 AC,.int .i64 AB]⟩,.agg ⟨[.int .i64 AV,.int .i64 AU]⟩],[.cs [.int .i64 s0_0] 98]=>some (true,.agg ⟨[.int .i64 (f s0_0 AC AB AV AU).1,.int .i64 (f s0_0 AC AB AV AU).2.1]⟩,[.cs [.int .i64 (f s0_0 AC AB AV AU).2.2] 98])
 |_,_=>none
def Cm.sp (f:Int→Int→Int→Int→Int→(Int×Int×Int)):HSpec
 |[.pointer (some ⟨0,0,none⟩),.agg ⟨[.int .i64 AC,.int .i64 AB]⟩,.agg ⟨[.int .i64 AV,.int .i64 AU]⟩],[.cs [.int .i64 s0_0] 98]=>some (true,.agg ⟨[.int .i64 (f s0_0 AC AB AV AU).1,.int .i64 (f s0_0 AC AB AV AU).2.1]⟩,[.cs [.int .i64 (f s0_0 AC AB AV AU).2.2] 98])
 |_,_=>none
def Dz.sp (f:Int→Int→Int→Int→(Int×Int×Int×Int×Int×Int×Int)):HSpec
 |[.agg ⟨[.int .i64 A7,.int .i64 AA]⟩,.agg ⟨[.int .i64 AC,.int .i64 AB]⟩],[]=>some (true,.tuple ⟨[.agg ⟨[.int .i64 (f A7 AA AC AB).1,.int .i64 (f A7 AA AC AB).2.1,.int .i64 (f A7 AA AC AB).2.2.1,.int .i64 (f A7 AA AC AB).2.2.2.1,.int .i64 (f A7 AA AC AB).2.2.2.2.1,.int .i64 (f A7 AA AC AB).2.2.2.2.2.1]⟩,.int .i64 (f A7 AA AC AB).2.2.2.2.2.2]⟩,[])
 |_,_=>none
def Bo.sp (f:Int→Int→Int→Int→Int→Int→(Bool)):HSpec
 |[.agg ⟨[.int .i64 A7,.int .i64 AA,.int .i64 AG,.int .i64 AF,.int .i64 AE,.int .i64 AD]⟩],[]=>some (true,.bool (f A7 AA AG AF AE AD),[])
 |_,_=>none
def Cg.sp (f:Int→Int→Int→(Int×Int×Int×Int)):HSpec
 |[.pointer (some ⟨0,0,none⟩),.agg ⟨[.int .i64 AC,.int .i64 AB]⟩],[.cs [.int .i64 s0_0] 98]=>some (true,.tuple ⟨[.agg ⟨[.int .i64 (f s0_0 AC AB).1,.int .i64 (f s0_0 AC AB).2.1]⟩,.int .i64 (f s0_0 AC AB).2.2.1]⟩,[.cs [.int .i64 (f s0_0 AC AB).2.2.2] 98])
 |_,_=>none
def Ci.sp (f:Int→Int→Int→Int→Int→Int→(Int×Int×Int)):HSpec
 |[.agg ⟨[.int .i64 A7,.int .i64 AA,.int .i64 AG,.int .i64 AF,.int .i64 AE,.int .i64 AD]⟩],[]=>some (true,.tuple ⟨[.agg ⟨[.int .i64 (f A7 AA AG AF AE AD).1,.int .i64 (f A7 AA AG AF AE AD).2.1]⟩,.int .i64 (f A7 AA AG AF AE AD).2.2]⟩,[])
 |_,_=>none
def Df.sp (f:Int→Int→Int→Int→Int→Int→(Int×Int×Int×Int×Int×Int)):HSpec
 |[.agg ⟨[.int .i64 A7,.int .i64 AA,.int .i64 AG,.int .i64 AF,.int .i64 AE,.int .i64 AD]⟩],[]=>some (true,.agg ⟨[.int .i64 (f A7 AA AG AF AE AD).1,.int .i64 (f A7 AA AG AF AE AD).2.1,.int .i64 (f A7 AA AG AF AE AD).2.2.1,.int .i64 (f A7 AA AG AF AE AD).2.2.2.1,.int .i64 (f A7 AA AG AF AE AD).2.2.2.2.1,.int .i64 (f A7 AA AG AF AE AD).2.2.2.2.2]⟩,[])
 |_,_=>none
def Ad.sp (f:Int→Int→(Bool)):HSpec
 |[.agg ⟨[.int .i64 A7,.int .i64 AA]⟩],[]=>some (true,.bool (f A7 AA),[])
 |_,_=>none
def Bi.sp (f:Int→Int→Int→Int→Int→Int→(Bool)):HSpec
 |[.agg ⟨[.int .i64 A7,.int .i64 AA,.int .i64 AG,.int .i64 AF,.int .i64 AE,.int .i64 AD]⟩],[]=>some (true,.bool (f A7 AA AG AF AE AD),[])
 |_,_=>none
def Dq.sp (f:Int→Int→Int→Int→Int→Int→(Int×Int×Int×Int×Int×Int×Int)):HSpec
 |[.agg ⟨[.int .i64 A7,.int .i64 AA,.int .i64 AG,.int .i64 AF,.int .i64 AE,.int .i64 AD]⟩],[]=>some (true,.tuple ⟨[.agg ⟨[.int .i64 (f A7 AA AG AF AE AD).1,.int .i64 (f A7 AA AG AF AE AD).2.1,.int .i64 (f A7 AA AG AF AE AD).2.2.1,.int .i64 (f A7 AA AG AF AE AD).2.2.2.1,.int .i64 (f A7 AA AG AF AE AD).2.2.2.2.1,.int .i64 (f A7 AA AG AF AE AD).2.2.2.2.2.1]⟩,.int .i64 (f A7 AA AG AF AE AD).2.2.2.2.2.2]⟩,[])
 |_,_=>none
def Ao.sp (f:Int→Int→Int→Int→(Int×Int×Int)):HSpec
 |[.pointer (some ⟨0,0,none⟩),.agg ⟨[.int .i64 AC,.int .i64 AB]⟩,.int .i64 a2],[.cs [.int .i64 s0_0] 106]=>some (true,.agg ⟨[.int .i64 (f s0_0 AC AB a2).1,.int .i64 (f s0_0 AC AB a2).2.1]⟩,[.cs [.int .i64 (f s0_0 AC AB a2).2.2] 106])
 |_,_=>none
def Br.sp (f:Int→Int→Int→Int→(Bool)):HSpec
 |[.agg ⟨[.int .i64 A7,.int .i64 AA]⟩,.agg ⟨[.int .i64 AC,.int .i64 AB]⟩],[]=>some (true,.bool (f A7 AA AC AB),[])
 |_,_=>none
def An.sp (f:Int→Int→(Int×Int×Int)):HSpec
 |[.int .i64 a0,.int .i64 a1],[]=>some (true,.tuple ⟨[.agg ⟨[.int .i64 (f a0 a1).1,.int .i64 (f a0 a1).2.1]⟩,.int .i64 (f a0 a1).2.2]⟩,[])
 |_,_=>none
def Ds.sp (f:Int→Int→Int→Int→(Int×Int×Int)):HSpec
 |[.agg ⟨[.int .i64 A7,.int .i64 AA]⟩,.agg ⟨[.int .i64 AC,.int .i64 AB]⟩],[]=>some (true,.tuple ⟨[.agg ⟨[.int .i64 (f A7 AA AC AB).1,.int .i64 (f A7 AA AC AB).2.1]⟩,.int .i64 (f A7 AA AC AB).2.2]⟩,[])
 |_,_=>none
def Bl.sp (f:Int→Int→Int→Int→Int→(Int×Int×Int)):HSpec
 |[.pointer (some ⟨0,0,none⟩),.agg ⟨[.int .i64 AC,.int .i64 AB]⟩,.agg ⟨[.int .i64 AV,.int .i64 AU]⟩],[.cs [.int .i64 s0_0] 106]=>some (true,.agg ⟨[.int .i64 (f s0_0 AC AB AV AU).1,.int .i64 (f s0_0 AC AB AV AU).2.1]⟩,[.cs [.int .i64 (f s0_0 AC AB AV AU).2.2] 106])
 |_,_=>none
def Bj.sp (f:Int→Int→Int→Int→Int→Int→Int→(Int×Int×Int×Int×Int×Int×Int×Int)):HSpec
 |[.pointer (some ⟨0,0,none⟩),.agg ⟨[.int .i64 AC,.int .i64 AB,.int .i64 AM,.int .i64 AL,.int .i64 AQ,.int .i64 AP]⟩],[.cs [.int .i64 s0_0] 106]=>some (true,.tuple ⟨[.agg ⟨[.int .i64 (f s0_0 AC AB AM AL AQ AP).1,.int .i64 (f s0_0 AC AB AM AL AQ AP).2.1,.int .i64 (f s0_0 AC AB AM AL AQ AP).2.2.1,.int .i64 (f s0_0 AC AB AM AL AQ AP).2.2.2.1,.int .i64 (f s0_0 AC AB AM AL AQ AP).2.2.2.2.1,.int .i64 (f s0_0 AC AB AM AL AQ AP).2.2.2.2.2.1]⟩,.int .i64 (f s0_0 AC AB AM AL AQ AP).2.2.2.2.2.2.1]⟩,[.cs [.int .i64 (f s0_0 AC AB AM AL AQ AP).2.2.2.2.2.2.2] 106])
 |_,_=>none
def Dr.sp (f:Int→Int→Int→Int→(Int×Int×Int)):HSpec
 |[.agg ⟨[.int .i64 A7,.int .i64 AA]⟩,.agg ⟨[.int .i64 AC,.int .i64 AB]⟩],[]=>some (true,.tuple ⟨[.agg ⟨[.int .i64 (f A7 AA AC AB).1,.int .i64 (f A7 AA AC AB).2.1]⟩,.int .i64 (f A7 AA AC AB).2.2]⟩,[])
 |_,_=>none
def Cf.sp (f:Int→Int→Int→Int→Int→(Int×Int×Int)):HSpec
 |[.pointer (some ⟨0,0,none⟩),.agg ⟨[.int .i64 AC,.int .i64 AB]⟩,.agg ⟨[.int .i64 AV,.int .i64 AU]⟩],[.cs [.int .i64 s0_0] 106]=>some (true,.agg ⟨[.int .i64 (f s0_0 AC AB AV AU).1,.int .i64 (f s0_0 AC AB AV AU).2.1]⟩,[.cs [.int .i64 (f s0_0 AC AB AV AU).2.2] 106])
 |_,_=>none
def Ag.sp (f:Int→Int→(Int)):HSpec
 |[.int .i64 a0,.int .i64 a1],[]=>some (bif decide (a1<0) then i64.wrap (-a1) !=0 else a1 !=0,.int .i64 (f a0 a1),[])
 |_,_=>none
def Am.sp (f:Int→Int→(Int)):HSpec
 |[.int .i64 a0,.int .i64 a1],[]=>some (bif decide (a1<0) then i64.wrap (-a1) !=0 else a1 !=0,.int .i64 (f a0 a1),[])
 |_,_=>none
def Cv.sp (f:Int→Int→(Int×Int×Int)):HSpec
 |[.agg ⟨[.int .i64 A7,.int .i64 AA]⟩],[]=>some (true,.tuple ⟨[.agg ⟨[.int .i64 (f A7 AA).1,.int .i64 (f A7 AA).2.1]⟩,.int .i64 (f A7 AA).2.2]⟩,[])
 |_,_=>none
def Ba.sp (f:Int→Int→Int→(Int×Int×Int)):HSpec
 |[.pointer (some ⟨0,0,none⟩),.agg ⟨[.int .i64 AC,.int .i64 AB]⟩],[.cs [.int .i64 s0_0] 106]=>some (true,.agg ⟨[.int .i64 (f s0_0 AC AB).1,.int .i64 (f s0_0 AC AB).2.1]⟩,[.cs [.int .i64 (f s0_0 AC AB).2.2] 106])
 |_,_=>none
def Dw.sp (f:(Int×Int)):HSpec
 |[],[]=>some (true,.agg ⟨[.int .i64 (f).1,.int .i64 (f).2]⟩,[])
 |_,_=>none
def Cc.sp (f:Int→Int→Int→Int→(Int×Int×Int)):HSpec
 |[.agg ⟨[.int .i64 A7,.int .i64 AA]⟩,.agg ⟨[.int .i64 AC,.int .i64 AB]⟩],[]=>some (true,.tuple ⟨[.agg ⟨[.int .i64 (f A7 AA AC AB).1,.int .i64 (f A7 AA AC AB).2.1]⟩,.int .i64 (f A7 AA AC AB).2.2]⟩,[])
 |_,_=>none
def Bk.sp (f:Int→Int→Int→Int→Int→(Int×Int×Int)):HSpec
 |[.pointer (some ⟨0,0,none⟩),.agg ⟨[.int .i64 AC,.int .i64 AB]⟩,.agg ⟨[.int .i64 AV,.int .i64 AU]⟩],[.cs [.int .i64 s0_0] 106]=>some (true,.agg ⟨[.int .i64 (f s0_0 AC AB AV AU).1,.int .i64 (f s0_0 AC AB AV AU).2.1]⟩,[.cs [.int .i64 (f s0_0 AC AB AV AU).2.2] 106])
 |_,_=>none
def Dv.sp (f:Int→Int→Int→Int→(Int×Int×Int×Int×Int×Int×Int)):HSpec
 |[.agg ⟨[.int .i64 A7,.int .i64 AA]⟩,.agg ⟨[.int .i64 AC,.int .i64 AB]⟩],[]=>some (true,.tuple ⟨[.agg ⟨[.int .i64 (f A7 AA AC AB).1,.int .i64 (f A7 AA AC AB).2.1,.int .i64 (f A7 AA AC AB).2.2.1,.int .i64 (f A7 AA AC AB).2.2.2.1,.int .i64 (f A7 AA AC AB).2.2.2.2.1,.int .i64 (f A7 AA AC AB).2.2.2.2.2.1]⟩,.int .i64 (f A7 AA AC AB).2.2.2.2.2.2]⟩,[])
 |_,_=>none
def Ck.sp (f:Int→Int→Int→(Int×Int×Int×Int)):HSpec
 |[.pointer (some ⟨0,0,none⟩),.agg ⟨[.int .i64 AC,.int .i64 AB]⟩],[.cs [.int .i64 s0_0] 106]=>some (true,.tuple ⟨[.agg ⟨[.int .i64 (f s0_0 AC AB).1,.int .i64 (f s0_0 AC AB).2.1]⟩,.int .i64 (f s0_0 AC AB).2.2.1]⟩,[.cs [.int .i64 (f s0_0 AC AB).2.2.2] 106])
 |_,_=>none
def Ca.sp (f:Int→Int→Int→Int→Int→Int→(Int×Int×Int)):HSpec
 |[.agg ⟨[.int .i64 A7,.int .i64 AA,.int .i64 AG,.int .i64 AF,.int .i64 AE,.int .i64 AD]⟩],[]=>some (true,.tuple ⟨[.agg ⟨[.int .i64 (f A7 AA AG AF AE AD).1,.int .i64 (f A7 AA AG AF AE AD).2.1]⟩,.int .i64 (f A7 AA AG AF AE AD).2.2]⟩,[])
 |_,_=>none
def De.sp (f:Int→Int→(Int×Int×Int)):HSpec
 |[.agg ⟨[.int .i64 A7,.int .i64 AA]⟩],[]=>some (true,.tuple ⟨[.agg ⟨[.int .i64 (f A7 AA).1,.int .i64 (f A7 AA).2.1]⟩,.int .i64 (f A7 AA).2.2]⟩,[])
 |_,_=>none
def Cb.sp (f:Int→Int→Int→(Int×Int×Int)):HSpec
 |[.pointer (some ⟨0,0,none⟩),.agg ⟨[.int .i64 AC,.int .i64 AB]⟩],[.cs [.int .i64 s0_0] 106]=>some (true,.agg ⟨[.int .i64 (f s0_0 AC AB).1,.int .i64 (f s0_0 AC AB).2.1]⟩,[.cs [.int .i64 (f s0_0 AC AB).2.2] 106])
 |_,_=>none
def Dd.sp (f:Int→Int→Int→Int→Int→Int→(Int×Int×Int×Int×Int×Int×Int)):HSpec
 |[.agg ⟨[.int .i64 A7,.int .i64 AA,.int .i64 AG,.int .i64 AF,.int .i64 AE,.int .i64 AD]⟩],[]=>some (true,.tuple ⟨[.agg ⟨[.int .i64 (f A7 AA AG AF AE AD).1,.int .i64 (f A7 AA AG AF AE AD).2.1,.int .i64 (f A7 AA AG AF AE AD).2.2.1,.int .i64 (f A7 AA AG AF AE AD).2.2.2.1,.int .i64 (f A7 AA AG AF AE AD).2.2.2.2.1,.int .i64 (f A7 AA AG AF AE AD).2.2.2.2.2.1]⟩,.int .i64 (f A7 AA AG AF AE AD).2.2.2.2.2.2]⟩,[])
 |_,_=>none
def EH.sp (AT:Int→Int→Int→(Int×Int×Int)) (AX:Int→Int→Int→(Int×Int×Int)):HSpec
 |[.pointer (some ⟨0,0,none⟩),.func (.func 67) ⟨[]⟩ ⟨[]⟩,.agg ⟨[.int .i64 AV,.int .i64 AU]⟩],[.cs [.int .i64 s0_0] 98]=>some (true,.agg ⟨[.int .i64 (AT s0_0 AV AU).1,.int .i64 (AT s0_0 AV AU).2.1]⟩,[.cs [.int .i64 (AT s0_0 AV AU).2.2] 98])
 |[.pointer (some ⟨0,0,none⟩),.func (.func 81) ⟨[]⟩ ⟨[]⟩,.agg ⟨[.int .i64 AV,.int .i64 AU]⟩],[.cs [.int .i64 s0_0] 98]=>some (true,.agg ⟨[.int .i64 (AX s0_0 AV AU).1,.int .i64 (AX s0_0 AV AU).2.1]⟩,[.cs [.int .i64 (AX s0_0 AV AU).2.2] 98])
 |_,_=>none
def EG.sp (B2:Int→Int→Int→Int→Int→(Int×Int×Int)) (AY:Int→Int→Int→Int→Int→(Int×Int×Int)) (AZ:Int→Int→Int→Int→Int→(Int×Int×Int)):HSpec
 |[.pointer (some ⟨0,0,none⟩),.func (.func 122) ⟨[]⟩ ⟨[]⟩,.agg ⟨[.int .i64 AV,.int .i64 AU]⟩,.agg ⟨[.int .i64 CM,.int .i64 CL]⟩],[.cs [.int .i64 s0_0] 98]=>some (true,.agg ⟨[.int .i64 (B2 s0_0 AV AU CM CL).1,.int .i64 (B2 s0_0 AV AU CM CL).2.1]⟩,[.cs [.int .i64 (B2 s0_0 AV AU CM CL).2.2] 98])
 |[.pointer (some ⟨0,0,none⟩),.func (.func 124) ⟨[]⟩ ⟨[]⟩,.agg ⟨[.int .i64 AV,.int .i64 AU]⟩,.agg ⟨[.int .i64 CM,.int .i64 CL]⟩],[.cs [.int .i64 s0_0] 98]=>some (true,.agg ⟨[.int .i64 (AY s0_0 AV AU CM CL).1,.int .i64 (AY s0_0 AV AU CM CL).2.1]⟩,[.cs [.int .i64 (AY s0_0 AV AU CM CL).2.2] 98])
 |[.pointer (some ⟨0,0,none⟩),.func (.func 123) ⟨[]⟩ ⟨[]⟩,.agg ⟨[.int .i64 AV,.int .i64 AU]⟩,.agg ⟨[.int .i64 CM,.int .i64 CL]⟩],[.cs [.int .i64 s0_0] 98]=>some (true,.agg ⟨[.int .i64 (AZ s0_0 AV AU CM CL).1,.int .i64 (AZ s0_0 AV AU CM CL).2.1]⟩,[.cs [.int .i64 (AZ s0_0 AV AU CM CL).2.2] 98])
 |_,_=>none
end Go.Proofs.YtpejalpgficopaaGreatDoor.G
end
section
namespace Go.Proofs.YtpejalpgficopaaGreatDoor.G
open Go
theorem w64 {n:Int} (h: -9223372036854775808≤n) (h':n≤9223372036854775807):i64.wrap n=n:=by
 simp only [IntKind.wrap,IntKind.signed,IntKind.bits]
 simp only [Bool.true_and]
 split
 ·rename_i hc
  have:=of_decide_eq_true hc
  omega
 ·rename_i hc
  have:¬(n%2^64≥2^(64-1)):=fun h=>hc (decide_eq_true h)
  omega
theorem E8 {a b:Int} (h:a≠b):(a !=b)=true:=by simp [h]
theorem E9 {a b:Int} (h:a≠b):(a==b)=false:=by simp [h]
theorem Ge {α:Type} (b:Bool) (x y:Option α):(bif b then x else y).isSome=bif b then x.isSome else y.isSome:=by cases b<;>rfl
theorem Fx (b:Bool):(bif b then true else true)=true:=by cases b<;>rfl
def V (a b:Int):Bool:=decide (-1073741824≤a∧a≤b∧b≤1073741824)
theorem G1 {a b:Int} :V a b=true↔ -1073741824≤a∧a≤b∧b≤1073741824:=by simp [V]
theorem V_not {a b:Int} :V a b=false↔¬(-1073741824≤a∧a≤b∧b≤1073741824):=by simp only [V,decide_eq_false_iff_not]
def chk (lo hi:Int):Int×Int×Int:=bif V lo hi then (lo,hi,0) else (0,0,3)
def cl (x y:Int):Int:= -((-x)/y)
def mn4 (x y z w:Int):Int:=min (min x y) (min z w)
def mx4 (x y z w:Int):Int:=max (max x y) (max z w)
def iadd (a b c d:Int):Int×Int×Int:=bif V a b&&V c d then chk (a+c) (b+d) else (0,0,1)
def isub (a b c d:Int):Int×Int×Int:=bif V a b&&V c d then chk (a-d) (b-c) else (0,0,1)
def imul (a b c d:Int):Int×Int×Int:=bif V a b&&V c d then chk (mn4 (a*c) (a*d) (b*c) (b*d)/16777216) (cl (mx4 (a*c) (a*d) (b*c) (b*d)) 16777216) else (0,0,1)
def pdiv (a b c d:Int):Int×Int×Int:=chk (min (a*16777216/c) (a*16777216/d)) (max (cl (b*16777216) c) (cl (b*16777216) d))
def idiv (a b c d:Int):Int×Int×Int:=bif V a b&&V c d then (if c≤0∧0≤d then (0,0,10) else if d<0 then pdiv (-b) (-a) (-d) (-c) else pdiv a b c d) else (0,0,1)
def isq (a b:Int):Int×Int×Int:=bif V a b then chk ((if a≤0∧0≤b then 0 else min (a*a) (b*b))/16777216) (cl (max (a*a) (b*b)) 16777216) else (0,0,1)
def cut (x:Int):Int:=max 0 (min 16777216 x)
theorem MS {x y A B:Int} (hA:0≤A) (hB:0≤B) (h1: -A≤x) (h2:x≤A) (h3: -B≤y) (h4:y≤B): -(A*B)≤x*y∧x*y≤A*B:=by
 have key:(x*y).natAbs≤A.natAbs*B.natAbs:=by
  rw [Int.natAbs_mul]
  exact Nat.mul_le_mul (by omega) (by omega)
 have h5:((A.natAbs*B.natAbs:Nat):Int)=A*B:=by
  rw [Int.natCast_mul,Int.natAbs_of_nonneg hA,Int.natAbs_of_nonneg hB]
 omega
theorem I7 {x y:Int} (h1: -1073741824≤x) (h2:x≤1073741824) (h3: -1073741824≤y) (h4:y≤1073741824): -1152921504606846976≤x*y∧x*y≤1152921504606846976:=by
 have:=MS (A:=1073741824) (B:=1073741824) (by omega) (by omega) h1 h2 h3 h4
 omega
theorem G3 (x:Int):0≤x*x:=by
 by_cases h:0≤x
 ·exact Int.mul_nonneg h h
 ·have:=Int.mul_nonneg_of_nonpos_of_nonpos (a:=x) (b:=x) (by omega) (by omega)
  exact this
theorem Oh {x y:Int} (h: -y≤x) (h':x≤y):x*x≤y*y:=by
 have:=MS (A:=y) (B:=y) (by omega) (by omega) h h' h h'
 omega
theorem HI {x y k:Int} (hk:0<k) (h:x≤y):x/k≤y/k:=Int.ediv_le_ediv hk h
theorem KV {x y k:Int} (hk:0<k) (h:x≤y):cl x k≤cl y k:=by
 have:=Int.ediv_le_ediv hk (Int.neg_le_neg h)
 simp only [cl]
 omega
theorem MZ {x k:Int} (hk:0<k):x/k*k≤x∧x<x/k*k+k:=by
 have h1:=Int.emod_add_mul_ediv x k
 have h2:=Int.emod_nonneg x (show k≠0 by omega)
 have h3:=Int.emod_lt_of_pos x hk
 rw [Int.mul_comm] at h1
 omega
theorem cl_spec {x k:Int} (hk:0<k):x≤cl x k*k∧cl x k*k<x+k:=by
 have:=MZ (x:= -x) hk
 simp only [cl,Int.neg_mul]
 omega
theorem R6 {x k:Int} (hk:0<k):x/k≤cl x k:=by
 have h1:=MZ (x:=x) hk
 have h2:=cl_spec (x:=x) hk
 exact Int.le_of_mul_le_mul_right (a:=k) (by omega) hk
theorem Jj {x y k:Int} (hk:0<k) (h:x≤y):x/k≤cl y k:=Int.le_trans (HI hk h) (R6 hk)
theorem le_fl {x k q:Int} (hk:0<k):q≤x/k↔q*k≤x:=Int.le_ediv_iff_mul_le hk
theorem Pz {x k:Int} (hk:0<k) (h:0≤x):0≤x/k:=by
 have:=HI hk h
 simpa using this
theorem Mj {lo hi:Int} (h1: -1073741824≤lo) (h2:lo≤hi) (h3:hi≤1073741824):chk lo hi=(lo,hi,0):=by
 simp only [chk,G1.2 ⟨h1,h2,h3⟩,cond_true]
theorem Gs {a b:Int} (hb:0<b) (h1: -4611686018427387904≤a) (h2:a≤4611686018427387904): -4611686018427387904≤a/b∧a/b≤4611686018427387904:=by
  constructor
  · rw [le_fl hb]
    have:(4611686018427387904:Int)*1≤4611686018427387904*b:=Int.mul_le_mul_of_nonneg_left (by omega) (by omega)
    omega
  · by_cases ha:0≤a
    · exact Int.le_trans (Int.ediv_le_self b ha) h2
    · have:=HI (x:=a) (y:=0) hb (by omega)
      have:(0:Int)/b=0:=Int.zero_ediv b
      omega
theorem mnE (x y:Int):(if y<x then y else x)=min x y:=by split<;>omega
theorem mxE (x y:Int):(if y>x then y else x)=max x y:=by split<;>omega
theorem M7 {a b a' b':Int} (h:a=a') (h':b=b'):chk a b=chk a' b':=by rw [h,h']
def kp (s:Int) (e:Int):Int:=bif s==0 then e else s
theorem kp0 (e:Int):kp 0 e=e:=rfl
theorem kpn {s:Int} (e:Int) (h:s≠0):kp s e=s:=by simp [kp,E9 h]
def bnd (r:Int×Int×Int) (k:Int→Int→Int×Int×Int):Int×Int×Int:=bif r.2.2 !=0 then (0,0,r.2.2) else k r.1 r.2.1
def fin (r:Int×Int×Int):Int×Int×Int:=bnd r fun x y=>(cut x,cut y,0)
def wn (a b k l:Int):Bool:=V a b&&(decide (k*16777216≤a)&&decide (b≤l*16777216))
def shr (p0 p1 q0 q1:Int):Int×Int×Int:=bnd (isub p0 p1 q0 q1) fun d0 d1=>bnd (iadd p0 p1 q0 q1) fun s0 s1=>bnd (idiv d0 d1 s0 s1) fun x0 x1=>fin (isq x0 x1)
def srf (a0 a1 a2 a3 a4 a5 a6 a7:Int):Bool:=wn a0 a1 0 1&&(wn a2 a3 0 1&&(wn a4 a5 1 4&&wn a6 a7 1 4))
def pol (a0 a1 a2 a3 a4 a5 a6 a7 x0 x1 y0 y1:Int):Int×Int×Int:=bif srf a0 a1 a2 a3 a4 a5 a6 a7 then bnd (imul a4 a5 x0 x1) (fun p0 p1=>bnd (imul a6 a7 y0 y1) fun q0 q1=>shr p0 p1 q0 q1) else (0,0,1)
def mean (r s:Int×Int×Int):Int×Int×Int:=bnd r fun p0 p1=>bnd s fun q0 q1=>bnd (iadd p0 p1 q0 q1) fun s0 s1=>fin (imul s0 s1 8388608 8388608)
def refl (a0 a1 a2 a3 a4 a5 a6 a7:Int):Int×Int×Int:=mean (pol a0 a1 a2 a3 a4 a5 a6 a7 a0 a1 a2 a3) (pol a0 a1 a2 a3 a4 a5 a6 a7 a2 a3 a0 a1)
def In (a b c d:Int):Prop:=c≤a∧a≤b∧b≤d
def rts:Nat→Int→Int→Int
 |0,n,r=>r
 |k+1,n,r=>rts k n (if (r+2^k)*(r+2^k)≤n then r+2^k else r)
def sqt (n:Int):Int:=rts 32 n 0
theorem J1 (k:Nat):(2:Int)^(k+1)=2^k+2^k:=by rw [Int.pow_succ]; omega
theorem Hg (k:Nat):(0:Int)<2^k:=by
 induction k with
 |zero=>decide
 |succ k ih=>rw [J1]; omega
theorem Km:∀(k:Nat) (n r:Int),0≤r→r*r≤n→n<(r+2^k)*(r+2^k)→0≤rts k n r∧rts k n r*rts k n r≤n∧n<(rts k n r+1)*(rts k n r+1)
 | 0,n,r,h0,h1,h2=>by
  simp only [rts]
  exact ⟨h0,h1,by simpa using h2⟩
 | k +1,n,r,h0,h1,h2=>by
  simp only [rts]
  have hp:=Hg k
  rw [J1] at h2
  split
  ·rename_i h
   refine Km k n (r+2^k) (by omega) h ?_
   rw [Int.add_assoc]; exact h2
  ·rename_i h
   exact Km k n r h0 h1 (by omega)
theorem Gu {n:Int} (h0:0≤n) (h:n≤4611686018427387904):0≤sqt n∧sqt n*sqt n≤n∧n<(sqt n+1)*(sqt n+1):=
 Km 32 n 0 (by omega) (by omega) (by
  have:((0:Int)+2^32)*(0+2^32)=18446744073709551616:=by decide
  omega)
theorem LA {a b:Int} (hb:0≤b) (h:a*a<(b+1)*(b+1)):a≤b:=by
 by_cases hab:a≤b
 ·exact hab
 ·have:(b+1)*(b+1)≤a*a:=Oh (by omega) (by omega)
  omega
theorem QJ {m n:Int} (h0:0≤m) (hmn:m≤n) (h:n≤4611686018427387904):sqt m≤sqt n:=by
 have h1:=Gu h0 (by omega)
 have h2:=Gu (n:=n) (by omega) h
 exact LA h2.1 (by omega)
def sqc (n:Int):Int:=if sqt n*sqt n<n then sqt n+1 else sqt n
theorem Is {n:Int} (h0:0≤n) (h:n≤4611686018427387904):0≤sqc n∧n≤sqc n*sqc n∧(0<sqc n→(sqc n-1)*(sqc n-1)<n)∧sqt n≤sqc n∧sqc n≤sqt n+1:=by
 have hs:=Gu h0 h
 unfold sqc
 split
 ·refine ⟨by omega,by omega,fun _=> ?_,by omega,by omega⟩
  rw [Int.add_sub_cancel]; assumption
 ·refine ⟨hs.1,by omega,fun hp=> ?_,by omega,by omega⟩
  have:(sqt n-1)*(sqt n-1)<sqt n*sqt n:=by
   have:=Oh (x:=sqt n-1) (y:=sqt n) (by omega) (by omega)
   have e:sqt n*sqt n=(sqt n-1)*(sqt n-1)+2*(sqt n-1)+1:=by
    have:sqt n=(sqt n-1)+1:=by omega
    generalize sqt n-1=q at*
    rw [this,Int.add_mul,Int.mul_add]; omega
   omega
  omega
theorem sqc_le {n q:Int} (h0:0≤n) (h:n≤4611686018427387904) (hq:0≤q) (hn:n≤q*q):sqc n≤q:=by
 have hs:=Is h0 h
 by_cases hp:0<sqc n
 ·have:=LA (a:=sqc n-1) (b:=q-1+0) (by
   by_cases hq0:q=0
   ·subst hq0
    have h1:=hs.2.2.1 hp
    have h2:=G3 (sqc n-1)
    omega
   ·omega) (by
   have e:q-1+0+1=q:=by omega
   rw [e]
   have:=hs.2.2.1 hp
   omega)
  omega
 ·omega
def isr (a b:Int):Int×Int×Int:=bif V a b then (if a<0 then (0,0,2) else (sqt (a*16777216),sqc (b*16777216),0)) else (0,0,1)
theorem M0 {a b:Int} (h0:0≤a) (h1:a≤b) (h2:b≤1073741824):0≤sqt (a*16777216)∧sqt (a*16777216)≤sqc (b*16777216)∧sqc (b*16777216)≤134217728:=by
 have s1:=Gu (n:=a*16777216) (by omega) (by omega)
 have s2:=Is (n:=b*16777216) (by omega) (by omega)
 have s3:=QJ (m:=a*16777216) (n:=b*16777216) (by omega) (by omega) (by omega)
 have s4:=sqc_le (n:=b*16777216) (q:=134217728) (by omega) (by omega) (by omega) (by omega)
 omega
inductive Re (α:Type) where
 |er (e:Int):Re α
 |ok (a:α):Re α
def Re.bind {α β:Type} (r:Re α) (k:α→Re β):Re β:=match r with| .er e=> .er e| .ok a=>k a
theorem Co {α β:Type} (e:Int) (k:α→Re β):(Re.er e).bind k= .er e:=rfl
theorem Cn {α β:Type} (a:α) (k:α→Re β):(Re.ok a).bind k=k a:=rfl
abbrev I2:=Int×Int
abbrev Bx:=I2×I2×I2
def t3 (r:Int×Int×Int):Re I2:=bif r.2.2 !=0 then .er r.2.2 else .ok (r.1,r.2.1)
def o3:Re I2→Int×Int×Int
 | .er e=>(0,0,e)
 | .ok x=>(x.1,x.2,0)
def o7:Re Bx→Int×Int×Int×Int×Int×Int×Int
 | .er e=>(0,0,0,0,0,0,e)
 | .ok x=>(x.1.1,x.1.2,x.2.1.1,x.2.1.2,x.2.2.1,x.2.2.2,0)
theorem E3 {a b:Int} :t3 (a,b,0)= .ok (a,b):=rfl
theorem El {a b e:Int} (h:e≠0):t3 (a,b,e)= .er e:=by simp [t3,E8 h]
def addR (x y:I2):Re I2:=t3 (iadd x.1 x.2 y.1 y.2)
def subR (x y:I2):Re I2:=t3 (isub x.1 x.2 y.1 y.2)
def divR (x y:I2):Re I2:=t3 (idiv x.1 x.2 y.1 y.2)
def sqR (x:I2):Re I2:=t3 (isq x.1 x.2)
def rtR (x:I2):Re I2:=t3 (isr x.1 x.2)
def V2 (x:I2):Bool:=V x.1 x.2
def VB (a:Bx):Bool:=V2 a.1&&(V2 a.2.1&&V2 a.2.2)
def one2:I2:=(16777216,16777216)
def dzip (f:I2→I2→Re I2) (a b:Bx):Re Bx:=(f a.1 b.1).bind fun x=>(f a.2.1 b.2.1).bind fun y=>(f a.2.2 b.2.2).bind fun z=> .ok (x,y,z)
def S2 (x X:I2):Prop:=In x.1 x.2 X.1 X.2∧V X.1 X.2=true
def Nz {α:Type} (r:Re α):Prop:=∀e,r= .er e→e≠0
theorem Nz.cases {α:Type} {r:Re α} (h:Nz r):(∃x,r= .ok x)∨∃e,e≠0∧r= .er e:=by
 cases r with
 |er e=>exact Or.inr ⟨e,h e rfl,rfl⟩
 |ok x=>exact Or.inl ⟨x,rfl⟩
theorem Nz.ok {α:Type} {a:α} :Nz (.ok a):=fun e h=>by cases h
theorem Nz.er {α:Type} {e:Int} (h:e≠0):Nz (.er e:Re α):=fun e' h'=>by injection h' with h'; subst h'; exact h
theorem Nz.bind {α β:Type} {r:Re α} {k:α→Re β} (h:Nz r) (hk:∀a,Nz (k a)):Nz (r.bind k):=by
 rcases h.cases with ⟨x,e⟩|⟨e,he,e1⟩
 ·rw [e]; exact hk x
 ·rw [e1]; exact Nz.er he
theorem Nz.t3 (r:Int×Int×Int):Nz (G.t3 r):=by
 obtain ⟨a,b,e⟩:=r
 by_cases he:e=0
 ·subst he; exact Nz.ok
 ·rw [El he]; exact Nz.er he
theorem Nz.cond {α:Type} {b:Bool} {x y:Re α} (h:Nz x) (h':Nz y):Nz (bif b then x else y):=by cases b; exact h'; exact h
theorem Nz.one {α:Type} :Nz (.er 1:Re α):=Nz.er (by decide)
def o2:Re Int→Int×Int
 | .er e=>(0,e)
 | .ok x=>(x,0)
def o11:Re (Bx×I2×I2)→Int×Int×Int×Int×Int×Int×Int×Int×Int×Int×Int
 | .er e=>(0,0,0,0,0,0,0,0,0,0,e)
 | .ok x=>(x.1.1.1,x.1.1.2,x.1.2.1.1,x.1.2.1.2,x.1.2.2.1,x.1.2.2.2,x.2.1.1,x.2.1.2,x.2.2.1,x.2.2.2,0)
def st (s a b:Int) (r:Int×Int×Int):Int×Int×Int:=bif s !=0 then (a,b,s) else r
theorem st0 (a b:Int) (r:Int×Int×Int):st 0 a b r=r:=rfl
theorem stE {s:Int} (h:s≠0) (a b:Int) (r:Int×Int×Int):st s a b r=(a,b,s):=by simp [st,E8 h]
def kr (s:Int) (r:Int×Int×Int):Int×Int×Int:=(r.1,r.2.1,kp s r.2.2)
theorem kr0 (r:Int×Int×Int):kr 0 r=r:=rfl
theorem krE {s:Int} (h:s≠0) (r:Int×Int×Int):kr s r=(r.1,r.2.1,s):=by simp [kr,kpn _ h]
theorem t3c (r:Int×Int×Int):(∃x y,r=(x,y,0))∨∃x y e,e≠0∧r=(x,y,e):=by
 obtain ⟨a,b,e⟩:=r
 by_cases he:e=0
 ·subst he; exact Or.inl ⟨_,_,rfl⟩
 ·exact Or.inr ⟨_,_,_,he,rfl⟩
def st7 (s:Int) (a:Bx) (r:Re Bx):Int×Int×Int×Int×Int×Int×Int:=bif s !=0 then (a.1.1,a.1.2,a.2.1.1,a.2.1.2,a.2.2.1,a.2.2.2,s) else o7 r
theorem st70 (a:Bx) (r:Re Bx):st7 0 a r=o7 r:=rfl
theorem st7E {s:Int} (h:s≠0) (a:Bx) (r:Re Bx):st7 s a r=(a.1.1,a.1.2,a.2.1.1,a.2.1.2,a.2.2.1,a.2.2.2,s):=by simp [st7,E8 h]
theorem E5 (a b:Int):V2 (a,b)=V a b:=rfl
end Go.Proofs.YtpejalpgficopaaGreatDoor.G
end
section
namespace Go.Proofs.YtpejalpgficopaaGreatDoorW.PrintWords
open Go.RowKit
structure Aside0 (p:Prop):Prop where mk::(out:p)
structure Drawn0 (w w':World):Prop where mk::(out:∃n,w'=w.drewN n)
theorem Drawn0.refl (w:World):Drawn0 w w:=⟨⟨0,rfl⟩⟩
theorem Drawn0.step {w w':World} (h:Drawn0 w w') (n:Nat):Drawn0 w (w'.drewN n):=by
 obtain ⟨m,rfl⟩:=h
 exact ⟨⟨m+n,World.drewN_drewN ..⟩⟩
def rd (xs:List Int) (i:Int):Int:=xs.getD i.toNat 0
def bt (s:ByteArray) (i:Int):Int:=if h:i.toNat<s.size then ((s[i.toNat]'h).toNat:Int) else 0
def nums (k:IntKind) (xs:List Int):List Value:=xs.map fun x=> .int k x
theorem Af {w W:World} (h:Below w.heap.size w W) (o:Obj):Below w.heap.size w (W.alloc o):=h.alloc h.size o
theorem Ab {B:Nat} {w W:World} (h:Below B w W) (n:Nat):Below B w (W.drewN n):=⟨h.os,h.tape,h.output,h.size,h.block⟩
theorem OP {B:Nat} {w w1 w2:World} (h:Below B w w1) (hB:B≤w1.heap.size) (k:Below w1.heap.size w1 w2):Below B w w2:=
 h.trans ⟨k.os,k.tape,k.output,k.size,fun i hi=>k.block i (Nat.lt_of_lt_of_le hi hB)⟩
theorem LV {w w1:World} (h:Below w.heap.size w w1) {a:Addr} {v:Value} (hc:w.cell? a=some v):w1.cell? a=some v:=(h.cell (World.block_lt_of_cell? w a hc)).trans hc
theorem FN (g j:Nat):(⟨g,0,none⟩:Addr).add j=⟨g,j,none⟩:=by unfold Addr.add; split<;>simp_all
theorem QZ {w:World} {base:Nat} {e:TypeId} {size n:Nat} {v:Value} {xs:List Value} (h:w.ownsRow base e size v n xs) (k:Nat) (hk:v.ownBlock=some k):base≤k:=by
 rcases h.2 with ⟨rfl,_⟩|⟨g,cap,cur,rfl,hb,_⟩
 ·simp [Value.ownBlock] at hk
 ·have:g=k:=by simpa [Value.ownBlock] using hk
  omega
theorem own_lt {w:World} {base:Nat} {e:TypeId} {size n:Nat} {v:Value} {xs:List Value} (h:w.ownsRow base e size v n xs) (k:Nat) (hk:v.ownBlock=some k):k<w.heap.size:=by
 rcases h.2 with ⟨rfl,_⟩|⟨g,cap,cur,rfl,hb,hh,_⟩
 ·simp [Value.ownBlock] at hk
 ·have:g=k:=by simpa [Value.ownBlock] using hk
  subst this
  exact (Array.getElem?_eq_some_iff.1 hh).1
theorem Ky {P:Program} {w:World} {base n:Nat} {e' src dst e:TypeId} {v:Value} {xs:List Int} (hs:P.underlying src=some (.slice e)) (he:P.underlying e=some (.int .u8)) (hd:P.underlying dst=some .string)
  (h:w.ownsRow base e' 1 v n (nums .u8 xs)):(convert src dst v).run P w= .ok (.string (strOfNums xs)) w:=by
 have hl:xs.length=n:=by have:=h.1; simp [nums] at this; exact this
 rcases h.2 with ⟨rfl,rfl⟩|⟨g,cap,cur,rfl,_⟩
 ·obtain rfl:xs=[]:=List.eq_nil_of_length_eq_zero hl
  exact run_convert_bytes_nil w src e hs he 0 0 dst hd
 ·refine run_convert_bytes_arg w src e hs he g 0 n cap xs hl (fun i hi=> ?_) dst hd
  have hc:=h.cells (g:=g) rfl i (.int .u8 (xs.getD i 0)) (by simp [nums,List.getElem?_eq_getElem (show i<xs.length by omega),List.getD_eq_getElem?_getD])
  have ha:(⟨g,0,none⟩:Addr).add i=⟨g,0+i,none⟩:=by unfold Addr.add; split<;>simp_all
  rwa [ha] at hc
section
variable {P:Program} {ops:Array Oper} {rest:List Oper} {o:Oper} {a:Act} {Q:Exit→Act→World→Prop}
end
section
variable {P:Program}
end
section
variable {P:Program} {ops:Array Oper} {rest:List Oper} {o:Oper} {a:Act} {Q:Exit→Act→World→Prop}
end
def IJ (s:ByteArray):List Int:=s.data.toList.map fun b=>(b.toNat:Int)
def Reps {α:Type} (R:α→List Value→Prop) (size:Nat) (ps:List α) (cs:List Value):Prop:=
 cs.length=ps.length*size∧∀j p,ps[j]? =some p→R p ((cs.drop (j*size)).take size)
theorem Reps.none {α:Type} (R:α→List Value→Prop) (size:Nat):Reps R size [] []:=⟨by simp,fun j p h=>by simp at h⟩
theorem Reps.imp_ {α:Type} {R R':α→List Value→Prop} {size:Nat} {ps:List α} {cs:List Value} (h:Reps R size ps cs) (hR:∀p c,R p c→R' p c):Reps R' size ps cs:=⟨h.1,fun j p hj=>hR _ _ (h.2 j p hj)⟩
def ReadsRow {α:Type} (R:α→List Value→Prop) (size:Nat) (w:World) (A:Option Addr) (n:Nat) (ps:List α):Prop:=
 ps.length=n∧n≤9223372036854775807∧(0<n→∃ad,A=some ad∧∀j p,ps[j]? =some p→∃c,c.length=size∧R p c∧∀i u,c[i]? =some u→w.cell? (ad.add (j*size+i))=some u)
theorem ReadsRow.imp_ {α:Type} {R R':α→List Value→Prop} {size:Nat} {w w1:World} {A:Option Addr} {n:Nat} {ps:List α} (h:ReadsRow R size w A n ps) (hb:Below w.heap.size w w1) (hR:∀p c,R p c→R' p c):ReadsRow R' size w1 A n ps:=
 ⟨h.1,h.2.1,fun hn=>by
  obtain ⟨ad,e,hc⟩:=h.2.2 hn
  refine ⟨ad,e,fun j p hj=> ?_⟩
  obtain ⟨c,hs,hr,hcell⟩:=hc j p hj
  exact ⟨c,hs,hR _ _ hr,fun i u hu=>LV hb (hcell i u hu)⟩⟩
theorem LW {α:Type} {R:α→List Value→Prop} {w:World} {base n size:Nat} {e:TypeId} {v:Value} {ps:List α} {cs:List Value} (h:w.ownsRow base e size v n cs) (hR:Reps R size ps cs) (hn:ps.length=n):
  ∃A c,v= .slice A n c∧ReadsRow R size w A n ps:=by
 rcases Nat.eq_zero_or_pos n with h0|h0
 ·rcases h.2 with ⟨rfl,rfl⟩|⟨g,cap,cur,rfl,_⟩
  ·exact ⟨none,0,rfl,hn,by omega,fun hp=>absurd hp (by omega)⟩
  ·exact ⟨_,cap,rfl,hn,by omega,fun hp=>absurd hp (by omega)⟩
 ·obtain ⟨g,cap,rfl,_,_⟩:=h.form h0
  have hm:n≤9223372036854775807:=by
   rcases h.2 with ⟨_,h1⟩|⟨g',cap',cur,he,_,_,h1,h2,_⟩
   ·omega
   ·simp only [maxLen] at h2
    omega
  refine ⟨_,cap,rfl,hn,hm,fun _=>⟨_,rfl,fun j p hj=>⟨(cs.drop (j*size)).take size,?_,hR.2 j p hj,fun i u hu=> ?_⟩⟩⟩
  ·have hjl:=(List.getElem?_eq_some_iff.1 hj).1
   have h1:j*size+size≤cs.length:=by rw [hR.1,←Nat.succ_mul]; exact Nat.mul_le_mul_right _ hjl
   rw [List.length_take,List.length_drop]
   omega
  ·refine h.cells (g:=g) rfl _ u ?_
   rw [List.getElem?_take] at hu
   split at hu
   ·rw [List.getElem?_drop] at hu
    exact hu
   ·cases hu
section
variable {P:Program} {ops:Array Oper} {rest:List Oper} {o:Oper} {a:Act} {Q:Exit→Act→World→Prop}
end
theorem RS {w:World} {g:Nat} {o:Obj} (h:w.heap[g]? =some o):g<w.heap.size:=(Array.getElem?_eq_some_iff.1 h).1
theorem Ak {w:World} {g:Nat} {t:TypeId} {cs:Array Value} (h:w.heap[g]? =some (.cells cs t (0,0))) (i:Nat):w.cell? ⟨g,i,none⟩=cs[i]? :=cell_of_row w g i cs t (0,0) h
theorem Ai {w:World} {g:Nat} {t:TypeId} {cs:Array Value} (h:w.heap[g]? =some (.cells cs t (0,0))) (i:Nat):w.frozen? ⟨g,i,none⟩=false:=by simp [World.frozen?,h]
def Ev {α:Type} (g:Nat→Option α) (r:α):Prop:=∃K,∀k,K≤k→g k=some r
theorem Ev.now {α:Type} (r:α):Ev (fun _=>some r) r:=⟨0,fun _ _=>rfl⟩
theorem Ev.rounds {α:Type} {g:Nat→Option α} {r:α} (h:Ev g r):∃k,g k=some r:=by
 obtain ⟨K,h⟩:=h
 exact ⟨K,h K (Nat.le_refl _)⟩
theorem Ev.bind {α β:Type} {g:Nat→Option α} {f:Nat→α→Option β} {a:α} {r:β} (h:Ev g a) (k:Ev (fun n=>f n a) r):Ev (fun n=>(g n).bind (f n)) r:=by
 obtain ⟨K,h⟩:=h
 obtain ⟨K',k⟩:=k
 refine ⟨max K K',fun n hn=> ?_⟩
 have h1:=h n (by omega)
 have h2:=k n (by omega)
 simp only [h1,Option.bind_some]
 exact h2
theorem Ev.step {α:Type} {g f:Nat→Option α} {r:α} (h:∀k,g (k+1)=f k) (k:Ev f r):Ev g r:=by
 obtain ⟨K,k⟩:=k
 refine ⟨K+1,fun n hn=> ?_⟩
 obtain ⟨m,rfl⟩:∃m,n=m+1:=⟨n-1,by omega⟩
 rw [h]
 exact k m (by omega)
theorem Ev.congr {α:Type} {g f:Nat→Option α} {r:α} (h:∀k,g k=f k) (k:Ev f r):Ev g r:=by
 obtain ⟨K,k⟩:=k
 exact ⟨K,fun n hn=>(h n).trans (k n hn)⟩
section
variable {P:Program} {ops:Array Oper} {o:Oper} {a:Act} {Q:Exit→Act→World→Prop} {K:Act→World→Prop}
end
theorem Nx {w:World} {base base':Nat} {e:TypeId} {size n:Nat} {v:Value} {xs:List Value} (h:w.ownsRow base e size v n xs) (hb:base'≤base):w.ownsRow base' e size v n xs:=by
 obtain ⟨h1,h2⟩:=h
 refine ⟨h1,?_⟩
 rcases h2 with h2|⟨g,cap,cur,rfl,hg,r⟩
 ·exact .inl h2
 ·exact .inr ⟨g,cap,cur,rfl,Nat.le_trans hb hg,r⟩
section
variable {α:Type} {enc:α→Value} {d:α}
def encs (enc:α→Value) (xs:List α):List Value:=xs.map enc
theorem NT (xs:List α):(encs enc xs).length=xs.length:=by simp [encs]
end
section
variable {α:Type} {P:Program} {ops:Array Oper} {rest:List Oper} {o:Oper} {a:Act} {Q:Exit→Act→World→Prop}
end
theorem EE {w:World} {g:Nat} {o:Obj} (h:w.heap[g]? =some o) (o':Obj):(w.alloc o').heap[g]? =some o:=(Below.heap_alloc w o' g (RS h)).trans h
theorem EI {w:World} {g:Nat} {o:Obj} (h:w.heap[g]? =some o):w.drew.heap[g]? =some o:=h
theorem EC {w:World} {g:Nat} {o:Obj} (h:w.heap[g]? =some o) (n:Nat):(w.drewN n).heap[g]? =some o:=h
theorem ED {w w1:World} {g:Nat} {o:Obj} (h:w.heap[g]? =some o) (hb:Below w.heap.size w w1):w1.heap[g]? =some o:=(hb.block g (RS h)).trans h
theorem blk_new (w:World) (o:Obj):(w.alloc o).heap[w.heap.size]? =some o:=heap_alloc_new w o
section
variable {P:Program}
end
theorem own_le {w:World} {base n m c size:Nat} {e:TypeId} {A:Option Addr} {xs:List Value} (h:w.ownsRow base e size (.slice A m c) n xs):m≤c:=by
 rcases h.2 with ⟨he,_⟩|⟨g,cap,cur,he,_,_,hnc,_⟩
 ·injection he with _ h2 h3
  omega
 ·injection he with _ h2 h3
  omega
def OwnRow {α:Type} (R:α→List Value→Prop) (e:TypeId) (size:Nat) (w:World) (base:Nat) (v:Value) (ps:List α):Prop:=
 ∃inner,w.ownsRow base e size v ps.length inner∧Reps R size ps inner
section
variable {α:Type} {R R':α→List Value→Prop} {e:TypeId} {size:Nat} {w w1:World} {base:Nat} {v:Value} {ps:List α}
theorem OwnRow.imp_ {R':α→List Value→Prop} (h:OwnRow R e size w base v ps) (hR:∀p c,R p c→R' p c):OwnRow R' e size w base v ps:=by
 obtain ⟨inner,ho,hr⟩:=h
 exact ⟨inner,ho,hr.imp_ hR⟩
theorem OwnRow.reads (h:OwnRow R e size w base v ps):∃A c,v= .slice A ps.length c∧ps.length≤c∧ReadsRow R size w A ps.length ps:=by
 obtain ⟨inner,ho,hr⟩:=h
 obtain ⟨A,c,rfl,hrow⟩:=LW ho hr rfl
 exact ⟨A,c,rfl,own_le ho,hrow⟩
end
section
variable {P:Program} {ops:Array Oper} {rest:List Oper} {o:Oper} {a:Act} {Q:Exit→Act→World→Prop} {α:Type} {R:α→List Value→Prop}
end
section
variable {P:Program} {ops:Array Oper} {o:Oper} {a:Act} {Q:Exit→Act→World→Prop} {K:Act→World→Prop} {α:Type} {R:α→List Value→Prop}
end
section
variable {α:Type} {P:Program}
end
section
variable {P:Program} {ops:Array Oper} {rest:List Oper} {o:Oper} {a:Act} {Q:Exit→Act→World→Prop}
end
structure Kd (α:Type) where
 sz:Nat
 E:List Nat
 K:World→α→List Value→Prop
 M:World→Nat→(Nat→Prop)→α→List Value→Prop
 K_len:∀ {w x cs},K w x cs→cs.length=sz
 K_one:∀ {w x cs},K w x cs→∀u∈cs,u.oneCell'=true
 K_below:∀ {w w1:World} {x cs},Below w.heap.size w w1→K w x cs→K w1 x cs
 K_of_M:∀ {w base ok x cs},M w base ok x cs→K w x cs
 M_mono:∀ {w base ok ok' x cs},(∀k,ok k→ok' k)→M w base ok x cs→M w base ok' x cs
 M_bound:∀ {w:World} {base ok x cs},M w base ok x cs→M w base (fun k=>ok k∧base≤k∧k<w.heap.size∧∃q,q∈E∧∃cells,w.heap[k]? =some (.cells cells q (0,0))) x cs
 M_move:∀ {w w1:World} {base ok x cs},(∀k,ok k→w1.heap[k]? =w.heap[k]?)→M w base ok x cs→M w1 base ok x cs
 M_lower:∀ {w base base' ok x cs},base'≤base→M w base ok x cs→M w base' ok x cs
theorem QY {w w1:World} {base:Nat} {e:TypeId} {size n:Nat} {v:Value} {xs:List Value} (h:w.ownsRow base e size v n xs) (hm:∀k,v.ownBlock=some k→w1.heap[k]? =w.heap[k]?):w1.ownsRow base e size v n xs:=by
 obtain ⟨h1,h2⟩:=h
 refine ⟨h1,?_⟩
 rcases h2 with h2|⟨g,cap,cur,rfl,hg,hh,r⟩
 ·exact .inl h2
 ·exact .inr ⟨g,cap,cur,rfl,hg,(hm g (by simp [Value.ownBlock])).trans hh,r⟩
theorem Pg {w:World} {base:Nat} {e:TypeId} {size n:Nat} {v:Value} {xs:List Value} (h:w.ownsRow base e size v n xs) (k:Nat) (hk:v.ownBlock=some k):∃cells,w.heap[k]? =some (.cells cells e (0,0)):=by
 rcases h.2 with ⟨rfl,_⟩|⟨g,cap,cur,rfl,hg,hh,r⟩
 ·simp [Value.ownBlock] at hk
 ·have:g=k:=by simpa [Value.ownBlock] using hk
  subst this
  exact ⟨cur,hh⟩
namespace Kd
def C {α:Type} (d:Kd α) (w:World) (A:Option Addr) (n:Nat) (xs:List α):Prop:=ReadsRow (d.K w) d.sz w A n xs
def R {α:Type} (d:Kd α) (e:Nat) (w:World) (base:Nat) (ok:Nat→Prop) (v:Value) (xs:List α):Prop:=
 (∀k,v.ownBlock=some k→ok k)∧OwnRow (d.M w base (fun k=>ok k∧some k≠v.ownBlock)) e d.sz w base v xs
section
variable {α:Type} {d:Kd α} {e:Nat} {w w1:World} {base:Nat} {ok ok':Nat→Prop} {v:Value} {xs:List α}
theorem C_below {A:Option Addr} {n:Nat} (h:d.C w A n xs) (hb:Below w.heap.size w w1):d.C w1 A n xs:=ReadsRow.imp_ h hb (fun _ _ hp=>d.K_below hb hp)
theorem R_mono (h:d.R e w base ok v xs) (hok:∀k,ok k→ok' k):d.R e w base ok' v xs:=⟨fun k hk=>hok k (h.1 k hk),h.2.imp_ (fun _ _ hp=>d.M_mono (fun k hk=>⟨hok k hk.1,hk.2⟩) hp)⟩
theorem R_bound (h:d.R e w base ok v xs):d.R e w base (fun k=>ok k∧base≤k∧k<w.heap.size∧∃q,q∈e::d.E∧∃cells,w.heap[k]? =some (.cells cells q (0,0))) v xs:=by
 obtain ⟨h0,inner,ho,hr⟩:=h
 refine ⟨fun k hk=> ?_,inner,ho,hr.imp_ (fun _ _ hp=>d.M_mono (fun k hk=> ?_) (d.M_bound hp))⟩
 ·obtain ⟨cells,hc⟩:=Pg ho k hk
  exact ⟨h0 k hk,QZ ho k hk,own_lt ho k hk,e,List.mem_cons_self,cells,hc⟩
 ·obtain ⟨⟨h1,h2⟩,h3,h4,q,hq,hc⟩:=hk
  exact ⟨⟨h1,h3,h4,q,List.mem_cons_of_mem _ hq,hc⟩,h2⟩
theorem R_move (h:d.R e w base ok v xs) (hm:∀k,ok k→w1.heap[k]? =w.heap[k]?):d.R e w1 base ok v xs:=by
 obtain ⟨h0,inner,ho,hr⟩:=h
 exact ⟨h0,inner,QY ho (fun k hk=>hm k (h0 k hk)),hr.imp_ (fun _ _ hp=>d.M_move (fun k hk=>hm k hk.1) hp)⟩
theorem R_lower {base':Nat} (h:d.R e w base ok v xs) (hb:base'≤base):d.R e w base' ok v xs:=by
 obtain ⟨h0,inner,ho,hr⟩:=h
 exact ⟨h0,inner,Nx ho hb,hr.imp_ (fun _ _ hp=>d.M_lower hb hp)⟩
theorem M_step {x:α} {cs:List Value} (h:d.M w base ok x cs) (hm:∀k,ok k→k<w.heap.size→w1.heap[k]? =w.heap[k]?):d.M w1 base ok x cs:=
 d.M_mono (fun _ hk=>hk.1) (d.M_move (fun k hk=>hm k hk.1 hk.2.2.1) (d.M_bound h))
theorem M_below {x:α} {cs:List Value} (h:d.M w base ok x cs) (hb:Below w.heap.size w w1):d.M w1 base ok x cs:=M_step h (fun k _ hk=>hb.block k hk)
theorem R_reads (h:d.R e w base ok v xs):∃A c,v= .slice A xs.length c∧xs.length≤c∧d.C w A xs.length xs:=by
 obtain ⟨A,c,he,hl,hr⟩:=OwnRow.reads h.2
 exact ⟨A,c,he,hl,hr.imp_ (Below.refl _ _) (fun _ _ hp=>d.K_of_M hp)⟩
end
def scalar {α:Type} (enc:α→Value) (h1:∀x,(enc x).oneCell'=true):Kd α where
 sz:=1
 E:=[]
 K:=fun _ x cs=>cs=[enc x]
 M:=fun _ _ _ x cs=>cs=[enc x]
 K_len:=fun h=>by rw [h]; rfl
 K_one:=fun h u hu=>by
  rw [h] at hu
  rw [List.mem_singleton.1 hu]
  exact h1 _
 K_below:=fun _ h=>h
 K_of_M:=fun h=>h
 M_mono:=fun _ h=>h
 M_bound:=fun h=>h
 M_move:=fun _ h=>h
 M_lower:=fun _ h=>h
def int (k:IntKind):Kd Int:=scalar (Value.int k) (fun _=>rfl)
def bool:Kd Bool:=scalar Value.bool (fun _=>rfl)
def string:Kd ByteArray:=scalar Value.string (fun _=>rfl)
def slice {α:Type} (e:Nat) (d:Kd α):Kd (List α) where
 sz:=1
 E:=e::d.E
 K:=fun w xs cs=>∃A c,cs=[.slice A xs.length c]∧xs.length≤c∧d.C w A xs.length xs
 M:=fun w base ok xs cs=>∃v,cs=[v]∧d.R e w base ok v xs
 K_len:=by
  rintro w x cs ⟨A,c,rfl,_⟩
  rfl
 K_one:=by
  rintro w x cs ⟨A,c,rfl,_⟩ u hu
  rw [List.mem_singleton.1 hu]
  rfl
 K_below:=by
  rintro w w1 x cs hb ⟨A,c,rfl,hl,hr⟩
  exact ⟨A,c,rfl,hl,C_below hr hb⟩
 K_of_M:=by
  rintro w base ok x cs ⟨v,rfl,h⟩
  obtain ⟨A,c,rfl,hl,hr⟩:=R_reads h
  exact ⟨A,c,rfl,hl,hr⟩
 M_mono:=by
  rintro w base ok ok' x cs hok ⟨v,rfl,h⟩
  exact ⟨v,rfl,R_mono h hok⟩
 M_bound:=by
  rintro w base ok x cs ⟨v,rfl,h⟩
  exact ⟨v,rfl,R_bound h⟩
 M_move:=by
  rintro w w1 base ok x cs hm ⟨v,rfl,h⟩
  exact ⟨v,rfl,R_move h hm⟩
 M_lower:=by
  rintro w base base' ok x cs hb ⟨v,rfl,h⟩
  exact ⟨v,rfl,R_lower h hb⟩
def pair {α β:Type} (a:Kd α) (b:Kd β):Kd (α×β) where
 sz:=a.sz+b.sz
 E:=a.E++b.E
 K:=fun w x cs=>∃c0 c1,cs=c0++c1∧a.K w x.1 c0∧b.K w x.2 c1
 M:=fun w base ok x cs=>∃c0 c1,cs=c0++c1∧a.M w base ok x.1 c0∧b.M w base ok x.2 c1
 K_len:=by
  rintro w x cs ⟨c0,c1,rfl,h0,h1⟩
  rw [List.length_append,a.K_len h0,b.K_len h1]
 K_one:=by
  rintro w x cs ⟨c0,c1,rfl,h0,h1⟩ u hu
  rcases List.mem_append.1 hu with hu|hu
  ·exact a.K_one h0 u hu
  ·exact b.K_one h1 u hu
 K_below:=by
  rintro w w1 x cs hb ⟨c0,c1,rfl,h0,h1⟩
  exact ⟨c0,c1,rfl,a.K_below hb h0,b.K_below hb h1⟩
 K_of_M:=by
  rintro w base ok x cs ⟨c0,c1,rfl,h0,h1⟩
  exact ⟨c0,c1,rfl,a.K_of_M h0,b.K_of_M h1⟩
 M_mono:=by
  rintro w base ok ok' x cs hok ⟨c0,c1,rfl,h0,h1⟩
  exact ⟨c0,c1,rfl,a.M_mono hok h0,b.M_mono hok h1⟩
 M_bound:=by
  rintro w base ok x cs ⟨c0,c1,rfl,h0,h1⟩
  refine ⟨c0,c1,rfl,a.M_mono ?_ (a.M_bound h0),b.M_mono ?_ (b.M_bound h1)⟩
  ·rintro k ⟨h2,h3,h4,q,hq,hc⟩
   exact ⟨h2,h3,h4,q,List.mem_append_left _ hq,hc⟩
  ·rintro k ⟨h2,h3,h4,q,hq,hc⟩
   exact ⟨h2,h3,h4,q,List.mem_append_right _ hq,hc⟩
 M_move:=by
  rintro w w1 base ok x cs hm ⟨c0,c1,rfl,h0,h1⟩
  exact ⟨c0,c1,rfl,a.M_move hm h0,b.M_move hm h1⟩
 M_lower:=by
  rintro w base base' ok x cs hb ⟨c0,c1,rfl,h0,h1⟩
  exact ⟨c0,c1,rfl,a.M_lower hb h0,b.M_lower hb h1⟩
def bot {α:Type} (sz:Nat) (E:List Nat):Kd α where
 sz:=sz
 E:=E
 K:=fun _ _ _=>False
 M:=fun _ _ _ _ _=>False
 K_len:=fun h=>h.elim
 K_one:=fun h=>h.elim
 K_below:=fun _ h=>h
 K_of_M:=fun h=>h
 M_mono:=fun _ h=>h
 M_bound:=fun h=>h
 M_move:=fun _ h=>h
 M_lower:=fun _ h=>h
def upto {α:Type} (F:Kd α→Kd α) (sz:Nat) (E:List Nat):Nat→Kd α
 |0=>bot sz E
 |n+1=>F (upto F sz E n)
section
variable {P:Program} {ops:Array Oper} {rest:List Oper} {o:Oper} {a:Act} {Q:Exit→Act→World→Prop} {α:Type}
end
section
variable {P:Program} {ops:Array Oper} {o:Oper} {a:Act} {Q:Exit→Act→World→Prop} {Kc:Act→World→Prop} {α:Type}
end
theorem own_of_R {α:Type} {enc:α→Value} {h1:∀x,(enc x).oneCell'=true} {e:Nat} {w:World} {base:Nat} {ok:Nat→Prop} {v:Value} {xs:List α} (h:(scalar enc h1).R e w base ok v xs):w.ownsRow base e 1 v xs.length (encs enc xs):=by
 obtain ⟨_,inner,ho,hr⟩:=h
 have:inner=encs enc xs:=by
  apply List.ext_getElem?
  intro j
  rcases Nat.lt_or_ge j xs.length with hj|hj
  ·have h2:=hr.2 j _ (List.getElem?_eq_getElem hj)
   have hl:j<inner.length:=by have:=hr.1; simp [scalar] at this; omega
   have h3:(inner.drop (j*1)).take 1=[enc xs[j]]:=h2
   rw [Nat.mul_one,List.drop_eq_getElem_cons hl] at h3
   have h4:inner[j]=enc xs[j]:=by
    have h5:=congrArg List.head? h3
    rw [List.take_succ_cons] at h5
    exact Option.some.inj h5
   rw [List.getElem?_eq_getElem hl,h4]
   simp [encs,List.getElem?_eq_getElem hj]
  ·have h3:inner.length=xs.length:=by have:=hr.1; simp [scalar] at this; omega
   rw [List.getElem?_eq_none (by omega),List.getElem?_eq_none (by rw [NT]; omega)]
 rw [←this]
 exact ho
end Kd
namespace Kd
structure Mono {α β:Type} (F:Kd α→Kd β):Prop where
 sz:∀d d':Kd α,d.sz=d'.sz→(F d).sz=(F d').sz
 K:∀d d':Kd α,d.sz=d'.sz→(∀w x cs,d.K w x cs→d'.K w x cs)→∀w x cs,(F d).K w x cs→(F d').K w x cs
 M:∀d d':Kd α,d.sz=d'.sz→(∀w base ok x cs,d.M w base ok x cs→d'.M w base ok x cs)→∀w base ok x cs,(F d).M w base ok x cs→(F d').M w base ok x cs
def Sub {α β:Type} (F:Kd α→Kd β) (E:List Nat):Prop:=∀d:Kd α,(∀q,q∈d.E→q∈E)→∀q,q∈(F d).E→q∈E
section
variable {α:Type} {F:Kd α→Kd α} {sz:Nat} {E:List Nat} {hs:∀n,(upto F sz E n).sz=sz} {hE:∀n q,q∈(upto F sz E n).E→q∈E}
end
end Kd
namespace Kd
end Kd
namespace Kd
section
variable {α β:Type} {d:Kd α} {d':Kd β} {e e':Nat} {w w1 W:World} {base b b':Nat} {ok ok' okv oku:Nat→Prop} {v u:Value} {xs:List α} {ys:List β}
end
section
variable {w W:World} {A:Option Addr} {n:Nat}
variable {α:Type} {enc:α→Value} {h1:∀x,(enc x).oneCell'=true} {e base g cap:Nat} {ok:Nat→Prop} {xs:List α}
end
section
variable {P:Program} {ops:Array Oper} {rest:List Oper} {o:Oper} {a:Act} {Q:Exit→Act→World→Prop}
theorem event_run {W w1:World} {v:Value} (hgd:o.guard=none) (hrun:(execOp a.eval o).run P W= .ok (.value v) w1) (h:wpList P ops Q rest (a.put o.dst v) w1):wpList P ops Q (o::rest) a W:=by
 refine wpList_plain hgd fun K hK=> ?_
 unfold Oper.wp
 rw [hrun]
 exact hK _ _ h
variable {α:Type}
theorem R_lit (d:Kd α) {w0 W:World} (base e:Nat) (hgd:o.guard=none) {N:Tmp} (_hd:o.dst=some N) {xs:List α} {inner:List Value} {ok okp:Nat→Prop}
  (hrun:(execOp a.eval o).run P W= .ok (.value (.slice (some ⟨W.heap.size,0,none⟩) xs.length xs.length)) (W.alloc (.cells inner.toArray e)))
  (hrep:Reps (d.M W base okp) d.sz xs inner) (hok:∀k,okp k→ok k) (hfresh:ok W.heap.size) (HB:Below base w0 W) (hbase:base≤W.heap.size) (hm:xs.length≤9223372036854775807)
  (h:∀v1 w1,d.R e w1 base ok v1 xs→Below base w0 w1→W.grownBy w1 none→(∃b,v1.ownBlock=some b∧W.heap.size≤b)→wpList P ops Q rest (a.put o.dst v1) w1):wpList P ops Q (o::rest) a W:=by
 refine event_run hgd hrun (h _ _ ⟨fun k hk=> ?_,inner,?_,?_⟩ (HB.alloc hbase _) (World.grownBy_alloc W _ none) ⟨W.heap.size,by simp [Value.ownBlock],Nat.le_refl _⟩)
 ·have:W.heap.size=k:=by simpa [Value.ownBlock] using hk
  subst this
  exact hfresh
 ·have h2:=World.ownsRow_lit (base:=base) (e:=e) (size:=d.sz) W inner.toArray xs.length hbase (by simpa [maxLen] using hm) (by simpa using hrep.1)
  simpa using h2
 ·refine hrep.imp_ (fun p c hp=>d.M_mono (fun k hk=>⟨hok k hk.1,fun he=> ?_⟩) (M_below (d.M_bound hp) (Af (Below.refl _ _) _)))
  have h3:k=W.heap.size:=by simpa [Value.ownBlock] using he
  have:=hk.2.2.1
  omega
end
end Kd
section
variable {P:Program}
end
def QRow (w:World) (base:Nat) (e:TypeId) (size:Nat) (v:Value) (n:Nat) (xs:List Value):Prop:=
 xs.length=n*size∧
 ((n=0∧∃A,v= .slice A 0 0∧∀a,A=some a→base≤a.block∧∃cur,w.heap[a.block]? =some (.cells cur e (0,0)))∨
  ∃g off cap cur,v= .slice (some ⟨g,off*size,none⟩) n cap∧base≤g∧w.heap[g]? =some (.cells cur e (0,0))∧n≤cap∧off+cap≤maxLen∧cur.size=(off+cap)*size∧(cur.toList.drop (off*size)).take (n*size)=xs)
section
variable {w w1:World} {base n size:Nat} {e:TypeId} {v:Value} {xs:List Value}
end
section
variable {P:Program}
end
namespace Kd
def Q {α:Type} (d:Kd α) (e:Nat) (w:World) (base:Nat) (ok:Nat→Prop) (v:Value) (xs:List α):Prop:=
 (∀k,v.ownBlock=some k→ok k)∧∃inner,QRow w base e d.sz v xs.length inner∧Reps (d.M w base (fun k=>ok k∧some k≠v.ownBlock)) d.sz xs inner
section
variable {α:Type} {d:Kd α} {e:Nat} {w w1 W:World} {base:Nat} {ok ok':Nat→Prop} {v:Value} {xs:List α}
end
section
variable {P:Program} {ops:Array Oper} {rest:List Oper} {o:Oper} {a:Act} {Q':Exit→Act→World→Prop} {Kc:Act→World→Prop} {α:Type}
end
end Kd
namespace Kd
section
variable {α:Type} {d:Kd α} {e e':Nat} {w w1 W:World} {base:Nat} {ok:Nat→Prop} {u v:Value} {xs:List α}
theorem fresh' (hlt:∀k,u.ownBlock=some k→k<W.heap.size):∀k,W.heap.size≤k→some k≠u.ownBlock:=fun k hk he=>by have:=hlt k he.symm; omega
end
end Kd
namespace Kd
section
variable {α:Type} {d:Kd α} {e base g n cap:Nat} {ok okp:Nat→Prop} {W:World} {xs:List α}
end
end Kd
namespace Kd
def fixed {α:Type} (d:Kd α) (w0:World):Kd α where
 sz:=d.sz
 E:=[]
 K:=fun _ x cs=>d.K w0 x cs
 M:=fun _ _ _ x cs=>d.K w0 x cs
 K_len:=d.K_len
 K_one:=d.K_one
 K_below:=fun _ h=>h
 K_of_M:=fun h=>h
 M_mono:=fun _ h=>h
 M_bound:=fun h=>h
 M_move:=fun _ h=>h
 M_lower:=fun _ h=>h
def or_ {α:Type} (a b:Kd α) (h:b.sz=a.sz):Kd α where
 sz:=a.sz
 E:=a.E++b.E
 K:=fun w x cs=>a.K w x cs∨b.K w x cs
 M:=fun w base ok x cs=>a.M w base ok x cs∨b.M w base ok x cs
 K_len:=fun hk=>hk.elim a.K_len (fun hk=>(b.K_len hk).trans h)
 K_one:=fun hk=>hk.elim a.K_one b.K_one
 K_below:=fun hb hk=>hk.imp (a.K_below hb) (b.K_below hb)
 K_of_M:=fun hk=>hk.imp a.K_of_M b.K_of_M
 M_mono:=fun hok hk=>hk.imp (a.M_mono hok) (b.M_mono hok)
 M_bound:=fun hk=>hk.imp
  (fun hk=>a.M_mono (fun _ ⟨h1,h2,h3,q,hq,hc⟩=>⟨h1,h2,h3,q,List.mem_append_left _ hq,hc⟩) (a.M_bound hk))
  (fun hk=>b.M_mono (fun _ ⟨h1,h2,h3,q,hq,hc⟩=>⟨h1,h2,h3,q,List.mem_append_right _ hq,hc⟩) (b.M_bound hk))
 M_move:=fun hm hk=>hk.imp (a.M_move hm) (b.M_move hm)
 M_lower:=fun hb hk=>hk.imp (a.M_lower hb) (b.M_lower hb)
def mix {α:Type} (e:Nat) (d dm:Kd α) (w0:World):Kd (List α):=or_ (fixed (slice e d) w0) (slice e dm) rfl
section
variable {α:Type} {F:Kd α→Kd α} {sz:Nat} {E:List Nat} {hs:∀n,(upto F sz E n).sz=sz} {hE:∀n q,q∈(upto F sz E n).E→q∈E}
end
end Kd
namespace Kd
section
variable {P:Program} {ops:Array Oper} {rest:List Oper} {o:Oper} {a:Act} {Q:Exit→Act→World→Prop} {α:Type}
end
end Kd
namespace Kd
section
variable {P:Program} {ops:Array Oper} {rest:List Oper} {o:Oper} {a:Act} {Q:Exit→Act→World→Prop} {α:Type}
end
end Kd
namespace Kd
section
variable {α:Type} {k:Kd α} {w:World} {A:Option Addr} {xs:List α} {m c:Nat}
end
end Kd
section
variable {P:Program}
end
theorem Do {w W:World} (h:Below w.heap.size w W):w.heap.size≤W.heap.size:=h.size
theorem Ce {w W w2:World} (h:Below w.heap.size w W) (k:Below W.heap.size W w2):Below w.heap.size w w2:=OP h h.size k
theorem Dc {w W:World} {g j:Nat} {v:Value} (h:Below w.heap.size w W) (hg:w.heap.size≤g):Below w.heap.size w (W.setCell ⟨g,j,none⟩ v):=h.setCell hg _
theorem Ae {base:Nat} {w W:World} (h:Below base w W):Below base w W.drew:=h.drew
namespace Kd
section
variable {α β:Type} {d:Kd α} {d':Kd β} {e e' base base' n:Nat} {ok ok':Nat→Prop} {w W w1 W1:World} {v u:Value} {xs:List α} {ys:List β} {A:Option Addr} {c:Nat}
end
section
variable {α:Type} {enc:α→Value} {h1:∀x,(enc x).oneCell'=true} {w W:World} {A:Option Addr} {n g:Nat} {xs:List α}
end
end Kd
namespace Kd
section
variable {α:Type} {d:Kd α} {e base g:Nat} {ok:Nat→Prop} {w w1:World} {v:Value} {xs:List α} {o:Obj}
end
end Kd
section
variable {P:Program} {ops:Array Oper} {rest:List Oper} {o:Oper} {a:Act} {Q:Exit→Act→World→Prop}
theorem Ea {W:World} (hgd:o.guard=none) {N:Tmp} (_hd:o.dst=some N) {cs:Array Value} {t:TypeId}
  (hrun:(execOp a.eval o).run P W= .ok (.value (.pointer (some ⟨W.heap.size,0,none⟩))) (W.alloc (.cells cs t (0,0))))
  (h:∀g,g=W.heap.size→∀w1,w1.heap[g]? =some (.cells cs t (0,0))→Below W.heap.size W w1→wpList P ops Q rest (a.put o.dst (.pointer (some ⟨g,0,none⟩))) w1):wpList P ops Q (o::rest) a W:=
 Kd.event_run hgd hrun (h _ rfl _ (blk_new W _) (Af (Below.refl _ _) _))
end
namespace Kd
section
variable {α:Type} {enc:α→Value} {h1:∀x,(enc x).oneCell'=true} {e base g n cap:Nat} {ok:Nat→Prop} {W:World} {xs:List α}
end
end Kd
section
variable {P:Program} {ops:Array Oper} {rest:List Oper} {o:Oper} {a:Act} {Q:Exit→Act→World→Prop}
end
namespace Kd
section
variable {α:Type} {enc:α→Value} {h1:∀x,(enc x).oneCell'=true} {e base g n cap:Nat} {ok:Nat→Prop} {W:World} {xs:List α}
end
end Kd
section
variable {P:Program} {ops:Array Oper} {rest:List Oper} {o:Oper} {a:Act} {Q:Exit→Act→World→Prop} {W:World}
theorem Ed {N:Tmp} (_hN:o.dst=some N) (h:wpList P ops Q (o::rest) a W):wpList P ops Q (o::rest) a W:=h
end
section
variable {P:Program} {ops:Array Oper} {o:Oper} {a:Act} {Q:Exit→Act→World→Prop} {Kc:Act→World→Prop}
namespace Kd
variable {α:Type}
end Kd
end
inductive Vals (P:Program) (tmps:Array Value) (w:World):List ResultVar→List Value→Prop where
 |nil:Vals P tmps w [] []
 |tmp {u:Tmp} {rs:List ResultVar} {vs:List Value} (h:Vals P tmps w rs vs):Vals P tmps w (.tmp u::rs) (tmps.getD u undef::vs)
 |cell {p:Tmp} {ty:TypeId} {rs:List ResultVar} {vs:List Value} (g:Nat) (t:TypeId) (cs:Array Value) (fr:Nat×Nat) (d:TypeDesc)
  (hp:tmps.getD p undef= .pointer (some ⟨g,0,none⟩)) (hg:w.heap[g]? =some (.cells cs t fr))
  (hu:P.underlying ty=some d) (hd:(match d with| .struct _| .array _ _=>true|_=>false)=true) (hi:(P.info? ty).map (·.size)=some cs.size)
  (h:Vals P tmps w rs vs):Vals P tmps w (.cell p ty::rs) (.agg cs::vs)
section
variable {P:Program} {tmps:Array Value} {w:World}
end
namespace Kd
section
variable {P:Program} {α:Type}
end
section
variable {P:Program} {ops:Array Oper} {rest:List Oper} {o:Oper} {a:Act} {Q:Exit→Act→World→Prop} {Kc:Act→World→Prop} {α:Type}
end
end Kd
end Go.Proofs.YtpejalpgficopaaGreatDoorW.PrintWords
end
section
namespace Go.Proofs.YtpejalpgficopaaGreatDoorW.PrintLast
section
variable {P:Program} {ops:Array Oper} {Q:Exit→Act→World→Prop} {md:Region.Mode} {S:World→Prop} {ds:List Nat}
def Region.reachB (md:Region.Mode) (ops:Array Oper) (i:Nat):Nat→Nat→Bool
 |0,_=>false
 | fuel+1,d=>match ops[d]? with
  |some o=>o.after.any fun e=>Region.binds md e&&(e.on==i||Region.reachB md ops i fuel e.on)
  |none=>false
def Region.closedB (md:Region.Mode) (ops:Array Oper) (listed:Array Bool):Bool:=
 (List.range ops.size).all fun j=> !listed.getD j false||match ops[j]? with
  |some o=>o.after.all fun e=> !Region.binds md e||listed.getD e.on false
  |none=>true
def Region.lastB (md:Region.Mode) (ops:Array Oper) (listed:Array Bool) (ds:List Nat) (i:Nat):Bool:=
 ds.all fun d=>listed.getD d true||Region.reachB md ops i ops.size d
def ListedClosed (md:Region.Mode) (ops:Array Oper) (listed:Array Bool):Prop:=
 ∀j oj,ops[j]? =some oj→listed.getD j false=true→∀e∈oj.after,Region.binds md e=true→listed.getD e.on false=true
theorem Region.closedB_spec {listed:Array Bool} (h:Region.closedB md ops listed=true):ListedClosed md ops listed:=by
 intro j oj hj hl e he hb
 have hlt:j<ops.size:=(Array.getElem?_eq_some_iff.1 hj).1
 have h1:=List.all_eq_true.1 h j (List.mem_range.2 hlt)
 simp only [hl,hj,zN,Bool.false_or] at h1
 have h2:=Array.all_eq_true_iff_forall_mem.1 h1 e he
 simpa [hb] using h2
theorem ListedClosed.set {listed:Array Bool} {i:Nat} (h:ListedClosed md ops listed) (hi:i∈Region.ready md ops listed):ListedClosed md ops (listed.setIfInBounds i true):=by
 obtain ⟨_,oi,hoi,hall⟩:=mem_ready.1 hi
 intro j oj hj hl e he hb
 by_cases hij:i=j
 ·subst hij
  have:oj=oi:=Option.some.inj (hj.symm.trans hoi)
  subst this
  exact getD_set_true (hall e he hb)
 ·rw [getD_set_ne false hij] at hl
  exact getD_set_true (h j oj hj hl e he hb)
theorem Region.reach_listed {listed:Array Bool} {i:Nat} (hc:ListedClosed md ops listed):∀(fuel d:Nat),Region.reachB md ops i fuel d=true→listed.getD d false=true→listed.getD i false=true
 |0,_,h,_=>by simp [Region.reachB] at h
 | fuel+1,d,h,hl=>by
  unfold Region.reachB at h
  cases ho:ops[d]? with
  |none=>rw [ho] at h; simp at h
  | some o=>
   rw [ho] at h
   obtain ⟨e,he,h1⟩:=Array.any_eq_true'.1 h
   simp only [zB,Bool.or_eq_true,beq_iff_eq] at h1
   have hle:=hc d o ho hl e he h1.1
   rcases h1.2 with h2|h2
   ·rw [←h2]; exact hle
   ·exact Region.reach_listed hc fuel e.on h2 hle
theorem Region.reach_not_ready {listed:Array Bool} {i d fuel:Nat} (hc:ListedClosed md ops listed) (hr:Region.reachB md ops i fuel d=true) (hun:listed.getD i true=false):d ∉ Region.ready md ops listed:=by
 intro hd
 obtain ⟨_,o,ho,hall⟩:=mem_ready.1 hd
 have hi:listed.getD i false=true:=by
  cases fuel with
  |zero=>simp [Region.reachB] at hr
  | succ n=>
   unfold Region.reachB at hr
   rw [ho] at hr
   obtain ⟨e,he,h1⟩:=Array.any_eq_true'.1 hr
   simp only [zB,Bool.or_eq_true,beq_iff_eq] at h1
   have hle:=hall e he h1.1
   rcases h1.2 with h2|h2
   ·rw [←h2]; exact hle
   ·exact Region.reach_listed hc n e.on h2 hle
 rcases Nat.lt_or_ge i listed.size with h'|h'
 ·simp [h'] at hun hi
  rw [hun] at hi
  cases hi
 ·simp [Array.getElem?_eq_none h'] at hun
def EJ (P:Program) (md:Region.Mode) (ops:Array Oper) (Q:Exit→Act→World→Prop) (S:World→Prop) (ds:List Nat):Nat→Array Bool→Act→World→Prop
 |0,listed,a,w=>Region.ready md ops listed=[]∧Q .normal a w
 | fuel+1,listed,a,w=>
  (Region.ready md ops listed=[]→Q .normal a w)∧
  ∀i∈Region.ready md ops listed,wpOp P ops Q i (fun a' w'=>(i ∉ ds→S w→S w')∧EJ P md ops Q S ds fuel (listed.setIfInBounds i true) a' w') a w
theorem IL:∀(fuel:Nat) (listed:Array Bool) (a:Act) (w:World),EJ P md ops Q S ds fuel listed a w→wpAny P md ops Q fuel listed a w
 |0,_,_,_,h=>h
 |fuel+1,_,_,_,h=>⟨h.1,fun i hi=>wpOp_mono (fun a' w' h'=>IL fuel _ a' w' h'.2) (h.2 i hi)⟩
theorem K8 {i:Nat} {oi:Oper} {v:Value} (hi:ops[i]? =some oi) (hsel:∀(j:Nat) (o:Oper) cs b,ops[j]? =some o→o.op≠ .select cs b)
  (hQ:∀c a w,Q (.panic c) (a.put oi.dst v) w→Q (.panic c) a w) (n:Nat):
  ∀ (fuel:Nat) (listed:Array Bool) (a:Act) (w:World),
   (∀j oj,ops[j]? =some oj→j≠i→listed.getD j true=false→(∀e∈oj.after,Region.binds md e=true→e.on≠i)→oi.apart ops oj=true)→
   ListedClosed md ops listed→(∀d∈ds,listed.getD d true=false→Region.reachB md ops i n d=true)→
   i∈Region.ready md ops listed→YieldsIf P ops S oi v a→S w→
   EJ P md ops Q S ds fuel (listed.setIfInBounds i true) (a.put oi.dst v) w→EJ P md ops Q S ds (fuel+1) listed a w:=by
 intro fuel
 induction fuel with
 | zero=>
  intro listed a w _ _ _ hr hy hS H
  refine ⟨fun h=>(by rw [h] at hr; cases hr),fun j hj=> ?_⟩
  by_cases hji:j=i
  ·subst hji; exact hy.wpOp hi hS ⟨fun _ h=>h,H⟩
  ·have:=ready_mono hj hji
   rw [H.1] at this
   cases this
 | succ fuel ih=>
  intro listed a w hfree hc hd hr hy hS H
  refine ⟨fun h=>(by rw [h] at hr; cases hr),fun j hj=> ?_⟩
  by_cases hji:j=i
  ·subst hji; exact hy.wpOp hi hS ⟨fun _ h=>h,H⟩
  ·have h1:=H.2 j (ready_mono hj hji)
   obtain ⟨hjun,oj,hoj,hall⟩:=mem_ready.1 hj
   have hiun:=(mem_ready.1 hr).1
   have hnot:∀e∈oj.after,Region.binds md e=true→e.on≠i:=fun e he hb heq=>by
    have h1:=hall e he hb
    rw [heq] at h1
    rcases Nat.lt_or_ge i listed.size with h'|h'
    ·simp [h'] at hiun h1; rw [hiun] at h1; cases h1
    ·simp [Array.getElem?_eq_none h'] at h1
   have hjd:j ∉ ds:=fun hm=>Region.reach_not_ready hc (hd j hm hjun) hiun hj
   have h2:=wpOp_putIf hoj (hfree j oj hoj hji hjun hnot) (fun cs b=>hsel i oi cs b hi) (fun cs b=>hsel j oj cs b hoj) hQ hy h1
   have hfree':∀k ok,ops[k]? =some ok→k≠i→(listed.setIfInBounds j true).getD k true=false→
     (∀e∈ok.after,Region.binds md e=true→e.on≠i)→oi.apart ops ok=true:=fun k ok hk hki hun hno=>by
    refine hfree k ok hk hki ?_ hno
    by_cases hjk:j=k
    ·subst hjk; exact hjun
    ·rw [getD_set_ne true hjk] at hun; exact hun
   have hd':∀d∈ds,(listed.setIfInBounds j true).getD d true=false→Region.reachB md ops i n d=true:=fun d hm hun=>by
    refine hd d hm ?_
    by_cases hjk:j=d
    ·subst hjk; exact hjun
    ·rw [getD_set_ne true hjk] at hun; exact hun
   refine wpOp_mono (fun a' w' h3=>⟨h3.2.1,ih (listed.setIfInBounds j true) a' w' hfree' (hc.set hj) hd' (ready_mono hr (Ne.symm hji)) h3.1 (h3.2.1 hjd hS) ?_⟩) h2
   rw [Array.setIfInBounds_comm _ _ hji]
   exact h3.2.2
theorem LS {i:Nat} {oi:Oper} {v:Value} (hi:ops[i]? =some oi) (hsel:∀(j:Nat) (o:Oper) cs b,ops[j]? =some o→o.op≠ .select cs b)
  (hQ:∀c a w,Q (.panic c) (a.put oi.dst v) w→Q (.panic c) a w):
  ∀ (fuel:Nat) (listed:Array Bool) (a:Act) (w:World),
   (∀j oj,ops[j]? =some oj→j≠i→listed.getD j true=false→(∀e∈oj.after,Region.binds md e=true→e.on≠i)→oi.apart ops oj=true)→
   i∈Region.ready md ops listed→Yields P ops oi v a→
   EJ P md ops Q S ds fuel (listed.setIfInBounds i true) (a.put oi.dst v) w→EJ P md ops Q S ds (fuel+1) listed a w:=by
 intro fuel
 induction fuel with
 | zero=>
  intro listed a w _ hr hy H
  refine ⟨fun h=>(by rw [h] at hr; cases hr),fun j hj=> ?_⟩
  by_cases hji:j=i
  ·subst hji; exact (hy.yieldsIf (S:=fun _=>True)).wpOp hi trivial ⟨fun _ h=>h,H⟩
  ·have:=ready_mono hj hji
   rw [H.1] at this
   cases this
 | succ fuel ih=>
  intro listed a w hfree hr hy H
  refine ⟨fun h=>(by rw [h] at hr; cases hr),fun j hj=> ?_⟩
  by_cases hji:j=i
  ·subst hji; exact (hy.yieldsIf (S:=fun _=>True)).wpOp hi trivial ⟨fun _ h=>h,H⟩
  ·have h1:=H.2 j (ready_mono hj hji)
   obtain ⟨hjun,oj,hoj,hall⟩:=mem_ready.1 hj
   have hiun:=(mem_ready.1 hr).1
   have hnot:∀e∈oj.after,Region.binds md e=true→e.on≠i:=fun e he hb heq=>by
    have h1:=hall e he hb
    rw [heq] at h1
    rcases Nat.lt_or_ge i listed.size with h'|h'
    ·simp [h'] at hiun h1; rw [hiun] at h1; cases h1
    ·simp [Array.getElem?_eq_none h'] at h1
   have h2:=wpOp_put hoj (hfree j oj hoj hji hjun hnot) (fun cs b=>hsel i oi cs b hi) (fun cs b=>hsel j oj cs b hoj) hQ hy h1
   have hfree':∀k ok,ops[k]? =some ok→k≠i→(listed.setIfInBounds j true).getD k true=false→
     (∀e∈ok.after,Region.binds md e=true→e.on≠i)→oi.apart ops ok=true:=fun k ok hk hki hun hno=>by
    refine hfree k ok hk hki ?_ hno
    by_cases hjk:j=k
    ·subst hjk; exact hjun
    ·rw [getD_set_ne true hjk] at hun; exact hun
   refine wpOp_mono (fun a' w' h3=>⟨h3.2.1,ih (listed.setIfInBounds j true) a' w' hfree' (ready_mono hr (Ne.symm hji)) h3.1 ?_⟩) h2
   rw [Array.setIfInBounds_comm _ _ hji]
   exact h3.2.2
theorem KZ {i:Nat} {oi:Oper} {v:Value} {fuel:Nat} {listed:Array Bool} {a:Act} {w:World} (hi:ops[i]? =some oi)
  (hs:Region.noSelect ops=true) (hf:Region.free md ops listed i=true) (hr:(Region.ready md ops listed).contains i=true)
  (hc:Region.closedB md ops listed=true) (hl:Region.lastB md ops listed ds i=true)
  (hQ:∀c a w,Q (.panic c) (a.put oi.dst v) w→Q (.panic c) a w) (hy:YieldsIf P ops S oi v a) (hS:S w)
  (h:EJ P md ops Q S ds fuel (listed.setIfInBounds i true) (a.put oi.dst v) w):EJ P md ops Q S ds (fuel+1) listed a w:=
 K8 hi (Region.noSelect_spec hs) hQ ops.size fuel listed a w (Region.free_spec hi hf) (Region.closedB_spec hc)
  (fun d hm hun=>by have:=List.all_eq_true.1 hl d hm; rw [hun] at this; simpa using this) (by simpa using hr) hy hS h
theorem LU {rs:List Nat} {fuel:Nat} {listed:Array Bool} {a:Act} {w:World} (hr:Region.ready md ops listed=rs) (hne:rs≠[])
  (h:∀i∈rs,wpOp P ops Q i (fun a' w'=>(i ∉ ds→S w→S w')∧EJ P md ops Q S ds fuel (listed.setIfInBounds i true) a' w') a w):EJ P md ops Q S ds (fuel+1) listed a w:=
 ⟨fun h0=>absurd (hr▸h0) hne,hr▸h⟩
theorem Ka {listed:Array Bool} {a:Act} {w:World} (hr:Region.ready md ops listed=[]) (h:Q .normal a w):
  ∀fuel,EJ P md ops Q S ds fuel listed a w
 |0=>⟨hr,h⟩
 |_+1=>⟨fun _=>h,by rw [hr]; simp⟩
theorem KY {id:Nat} {a:Act} {w:World} (hm:P.follows .mixedOrders=true)
  (h:EJ P .any ops Q S ds ops.size (Array.replicate ops.size false) a {w with drawn:=w.drawn+1}):(Code.region id ops true).wp P Q a w:=
 wp_region_any hm (IL _ _ _ _ h)
end
section
variable {P:Program} {ops:Array Oper} {Q:Exit→Act→World→Prop} {md:Region.Mode} {S:World→Prop} {ds:List Nat}
def AllReadyL (P:Program) (md:Region.Mode) (ops:Array Oper) (Q:Exit→Act→World→Prop) (S:World→Prop) (ds:List Nat) (fuel:Nat) (listed:Array Bool) (a:Act) (w:World) (rs:List Nat):Prop:=
 ∀i∈rs,wpOp P ops Q i (fun a' w'=>(i ∉ ds→S w→S w')∧EJ P md ops Q S ds fuel (listed.setIfInBounds i true) a' w') a w
theorem AllReadyL.nil {fuel:Nat} {listed:Array Bool} {a:Act} {w:World} :AllReadyL P md ops Q S ds fuel listed a w []:=fun _ h=>by cases h
theorem AllReadyL.cons {fuel:Nat} {listed:Array Bool} {a:Act} {w:World} {i:Nat} {o:Oper} {rs:List Nat} (ho:ops[i]? =some o) (hd:i ∉ ds)
  (h:∀K':Act→World→Prop,Shut (∀a w,S w→(S w→EJ P md ops Q S ds fuel (listed.setIfInBounds i true) a w)→K' a w)→if Region.wanted o (yielded ops a.tmps)=true then Oper.wp P o a w K' Q else K' (a.put o.dst undef) w)
  (hs:AllReadyL P md ops Q S ds fuel listed a w rs):AllReadyL P md ops Q S ds fuel listed a w (i::rs):=fun j hj=>by
 rcases List.mem_cons.1 hj with rfl|hj
 ·exact wpOp_step ho (fun K' hK=>h K' (fun a w hS hW=>hK a w ⟨fun _ _=>hS,hW hS⟩))
 ·exact hs j hj
theorem K7 {rs:List Nat} {fuel:Nat} {listed:Array Bool} {a:Act} {w:World} (hr:Region.ready md ops listed=rs) (hne:rs≠[])
 (h:AllReadyL P md ops Q S ds fuel listed a w rs):EJ P md ops Q S ds (fuel+1) listed a w:=LU hr hne h
theorem MG {id n:Nat} {a:Act} {w:World} (l:Array Bool) (hm:P.follows .mixedOrders=true) (hn:ops.size=n) (hl:Array.replicate n false=l) (hS:S w.drew)
  (h:S w.drew→EJ P .any ops Q S ds n l a w.drew):(Code.region id ops true).wp P Q a w:=by
 subst hn
 subst hl
 exact KY hm (h hS)
def Mu (md:Region.Mode) (ops:Array Oper) (ds:List Nat) (l l':Array Bool) (i:Nat):Bool:=
 Region.noSelect ops&&Region.free md ops l i&&(Region.ready md ops l).contains i&&Region.closedB md ops l&&Region.lastB md ops l ds i&&(l.setIfInBounds i true==l')
theorem Od {i:Nat} {N:Option Tmp} {oi:Oper} {v:Value} {fuel:Nat} {l:Array Bool} {a:Act} {w:World} (l':Array Bool) (hi:ops[i]? =some oi) (hN:oi.dst=N) (hc:Mu md ops ds l l' i=true)
  (hQ:∀c a w,Q (.panic c) (a.put oi.dst v) w→Q (.panic c) a w) (hy:YieldsIf P ops S oi v a) (hS:S w) {a':Act} (ha:a.put N v=a')
  (h:EJ P md ops Q S ds fuel l' a' w):EJ P md ops Q S ds (fuel+1) l a w:=by
 subst ha
 subst hN
 simp only [Mu,zB,beq_iff_eq] at hc
 obtain ⟨⟨⟨⟨⟨h1,h2⟩,h3⟩,h4⟩,h5⟩,h6⟩:=hc
 subst h6
 exact KZ hi h1 h2 h3 h4 h5 hQ hy hS h
def anyB (md:Region.Mode) (ops:Array Oper) (l l':Array Bool) (i:Nat):Bool:=
 Region.noSelect ops&&Region.free md ops l i&&(Region.ready md ops l).contains i&&(l.setIfInBounds i true==l')
theorem Eo {i:Nat} {N:Option Tmp} {oi:Oper} {v:Value} {fuel:Nat} {l:Array Bool} {a:Act} {w:World} (l':Array Bool) (hi:ops[i]? =some oi) (hN:oi.dst=N) (hc:anyB md ops l l' i=true)
  (hQ:∀c a w,Q (.panic c) (a.put oi.dst v) w→Q (.panic c) a w) (hy:Yields P ops oi v a) {a':Act} (ha:a.put N v=a')
  (h:EJ P md ops Q S ds fuel l' a' w):EJ P md ops Q S ds (fuel+1) l a w:=by
 subst ha
 subst hN
 simp only [anyB,zB,beq_iff_eq] at hc
 obtain ⟨⟨⟨h1,h2⟩,h3⟩,h6⟩:=hc
 subst h6
 exact LS hi (Region.noSelect_spec h1) hQ fuel l a w (Region.free_spec hi h2) (by simpa using h3) hy h
def ML (md:Region.Mode) (ops:Array Oper) (l l':Array Bool) (i:Nat):Bool:=(Region.ready md ops l==[i])&&(l.setIfInBounds i true==l')
theorem one_ {i:Nat} {N:Option Tmp} {oi:Oper} {fuel:Nat} {l:Array Bool} {a:Act} {w:World} (l':Array Bool) (hi:ops[i]? =some oi) (hN:oi.dst=N) (hc:ML md ops l l' i=true) (hd:i ∉ ds)
  (h:∀K:Act→World→Prop,Shut (∀a' w',S w'→(S w'→EJ P md ops Q S ds fuel l' a' w')→K a' w')→if Region.wanted oi (yielded ops a.tmps)=true then Oper.wp P oi a w K Q else K (a.put N undef) w):
  EJ P md ops Q S ds (fuel+1) l a w:=by
 subst hN
 simp only [ML,zB,beq_iff_eq] at hc
 obtain ⟨h1,h2⟩:=hc
 subst h2
 exact K7 h1 (by simp) (AllReadyL.cons hi hd (fun K hK=>h K hK) AllReadyL.nil)
theorem PM {l:Array Bool} {a:Act} {w:World} {n:Nat} (hr:(Region.ready md ops l==[])=true) (h:Q .normal a w):EJ P md ops Q S ds n l a w:=Ka (by simpa using hr) h n
theorem IQ {fuel:Nat} {l:Array Bool} {a a':Act} {w:World} (ha:a=a') (h:EJ P md ops Q S ds fuel l a' w):EJ P md ops Q S ds fuel l a w:=by
 subst ha
 exact h
theorem call_ {oi:Oper} {N:Option Tmp} {a:Act} {w:World} {K:Act→World→Prop} (f:FuncId) (args:Array Value) (hw:Region.wanted oi (yielded ops a.tmps)=true) (hN:oi.dst=N) (hrun:(execOp a.eval oi).run P w= .ok (.enter f args) w)
  (h:Calls P f args w fun e w'=>∃v,e= .returned v∧K (a.put N v) w'):if Region.wanted oi (yielded ops a.tmps)=true then Oper.wp P oi a w K Q else K (a.put N undef) w:=by
 rw [if_pos hw]
 subst hN
 unfold Oper.wp
 rw [hrun,Oper.upon_enter]
 refine h.mono fun e w'' hh=> ?_
 obtain ⟨v,rfl,hk⟩:=hh
 exact hk
theorem Mc {f:FuncId} {fn:Func} (hf:P.funcs[f]? =some fn) (hname:(fn.name== "runtime.NumGoroutine")=false) (hb:fn.body.isSome=true) (args:Array Value) (w:World):(callFunc f args).run P w= .ok (.enter f args) w:=by
 have h1:fn.name≠ "runtime.NumGoroutine" :=by simpa using hname
 obtain ⟨c,hc⟩:=Option.isSome_iff_exists.1 hb
 simp [callFunc,hf,h1,hc]
theorem K2 {oi:Oper} {N:Option Tmp} {a:Act} {w:World} {K:Act→World→Prop} {f:FuncId} {fn:Func} {azz:Array Operand} {ts:Array TypeId} (hf:P.funcs[f]? =some fn) (hname:(fn.name== "runtime.NumGoroutine")=false) (hb:fn.body.isSome=true) (args:Array Value)
  (hw:Region.wanted oi (yielded ops a.tmps)=true) (hN:oi.dst=N) (hop:oi.op= .call {callee:= .value (.func f),args:=azz,argTypes:=ts}) (hargs:azz.map a.eval=args)
  (h:Calls P f args w fun e w'=>∃v,e= .returned v∧K (a.put N v) w'):if Region.wanted oi (yielded ops a.tmps)=true then Oper.wp P oi a w K Q else K (a.put N undef) w:=by
 refine call_ f args hw hN ?_ h
 have he:=Mc hf hname hb args w
 unfold execOp
 simp [hop,resolve,Deferred.ofValue,invoke,Act.eval,hargs,he]
theorem Ex {rest:List Oper} {oi:Oper} {a:Act} {w:World} (N:Option Tmp) (hd:oi.dst=N) (hg:oi.guard=none) {f:FuncId} {fn:Func} {azz:Array Operand} {ts:Array TypeId} (hf:P.funcs[f]? =some fn) (hname:(fn.name== "runtime.NumGoroutine")=false) (hb:fn.body.isSome=true) (args:Array Value)
  (hop:oi.op= .call {callee:= .value (.func f),args:=azz,argTypes:=ts}) (hargs:azz.map a.eval=args)
  (h:Calls P f args w fun e w'=>∃v,e= .returned v∧wpList P ops Q rest (a.put N v) w'):wpList P ops Q (oi::rest) a w:=by
 refine wpList_plain hg fun K hK=> ?_
 have he:=Mc hf hname hb args w
 have hrun:(execOp a.eval oi).run P w= .ok (.enter f args) w:=by
  unfold execOp
  simp [hop,resolve,Deferred.ofValue,invoke,Act.eval,hargs,he]
 unfold Oper.wp
 rw [hrun,Oper.upon_enter]
 refine h.mono fun e w'' hh=> ?_
 obtain ⟨v,rfl,hk⟩:=hh
 subst hd
 exact hK _ _ hk
theorem ER (n:Int):i64.wrap n=Go.RowKit.wrap64 n:=by unfold Go.RowKit.wrap64; exact IntKind.wrap_i64 n
theorem ES (n:Int):IntKind.i32.wrap n=Go.RowKit.wrap32 n:=by unfold Go.RowKit.wrap32; exact IntKind.wrap_i32 n
end
end Go.Proofs.YtpejalpgficopaaGreatDoorW.PrintLast
end
