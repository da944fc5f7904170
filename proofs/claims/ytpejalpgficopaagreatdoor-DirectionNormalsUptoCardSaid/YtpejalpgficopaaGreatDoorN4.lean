/- A part of what the law's proof leans on. PACKED BY pack.py of this repo. -/
import Derived.Test.YtpejalpgficopaaGreatDoorN3
set_option linter.unusedVariables false
set_option linter.unusedSimpArgs false
set_option linter.defProp false
set_option linter.unusedSectionVars false
section
namespace RX
open Go Go.RowKit
def pickT (S:St):List Nat→List Value
 |[]=>[]
 |i::r=>nth S.tmps i::pickT S r
def pickH (S:St):List Nat→List (Option Blk)
 |[]=>[]
 |i::r=>look S.heap i::pickH S r
theorem pickT_eq (S:St):∀is,pickT S is=is.map (nth S.tmps)
 |[]=>rfl
 |i::r=>by simp [pickT,pickT_eq S r]
theorem pickH_eq (S:St):∀is,pickH S is=is.map (look S.heap)
 |[]=>rfl
 |i::r=>by simp [pickH,pickH_eq S r]
def pick (k:Nat) (is bs:List Nat) (x:X) (S:St):Option (X×List Value×List (Option Blk)):=bif Nat.beq S.tmps.length k then some (x,pickT S is,pickH S bs) else none
def lkT (S:St):List Nat→List Value
 |[]=>[]
 |i::r=>nth S.tmps i::lkT S r
def lkH (S:St):List Nat→List (Option Blk)
 |[]=>[]
 |i::r=>look S.heap i::lkH S r
theorem lkT_eq (S:St):∀is,lkT S is=is.map (nth S.tmps)
 |[]=>rfl
 |i::r=>by simp [lkT,lkT_eq S r]
theorem lkH_eq (S:St):∀is,lkH S is=is.map (look S.heap)
 |[]=>rfl
 |i::r=>by simp [lkH,lkH_eq S r]
def lk (is bs:List Nat) (x:X) (S:St):Option (X×List Value×List (Option Blk)):=some (x,lkT S is,lkH S bs)
theorem lk_eq {is bs:List Nat} {x:X} {S:St} :lk is bs x S=some (x,is.map (nth S.tmps),bs.map (look S.heap)):=by rw [lk,lkT_eq,lkH_eq]
theorem pick_some {k:Nat} {is bs:List Nat} {x y:X} {S:St} {vals:List Value} {blks:List (Option Blk)} (h:pick k is bs x S=some (y,vals,blks)):x=y∧S.tmps.length=k∧is.map (nth S.tmps)=vals∧bs.map (look S.heap)=blks:=by
 unfold pick at h
 cases hb:Nat.beq S.tmps.length k with
 |false=>rw [hb] at h; cases h
 | true=>
  rw [hb] at h
  simp only [cond_true,Option.some.injEq,Prod.mk.injEq,pickT_eq,pickH_eq] at h
  exact ⟨h.1,Nat.eq_of_beq_eq_true hb,h.2.1,h.2.2⟩
def Found (N:Nat→Prop) (n k:Nat) (is bs:List Nat) (vals:List Value) (blks:List (Option Blk)) (S2:St):Prop:=
 ∀ U:St,U.tmps.length=k→is.map (nth U.tmps)=vals→bs.map (look U.heap)=blks→
  ∀(W0:World) (out:Nat→Prop) (g0:Nat→Nat) (n0:Nat) (a:Act) (w:World),N n0→n0≤n→SRel W0 out g0 n0 U a w→SRel W0 out g0 n0 S2 a w
inductive Lq (P:Program) (N:Nat→Prop) (c:Code):St→X→St→Prop
 |step {E:Env} {L:List (Nat×LSpec)} {f:Nat} {S S2 S':St} {x:X} {is bs:List Nat} {k:Nat} {vals:List Value} {blks:List (Option Blk)} :EnvOk P E→LsOkn P N L c→
  exec P E L (hs P E f).lf (hs P E f).cf c S (pick k is bs)=some (.normal,vals,blks)→(Small S.nxt S→Found N S.nxt k is bs vals blks S2)→Lq P N c S2 x S'→Lq P N c S x S'
 |stop {E:Env} {L:List (Nat×LSpec)} {f:Nat} {S S2:St} {x:X} {is bs:List Nat} {k:Nat} {vals:List Value} {blks:List (Option Blk)} :EnvOk P E→LsOkn P N L c→
  exec P E L (hs P E f).lf (hs P E f).cf c S (pick k is bs)=some (x,vals,blks)→x≠ .normal→(Small S.nxt S→Found N S.nxt k is bs vals blks S2)→Lq P N c S x S2
 |enter {S S2 S':St} {x:X} :(Small S.nxt S→Wk S.tmps S.heap S.nxt S2)→Lq P N c S2 x S'→Lq P N c S x S'
theorem lq_rounds {P:Program} {N:Nat→Prop} {c:Code} {S:St} {x:X} {S':St} (h:Lq P N c S x S')
  {W0:World} {out:Nat→Prop} {g0:Nat→Nat} {n0:Nat} (hN:N n0) {Q:Exit→Act→World→Prop} (hQ:∀a' w',SRel W0 out g0 n0 S' a' w'→Q x.to a' w'):
  ∃n,∀(a:Act) (w:World),SRel W0 out g0 n0 S a w→Code.rounds P c Q n a w:=by
 induction h with
 | @step E L f S S2 S' x is bs k vals blks hE hL he hs _ ih=>
  obtain ⟨n,hn⟩:=ih hQ
  refine ⟨n+1,fun a w hr=> ?_⟩
  rw [rounds_succ]
  obtain ⟨hn',hsm⟩:=hr.small
  refine exec_sound hE (hs_lf hE f) (hs_cf hE f) c hL S _ _ he W0 out g0 n0 a w _ hN hr fun y U a' w' hy ht=> ?_
  obtain ⟨rfl,h1,h2,h3⟩:=pick_some hy
  exact hn a' w' (hs hsm U h1 h2 h3 W0 out g0 n0 a' w' hN hn' ht)
 | @stop E L f S S2 x is bs k vals blks hE hL he hx hs=>
  refine ⟨1,fun a w hr=> ?_⟩
  rw [rounds_succ]
  obtain ⟨hn',hsm⟩:=hr.small
  refine exec_sound hE (hs_lf hE f) (hs_cf hE f) c hL S _ _ he W0 out g0 n0 a w _ hN hr fun y U a' w' hy ht=> ?_
  obtain ⟨rfl,h1,h2,h3⟩:=pick_some hy
  have:=hQ a' w' (hs hsm U h1 h2 h3 W0 out g0 n0 a' w' hN hn' ht)
  cases y with
  |normal=>exact absurd rfl hx
  |exit i=>exact this
  |ret=>exact this
 | @enter S S2 S' x hw _ ih=>
  obtain ⟨n,hn⟩:=ih hQ
  exact ⟨n,fun a w hr=>hn a w (hr.wk hr.small.1 (hw hr.small.2))⟩
theorem lok_q {P:Program} {N:Nat→Prop} {c:Code} {t:LSpec} (h:∀S lt x S',t S=some lt→lt.at=some (x,S')→Lq P N c S x S'):LOKn P N c t:=fun S lt x S' ht hat W0 out g0 n0 a w Q hN hr hQ=>by
 obtain ⟨n,hn⟩:=lq_rounds (h S lt x S' ht hat) hN (Q:=Q) hQ
 exact wp_loop_rounds n (hn a w hr)
theorem look_zip {T:List Value} :∀ {is:List Nat} {i:Nat} {v:Value},look (is.zip (is.map (nth T))) i=some v→nth T i=v
 |[],i,v,h=>by simp [look] at h
 | j ::r,i,v,h=>by
  simp only [List.map_cons,List.zip_cons_cons,look] at h
  cases hb:Nat.beq j i with
  | true=>
   rw [hb] at h
   simp only [cond_true,Option.some.injEq] at h
   rw [←Nat.eq_of_beq_eq_true hb]; exact h
  |false=>rw [hb] at h; exact look_zip h
theorem look_zipH {H:Heap} :∀ {bs:List Nat} {m:Nat} {b:Option Blk},look (bs.zip (bs.map (look H))) m=some b→look H m=b
 |[],m,b,h=>by simp [look] at h
 | j ::r,m,b,h=>by
  simp only [List.map_cons,List.zip_cons_cons,look] at h
  cases hb:Nat.beq j m with
  | true=>
   rw [hb] at h
   simp only [cond_true,Option.some.injEq] at h
   rw [←Nat.eq_of_beq_eq_true hb]; exact h
  |false=>rw [hb] at h; exact look_zipH h
theorem q_of {N:Nat→Prop} {n k:Nat} {is bs:List Nat} {vals:List Value} {blks:List (Option Blk)} {tm:List (Nat×Value)} {hp:List (Nat×Blk)}
  (ht:Each (fun p:Nat×Value=>look (is.zip vals) p.1=some p.2∧Bnd n p.2) tm) (hh:Each (fun q:Nat×Blk=>look (bs.zip blks) q.1=some (some q.2)∧q.1<n∧q.2.clo=true) hp):
  Found N n k is bs vals blks ⟨gbuild tm 0 k,hp,n⟩:=fun U hk hi hb W0 out g0 n0 a w _ hn hr=>by
 subst hi hb
 refine hr.wk hn (wk_of hk ?_ ?_)
 ·have:∀ {l:List (Nat×Value)},Each (fun p:Nat×Value=>look (is.zip (is.map (nth U.tmps))) p.1=some p.2∧Bnd n p.2) l→Each (fun p:Nat×Value=>nth U.tmps p.1=p.2∧Bnd n p.2) l:=by
   intro l h
   induction h with
   |nil=>exact .nil
   |cons h _ ih=>exact .cons ⟨look_zip h.1,h.2⟩ ih
  exact this ht
 ·have:∀ {l:List (Nat×Blk)},Each (fun q:Nat×Blk=>look (bs.zip (bs.map (look U.heap))) q.1=some (some q.2)∧q.1<n∧q.2.clo=true) l→Each (fun q:Nat×Blk=>look U.heap q.1=some q.2∧q.1<n∧q.2.clo=true) l:=by
   intro l h
   induction h with
   |nil=>exact .nil
   |cons h _ ih=>exact .cons ⟨look_zipH h.1,h.2⟩ ih
  exact this hh
theorem qr_of {n k:Nat} {is bs:List Nat} {vals:List Value} {blks:List (Option Blk)} {tm:List (Nat×Value)} {hp:List (Nat×Blk)} {ρ:Nat→Nat}
  (ht:Each (fun p:Nat×Value=>(∃u,look (is.zip vals) p.1=some u∧isGone u=false∧∀g:Nat→Nat,ren g u=ren (fun m=>g (ρ m)) p.2)∧Bnd n p.2) tm) (hh:Each (fun q:Nat×Blk=>look (bs.zip blks) (ρ q.1)=some (some q.2)∧q.1<n∧q.2.clo=true) hp) (hi0:nodB (hp.map fun q=>ρ q.1)=true):
  Found (fun n0=>n0=0) n k is bs vals blks ⟨gbuild tm 0 k,hp,n⟩:=fun U hk hi hb W0 out g0 n0 a w hn0 hn hr=>by
 subst hn0
 subst hi hb
 refine (show SRel W0 out g0 0 U a w from hr).wkR (ρ:=ρ) (n:=n) (wkR_of hk ?_ ?_ hi0)
 ·have:∀ {l:List (Nat×Value)},Each (fun p:Nat×Value=>(∃u,look (is.zip (is.map (nth U.tmps))) p.1=some u∧isGone u=false∧∀g:Nat→Nat,ren g u=ren (fun m=>g (ρ m)) p.2)∧Bnd n p.2) l→Each (fun p:Nat×Value=>(isGone (nth U.tmps p.1)=false∧∀g:Nat→Nat,ren g (nth U.tmps p.1)=ren (fun m=>g (ρ m)) p.2)∧Bnd n p.2) l:=by
   intro l h
   induction h with
   |nil=>exact .nil
   | cons h _ ih=>
    obtain ⟨⟨u,h1,h2,h3⟩,h4⟩:=h
    exact .cons ⟨by rw [look_zip h1]; exact ⟨h2,h3⟩,h4⟩ ih
  exact this ht
 ·have:∀ {l:List (Nat×Blk)},Each (fun q:Nat×Blk=>look (bs.zip (bs.map (look U.heap))) (ρ q.1)=some (some q.2)∧q.1<n∧q.2.clo=true) l→Each (fun q:Nat×Blk=>look U.heap (ρ q.1)=some q.2∧q.1<n∧q.2.clo=true) l:=by
   intro l h
   induction h with
   |nil=>exact .nil
   |cons h _ ih=>exact .cons ⟨look_zipH h.1,h.2⟩ ih
  exact this hh
theorem ruS {l:List (Nat×Nat)} {p q o k c:Nat} (h:mp l p=q):isGone (.slice (some ⟨q,o,none⟩) k c)=false∧∀g:Nat→Nat,ren g (.slice (some ⟨q,o,none⟩) k c)=ren (fun m=>g (mp l m)) (.slice (some ⟨p,o,none⟩) k c):=⟨rfl,fun g=>by rw [ren_slice,ren_slice,h]⟩
theorem ruP {l:List (Nat×Nat)} {p q o:Nat} (h:mp l p=q):isGone (.pointer (some ⟨q,o,none⟩))=false∧∀g:Nat→Nat,ren g (.pointer (some ⟨q,o,none⟩))=ren (fun m=>g (mp l m)) (.pointer (some ⟨p,o,none⟩)):=⟨rfl,fun g=>by rw [ren_ptr,ren_ptr,h]⟩
def gcov (is:List Nat):Nat→List Value→Bool
 |_,[]=>true
 |i,v::r=>(isGone v||memN i is)&&gcov is (i+1) r
theorem gcov_spec {is:List Nat} :∀ {T:List Value} {i j:Nat},gcov is i T=true→j<T.length→isGone (nth T j)=false→memN (i+j) is=true
 |[],i,j,_,hj,_=>by simp at hj
 | v::r,i,0,h,_,hg=>by
  simp only [gcov,Bool.and_eq_true,Bool.or_eq_true] at h
  rcases h.1 with h|h
  ·rw [show nth (v::r) 0=v from rfl,h] at hg; cases hg
  ·exact h
 | v::r,i,j+1,h,hj,hg=>by
  simp only [gcov,Bool.and_eq_true] at h
  have:=gcov_spec (j:=j) h.2 (by simpa using hj) hg
  rwa [show i+1+j=i+(j+1) from by omega] at this
def covB (k:Nat) (is bs:List Nat) (n:Nat) (S2:St):Bool:=
 Nat.beq S2.nxt n&&Nat.beq S2.tmps.length k&&gcov is 0 S2.tmps&&S2.tmps.all (okV (fun m=>Nat.blt m n) 8)&&S2.heap.all (fun q=>memN q.1 bs&&Nat.blt q.1 n&&q.2.clo)
theorem map_at {α β:Type} {f g:α→β} {a:α} :∀ {l:List α},l.map f=l.map g→a∈l→f a=g a
 | x::l,h,hm=>by
  simp only [List.map_cons,List.cons.injEq] at h
  rcases List.mem_cons.1 hm with rfl|hm
  ·exact h.1
  ·exact map_at h.2 hm
theorem found_cov {N:Nat→Prop} {n k:Nat} {is bs:List Nat} {S2:St} (hc:covB k is bs n S2=true):Found N n k is bs (is.map (nth S2.tmps)) (bs.map (look S2.heap)) S2:=fun U hk hi hb W0 out g0 n0 a w _ hn hr=>by
  simp only [covB,Bool.and_eq_true,List.all_eq_true] at hc
  obtain ⟨⟨⟨⟨c1,c2⟩,c3⟩,c4⟩,c5⟩:=hc
  have c1:=Nat.eq_of_beq_eq_true c1
  have c2:=Nat.eq_of_beq_eq_true c2
  refine hr.wk (n:=n) hn ⟨c1,by rw [c2,hk],fun i hg=> ?_,fun m b hm=> ?_,fun v hv=>fun g g' e=>okV_spec (fun m hm=>e m (by simpa [Nat.blt_eq] using hm)) 8 v (c4 v hv),fun m b hm=> ?_⟩
  · by_cases hlt:i<S2.tmps.length
    · have:=gcov_spec c3 hlt hg
      rw [Nat.zero_add] at this
      exact (map_at hi (memN_spec.1 this)).symm
    · rw [nth_ge (by omega),nth_ge (by omega)]
  · have:=c5 _ (look_mem hm)
    exact (map_at hb (memN_spec.1 this.1.1)).trans hm
  · have:=c5 _ (look_mem hm)
    exact ⟨by simpa [Nat.blt_eq] using this.1.2,fun c hc=>(Blk.clo_spec this.2 c hc).bnd n⟩
theorem Lq.to {P:Program} {N:Nat→Prop} {c:Code} {E:Env} {L:List (Nat×LSpec)} {f:Nat} {S S2 S':St} {x:X} {is bs:List Nat} {k:Nat} (hE:EnvOk P E) (hL:LsOkn P N L c)
  (he:exec P E L (hs P E f).lf (hs P E f).cf c S (pick k is bs)=lk is bs .normal S2) (hc:covB k is bs S.nxt S2=true) (h:Lq P N c S2 x S'):Lq P N c S x S':=by
 exact .step hE hL (he.trans lk_eq) (fun _=>found_cov hc) h
theorem Lq.end {P:Program} {N:Nat→Prop} {c:Code} {E:Env} {L:List (Nat×LSpec)} {f:Nat} {S S2:St} {x:X} {is bs:List Nat} {k:Nat} (hE:EnvOk P E) (hL:LsOkn P N L c)
  (he:exec P E L (hs P E f).lf (hs P E f).cf c S (pick k is bs)=lk is bs x S2) (hx:x≠ .normal) (hc:covB k is bs S.nxt S2=true):Lq P N c S x S2:=by
 exact .stop hE hL (he.trans lk_eq) hx (fun _=>found_cov hc)
def covK (k:Nat) (is bs ks:List Nat) (S2:St):Bool:=
 Nat.beq S2.tmps.length k&&gcov is 0 S2.tmps&&S2.tmps.all (okV (fun m=>memN m ks) 8)&&S2.heap.all (fun q=>memN q.1 bs&&memN q.1 ks&&q.2.clo)
theorem look_some_of {H:Heap} {m:Nat} (h:m∈H.map fun q=>q.1):∃b,look H m=some b:=by
 induction H with
 |nil=>simp at h
 | cons q r ih=>
  obtain ⟨j,b⟩:=q
  unfold look
  cases hb:Nat.beq j m with
  |true=>exact ⟨b,rfl⟩
  | false=>
   rw [List.map_cons,List.mem_cons] at h
   rcases h with h|h
   ·have:Nat.beq j m=true:=by rw [h]; exact Nat.beq_refl j
    rw [this] at hb; cases hb
   ·exact ih h
theorem key_lt {H:Heap} {n m:Nat} (hs:∀m b,look H m=some b→m<n∧∀c∈b.cells,Bnd n c) (hm:memN m (H.map fun q=>q.1)=true):m<n:=by
 have:=memN_spec.1 hm
 obtain ⟨b,hb⟩:=look_some_of (H:=H) this
 exact (hs m b hb).1
theorem found_covK {N:Nat→Prop} {k:Nat} {is bs:List Nat} {S S2:St} (hsm:Small S.nxt S) (hx:S2.nxt=S.nxt) (hc:covK k is bs (S.heap.map fun q=>q.1) S2=true):Found N S.nxt k is bs (is.map (nth S2.tmps)) (bs.map (look S2.heap)) S2:=fun U hk hi hb W0 out g0 n0 a w _ hn hr=>by
  simp only [covK,Bool.and_eq_true,List.all_eq_true] at hc
  obtain ⟨⟨⟨c2,c3⟩,c4⟩,c5⟩:=hc
  have c2:=Nat.eq_of_beq_eq_true c2
  refine hr.wk (n:=S.nxt) hn ⟨hx,by rw [c2,hk],fun i hg=> ?_,fun m b hm=> ?_,fun v hv=>fun g g' e=>okV_spec (fun m hm=>e m (key_lt hsm.2 hm)) 8 v (c4 v hv),fun m b hm=> ?_⟩
  · by_cases hlt:i<S2.tmps.length
    · have:=gcov_spec c3 hlt hg
      rw [Nat.zero_add] at this
      exact (map_at hi (memN_spec.1 this)).symm
    · rw [nth_ge (by omega),nth_ge (by omega)]
  · have:=c5 _ (look_mem hm)
    exact (map_at hb (memN_spec.1 this.1.1)).trans hm
  · have:=c5 _ (look_mem hm)
    exact ⟨key_lt hsm.2 this.1.2,fun c hc=>(Blk.clo_spec this.2 c hc).bnd _⟩
abbrev rd (P:Program) (E:Env) (L:List (Nat×LSpec)) (f:Nat) (c:Code) (S:St) (k:Nat) (is bs:List Nat):=exec P E L (hs P E f).lf (hs P E f).cf c S (pick k is bs)
theorem _root_.Eq.ct {α:Type} {r x y:α} {b:Bool} (e:r=bif b then x else y) (h:b=true):r=x:=by rw [e,h]; rfl
theorem _root_.Eq.cf {α:Type} {r x y:α} {b:Bool} (e:r=bif b then x else y) (h:b=false):r=y:=by rw [e,h]; rfl
theorem Lq.toK {P:Program} {N:Nat→Prop} {c:Code} {E:Env} {L:List (Nat×LSpec)} {f:Nat} {S S2 S':St} {x:X} {is bs:List Nat} {k:Nat} (hE:EnvOk P E) (hL:LsOkn P N L c)
  (he:exec P E L (hs P E f).lf (hs P E f).cf c S (pick k is bs)=lk is bs .normal S2) (hx:S2.nxt=S.nxt) (hc:covK k is bs (S.heap.map fun q=>q.1) S2=true) (h:Lq P N c S2 x S'):Lq P N c S x S':=by
 exact .step hE hL (he.trans lk_eq) (fun hsm=>found_covK hsm hx hc) h
theorem Lq.endK {P:Program} {N:Nat→Prop} {c:Code} {E:Env} {L:List (Nat×LSpec)} {f:Nat} {S S2:St} {x:X} {is bs:List Nat} {k:Nat} (hE:EnvOk P E) (hL:LsOkn P N L c)
  (he:exec P E L (hs P E f).lf (hs P E f).cf c S (pick k is bs)=lk is bs x S2) (hx':x≠ .normal) (hx:S2.nxt=S.nxt) (hc:covK k is bs (S.heap.map fun q=>q.1) S2=true):Lq P N c S x S2:=by
 exact .stop hE hL (he.trans lk_eq) hx' (fun hsm=>found_covK hsm hx hc)
theorem Lq.into {P:Program} {N:Nat→Prop} {c:Code} {S S2 S':St} {x:X} (k:Nat) (is bs:List Nat) (hl:Nat.beq S.tmps.length k=true) (hn:S.nxt=S2.nxt) (ht:is.map (nth S.tmps)=is.map (nth S2.tmps)) (hh:bs.map (look S.heap)=bs.map (look S2.heap)) (hc:covB k is bs S2.nxt S2=true) (h:Lq P N c S2 x S'):Lq P N c S x S':=by
  refine .enter (fun _=> ?_) h
  simp only [covB,Bool.and_eq_true,List.all_eq_true] at hc
  obtain ⟨⟨⟨⟨c1,c2⟩,c3⟩,c4⟩,c5⟩:=hc
  have c2:=Nat.eq_of_beq_eq_true c2
  have hl:=Nat.eq_of_beq_eq_true hl
  rw [hn]
  refine ⟨rfl,by rw [c2,hl],fun i hg=> ?_,fun m b hm=> ?_,fun v hv=>fun g g' e=>okV_spec (fun m hm=>e m (by simpa [Nat.blt_eq] using hm)) 8 v (c4 v hv),fun m b hm=> ?_⟩
  · by_cases hlt:i<S2.tmps.length
    · have:=gcov_spec c3 hlt hg
      rw [Nat.zero_add] at this
      exact (map_at ht (memN_spec.1 this)).symm
    · rw [nth_ge (by omega),nth_ge (by omega)]
  · have:=c5 _ (look_mem hm)
    exact (map_at hh (memN_spec.1 this.1.1)).trans hm
  · have:=c5 _ (look_mem hm)
    exact ⟨by simpa [Nat.blt_eq] using this.1.2,fun c hc=>(Blk.clo_spec this.2 c hc).bnd _⟩
end RX
end
section
namespace Go.Proofs.YtpejalpgficopaaGreatDoor.G
set_option maxRecDepth 100000
open Go RX
theorem wu32 (n:Int):IntKind.u32.wrap n=n%4294967296:=by
 simp only [IntKind.wrap,IntKind.signed,IntKind.bits,Bool.false_and,Bool.false_eq_true,if_false]
 rfl
theorem wu64 (n:Int):IntKind.u64.wrap n=n%18446744073709551616:=by
 simp only [IntKind.wrap,IntKind.signed,IntKind.bits,Bool.false_and,Bool.false_eq_true,if_false]
 rfl
theorem wu8 (n:Int):IntKind.u8.wrap n=n%256:=by
 simp only [IntKind.wrap,IntKind.signed,IntKind.bits,Bool.false_and,Bool.false_eq_true,if_false]
 rfl
theorem u32of {n:Int} (h:0≤n) (h':n<4294967296):IntKind.u32.wrap n=n:=by rw [wu32]; exact Int.emod_eq_of_lt h h'
theorem u64of {n:Int} (h:0≤n) (h':n<18446744073709551616):IntKind.u64.wrap n=n:=by rw [wu64]; exact Int.emod_eq_of_lt h h'
theorem or_nat {a c i:Nat} (h:a<2^i):(a|||c*2^i)=a+c*2^i:=by
 rw [Nat.or_comm,Nat.mul_comm c,←Nat.two_pow_add_eq_or_of_lt h]
 omega
theorem orW {k:IntKind} {w:Nat} (hk:k.bits=w) (hs:k.signed=false) {a c:Int} {i:Nat} (ha:0≤a) (h:a<((2^i:Nat):Int)) (hc:0≤c) (hb:a+c*((2^i:Nat):Int)<((2^w:Nat):Int)):bitsOf .or k a (c*((2^i:Nat):Int))=a+c*((2^i:Nat):Int):=by
 obtain ⟨a,rfl⟩:=Int.eq_ofNat_of_zero_le ha
 obtain ⟨c,rfl⟩:=Int.eq_ofNat_of_zero_le hc
 have h':a<2^i:=by exact_mod_cast h
 have hb':a+c*2^i<2^w:=by exact_mod_cast hb
 have e:((c:Int)*((2^i:Nat):Int))=((c*2^i:Nat):Int):=by simp
 have hv:(BitVec.ofInt k.bits (a:Int)|||BitVec.ofInt k.bits ((c*2^i:Nat):Int)).toNat=a+c*2^i:=by
  rw [hk,BitVec.toNat_or]
  simp only [BitVec.ofInt_natCast,BitVec.toNat_ofNat]
  rw [Nat.mod_eq_of_lt (by omega),Nat.mod_eq_of_lt (by omega),or_nat h']
 rw [e]
 unfold bitsOf
 simp only [hv]
 simp only [IntKind.wrap,hs,hk,Bool.false_and,Bool.false_eq_true,if_false]
 rw [Int.emod_eq_of_lt (by omega) (by exact_mod_cast hb')]
 simp
theorem or32 {a c:Int} {i:Nat} (ha:0≤a) (h:a<((2^i:Nat):Int)) (hc:0≤c) (hb:a+c*((2^i:Nat):Int)<4294967296):bitsOf .or .u32 a (c*((2^i:Nat):Int))=a+c*((2^i:Nat):Int):=orW (w:=32) rfl rfl ha h hc (by simpa using hb)
theorem or64 {a c:Int} {i:Nat} (ha:0≤a) (h:a<((2^i:Nat):Int)) (hc:0≤c) (hb:a+c*((2^i:Nat):Int)<18446744073709551616):bitsOf .or .u64 a (c*((2^i:Nat):Int))=a+c*((2^i:Nat):Int):=orW (w:=64) rfl rfl ha h hc (by simpa using hb)
theorem or_comm (k:IntKind) (a b:Int):bitsOf .or k a b=bitsOf .or k b a:=by
 unfold bitsOf
 simp only [BitVec.or_comm]
def nv:List Int→Int
 |[]=>0
 |x::r=>x+4294967296*nv r
def dig (xs:List Int):Prop:=∀x∈xs,0≤x∧x<4294967296
def digB (xs:List Int):Bool:=xs.all fun x=>decide (0≤x)&&decide (x<4294967296)
theorem digB_iff {xs:List Int} :digB xs=true↔dig xs:=by simp [digB,dig]
def dg:Nat→Int→List Int
 |0,_=>[]
 |k+1,v=>v%4294967296::dg k (v/4294967296)
def seg (xs:List Int) (o l:Nat):List Int:=(xs.drop o).take l
def tl:List Int→Nat
 |[]=>0
 | x::r=>match tl r with
  |0=>bif x==0 then 0 else 1
  |k+1=>k+2
theorem dg_length:∀(k:Nat) (v:Int),(dg k v).length=k
 |0,v=>rfl
 |k+1,v=>by simp [dg,dg_length k]
theorem dg_dig:∀(k:Nat) (v:Int),dig (dg k v)
 |0,v=>fun x h=>by simp [dg] at h
 | k+1,v=>fun x h=>by
  simp only [dg,List.mem_cons] at h
  rcases h with rfl|h
  ·exact ⟨Int.emod_nonneg _ (by decide),Int.emod_lt_of_pos _ (by decide)⟩
  ·exact dg_dig k _ x h
def pw (k:Nat):Int:=((4294967296^k:Nat):Int)
theorem pw_zero:pw 0=1:=rfl
theorem pw_succ (k:Nat):pw (k+1)=4294967296*pw k:=by simp only [pw,Nat.pow_succ,Int.natCast_mul]; rw [Int.mul_comm]; rfl
theorem pw_pos (k:Nat):0<pw k:=by
 have:=Nat.pow_pos (n:=k) (show 0<4294967296 by decide)
 simp only [pw]; omega
theorem nv_dg:∀(k:Nat) (v:Int),0≤v→v<pw k→nv (dg k v)=v
 |0,v,h,h'=>by rw [pw_zero] at h'; simp only [dg,nv]; omega
 | k+1,v,h,h'=>by
  rw [pw_succ] at h'
  have hp:=pw_pos k
  simp only [dg,nv]
  rw [nv_dg k _ (Int.ediv_nonneg h (by decide)) (Int.ediv_lt_of_lt_mul (by decide) (by rw [Int.mul_comm]; exact h'))]
  exact Int.emod_add_mul_ediv v 4294967296
theorem nv_nonneg:∀ {xs:List Int},dig xs→0≤nv xs
 |[],_=>by simp [nv]
 | x::r,h=>by
  have h1:=h x (by simp)
  have h2:=nv_nonneg (xs:=r) fun y hy=>h y (by simp [hy])
  simp only [nv]; omega
theorem nv_lt:∀ {xs:List Int},dig xs→nv xs<pw xs.length
 |[],_=>by simp [nv,pw_zero]
 | x::r,h=>by
  have h1:=h x (by simp)
  have h2:=nv_lt (xs:=r) fun y hy=>h y (by simp [hy])
  simp only [nv,List.length_cons,pw_succ]; omega
theorem dg_nv:∀ {xs:List Int},dig xs→dg xs.length (nv xs)=xs
 |[],_=>rfl
 | x::r,h=>by
  have h1:=h x (by simp)
  have e1:(x+4294967296*nv r)%4294967296=x:=by omega
  have e2:(x+4294967296*nv r)/4294967296=nv r:=by omega
  simp only [nv,List.length_cons,dg,e1,e2]
  rw [dg_nv fun y hy=>h y (by simp [hy])]
theorem nv_append:∀(xs ys:List Int),nv (xs++ys)=nv xs+pw xs.length*nv ys
 |[],ys=>by simp [nv,pw_zero]
 | x::r,ys=>by
  simp only [List.cons_append,nv,nv_append r ys,List.length_cons,pw_succ,Int.mul_add,Int.mul_assoc]
  omega
theorem dig_seg {xs:List Int} (h:dig xs) (o l:Nat):dig (seg xs o l):=fun x hx=>h x (List.mem_of_mem_drop (List.mem_of_mem_take hx))
theorem seg_length {xs:List Int} {o l:Nat} (h:o+l≤xs.length):(seg xs o l).length=l:=by simp [seg]; omega
theorem seg_succ {xs:List Int} {o l:Nat} (h:o+l<xs.length):seg xs o (l+1)=seg xs o l++[xs.getD (o+l) 0]:=by
 unfold seg
 rw [List.take_add_one,List.getElem?_drop,List.getElem?_eq_getElem h,List.getD_eq_getElem?_getD,List.getElem?_eq_getElem h]
 rfl
theorem seg_zero (xs:List Int) (o:Nat):seg xs o 0=[]:=by simp [seg]
theorem seg_all (xs:List Int):seg xs 0 xs.length=xs:=by simp [seg]
theorem seg_dg (k:Nat) (v:Int):seg (dg k v) 0 k=dg k v:=by
 have:=seg_all (dg k v)
 rwa [dg_length] at this
theorem tl_app_zero:∀(xs:List Int),tl (xs++[0])=tl xs
 |[]=>rfl
 |x::r=>by simp only [List.cons_append,tl,tl_app_zero r]
theorem tl_app:∀(xs:List Int) {x:Int},x≠0→tl (xs++[x])=xs.length+1
 |[],x,h=>by simp [tl,beq_of h]
 |y::r,x,h=>by simp only [List.cons_append,tl,tl_app r h,List.length_cons]
theorem tl_le:∀(xs:List Int),tl xs≤xs.length
 |[]=>Nat.le_refl _
 | x::r=>by
  have:=tl_le r
  simp only [tl,List.length_cons]
  split
  ·cases x==0<;>simp
  ·rename_i k hk; omega
theorem nv_take_tl:∀(xs:List Int),nv (xs.take (tl xs))=nv xs
 |[]=>rfl
 | x ::r=>by
  have ih:=nv_take_tl r
  simp only [tl]
  split
  ·rename_i h0
   rw [h0] at ih
   simp only [List.take_zero,nv] at ih
   cases hx:x==0 with
   | true=>
    have:x=0:=by simpa using hx
    simp only [cond_true,List.take_zero,nv]; omega
   |false=>simp only [cond_false,List.take_succ_cons,List.take_zero,nv]; omega
  ·rename_i k hk
   rw [hk] at ih
   simp only [List.take_succ_cons,nv,ih]
theorem tl_zero:∀ {xs:List Int},dig xs→(tl xs=0↔nv xs=0)
 |[],_=>by simp [tl,nv]
 | x ::r,h=>by
  have h1:=h x (by simp)
  have hr:dig r:=fun y hy=>h y (by simp [hy])
  have ih:=tl_zero hr
  have h2:=nv_nonneg hr
  simp only [tl,nv]
  split
  ·rename_i h0
   have:=ih.1 h0
   cases hx:x==0 with
   | true=>
    have:x=0:=by simpa using hx
    simp only [cond_true,true_iff]; omega
   | false=>
    have:x≠0:=by simpa using hx
    simp only [cond_false]; omega
  ·rename_i k hk
   have:nv r≠0:=fun e=>by have:=ih.2 e; omega
   omega
theorem tl_ge:∀ {xs:List Int} {k:Nat},dig xs→tl xs=k+1→pw k≤nv xs
 |[],k,_,h=>by simp [tl] at h
 | x ::r,k,hd,h=>by
  have h1:=hd x (by simp)
  have hr:dig r:=fun y hy=>hd y (by simp [hy])
  have h2:=nv_nonneg hr
  simp only [tl] at h
  simp only [nv]
  split at h
  ·cases hx:x==0 with
   |true=>rw [hx] at h; simp at h
   | false=>
    rw [hx] at h
    have:x≠0:=by simpa using hx
    have:k=0:=by simpa using h.symm
    subst this
    rw [pw_zero]; omega
  ·rename_i j hj
   have:k=j+1:=by omega
   subst this
   have:=tl_ge hr hj
   rw [pw_succ]; omega
theorem nv_seg_tl {xs:List Int} (h:dig xs) (k:Nat):nv (seg xs 0 (tl xs))=nv xs:=by
 unfold seg
 rw [List.drop_zero,nv_take_tl]
theorem getD_seg {xs:List Int} {o l i:Nat} (hi:i<l):(seg xs o l).getD i 0=xs.getD (o+i) 0:=by
 simp only [seg,List.getD_eq_getElem?_getD,List.getElem?_take,hi,if_true,List.getElem?_drop]
theorem dig_getD {xs:List Int} (h:dig xs) (i:Nat):0≤xs.getD i 0∧xs.getD i 0<4294967296:=by
 rw [List.getD_eq_getElem?_getD]
 cases hx:xs[i]? with
 |none=>simp
 |some v=>exact h v (List.mem_of_getElem? hx)
theorem nv_seg_succ {xs:List Int} {o l:Nat} (h:o+l<xs.length):nv (seg xs o (l+1))=nv (seg xs o l)+pw l*xs.getD (o+l) 0:=by
 rw [seg_succ h,nv_append,seg_length (by omega)]
 simp [nv]
theorem got_at {need:Bool} {x y:X} {S U:St} (h:(LT.got need x S).at=some (y,U)):need=true∧x=y∧S=U:=by
 cases need with
 |false=>cases h
 | true=>
  simp only [LT.at,cond_true,Option.some.injEq,Prod.mk.injEq] at h
  exact ⟨rfl,h.1,h.2⟩
end Go.Proofs.YtpejalpgficopaaGreatDoor.G
end
section
namespace Go.Proofs.YtpejalpgficopaaGreatDoor.G
set_option maxRecDepth 100000
open Go Go.Proofs RX
section
variable {N:Nat→Prop} {xe:X} {Se:St} (o l c:Nat) (xs:List Int) (ty:TypeId) (nx:Nat)
abbrev trim.st:St:=⟨gbuild [(0,.slice (some ⟨0,o,none⟩) l c)] 0 21,[(0,.is .u32 xs ty)],nx⟩
abbrev trim.lk:=RX.lk [0] [0]
theorem trim.rnd:rd Tryz.prog ⟨[],[],[]⟩ [] 3 (loopCode Tryz.f205 0) (trim.st o l c xs ty nx) 21 [0] [0]=
 bif decide (((l:Nat):Int)>0) then bif decide (0≤IntKind.i64.wrap (((l:Nat):Int)-1))&&decide (IntKind.i64.wrap (((l:Nat):Int)-1)<((l:Nat):Int)) then bif (o+(IntKind.i64.wrap (((l:Nat):Int)-1)).toNat*1).blt xs.length then bif xs.getD (o+(IntKind.i64.wrap (((l:Nat):Int)-1)).toNat*1) 0==0 then bif decide (0≤IntKind.i64.wrap (((l:Nat):Int)-1))&&decide (IntKind.i64.wrap (((l:Nat):Int)-1)≤((c:Nat):Int))&&true then trim.lk .normal (trim.st o ((IntKind.i64.wrap (((l:Nat):Int)-1)).toNat-0) (c-0) xs ty nx) else none else trim.lk (.exit 0) (trim.st o l c xs ty nx) else none else none else trim.lk (.exit 0) (trim.st o l c xs ty nx):=by kernel_rfl
def trim.step0:=fun h0 h1 h2 h3 h4 (ih:Lq Tryz.prog N (loopCode Tryz.f205 0) _ xe Se)=>Lq.toK (f:=3) ⟨specs_nil,inl_nil,mixed_ok,lps_nil⟩ lsOk_nil ((((((trim.rnd o l c xs ty nx).ct h0).ct h1).ct h2).ct h3).ct h4) rfl rfl ih
def trim.stop1:=fun h0 h1 h2 h3=>Lq.endK (N:=N) (f:=3) ⟨specs_nil,inl_nil,mixed_ok,lps_nil⟩ lsOk_nil (((((trim.rnd o l c xs ty nx).ct h0).ct h1).ct h2).cf h3) (fun q=>by cases q) rfl rfl
def trim.stop2:=fun h0=>Lq.endK (N:=N) (f:=3) ⟨specs_nil,inl_nil,mixed_ok,lps_nil⟩ lsOk_nil ((trim.rnd o l c xs ty nx).cf h0) (fun q=>by cases q) rfl rfl
end
def trim.ok (o l c:Nat) (xs:List Int):Bool:=Nat.ble (o+l) xs.length&&(Nat.ble l c&&Nat.ble c 1152921504606846976)
def trim.lt (o l c:Nat) (xs:List Int) (ty:TypeId) (nx:Nat):LT:= .got (trim.ok o l c xs) (.exit 0) (trim.st o (tl (seg xs o l)) c xs ty nx)
theorem nat_wrap_pred {l:Nat} (h:l<4611686018427387904):IntKind.i64.wrap ((((l+1:Nat):Nat):Int)-1)=(l:Int):=by rw [w64 (by omega) (by omega)]; omega
theorem dtrue {p:Prop} [Decidable p] (h:p):decide p=true:=decide_eq_true h
theorem dtrue2 {p q:Prop} [Decidable p] [Decidable q] (h:p) (h':q):(decide p&&decide q)=true:=by simp [h,h']
theorem dfalse {p:Prop} [Decidable p] (h:¬p):decide p=false:=decide_eq_false h
theorem blt_of {a b:Nat} (h:a<b):a.blt b=true:=by simpa [Nat.blt_eq] using h
theorem trim.go {N:Nat→Prop} (o c:Nat) (xs:List Int) (ty:TypeId) (nx:Nat):∀(l:Nat),o+l≤xs.length→l≤c→c≤1152921504606846976→Lq Tryz.prog N (loopCode Tryz.f205 0) (trim.st o l c xs ty nx) (.exit 0) (trim.st o (tl (seg xs o l)) c xs ty nx)
 | 0,_,_,_=>by
  rw [seg_zero]
  exact trim.stop2 _ _ _ _ _ _ rfl
 | l +1,h1,h2,h3=>by
  have e1:=nat_wrap_pred (l:=l) (by omega)
  have c0:(decide ((((l+1:Nat):Nat):Int)>0))=true:=dtrue (by omega)
  have c1:(decide (0≤IntKind.i64.wrap ((((l+1:Nat):Nat):Int)-1))&&decide (IntKind.i64.wrap ((((l+1:Nat):Nat):Int)-1)<(((l+1:Nat):Nat):Int)))=true:=by rw [e1]; exact dtrue2 (by omega) (by omega)
  have c2:(o+(IntKind.i64.wrap ((((l+1:Nat):Nat):Int)-1)).toNat*1).blt xs.length=true:=by rw [e1]; exact blt_of (by simp; omega)
  have e2:o+(IntKind.i64.wrap ((((l+1:Nat):Nat):Int)-1)).toNat*1=o+l:=by rw [e1]; simp
  by_cases hx:xs.getD (o+l) 0=0
  ·refine trim.step0 _ _ _ _ _ _ c0 c1 c2 (by rw [e2,hx]; rfl) (by rw [e1]; simp only [Bool.and_true]; exact dtrue2 (by omega) (by omega)) ?_
   rw [e1,seg_succ (by omega),hx,tl_app_zero]
   exact trim.go o c xs ty nx l (by omega) (by omega) h3
  ·rw [seg_succ (by omega),tl_app _ hx,seg_length (by omega)]
   exact trim.stop1 _ _ _ _ _ _ c0 c1 c2 (by rw [e2]; exact beq_of hx)
theorem trim.lp {N:Nat→Prop} (o l c:Nat) (xs:List Int) (ty:TypeId) (nx:Nat) {x:X} {S':St} (h:(trim.lt o l c xs ty nx).at=some (x,S')):Lq Tryz.prog N (loopCode Tryz.f205 0) (trim.st o l c xs ty nx) x S':=by
 obtain ⟨h1,rfl,rfl⟩:=got_at h
 simp only [trim.ok,Bool.and_eq_true,Nat.ble_eq] at h1
 exact trim.go o c xs ty nx l h1.1 h1.2.1 h1.2.2
def trim.t:LSpec:=fun S=>match RX.nth S.tmps 0,RX.look S.heap 0 with
 | .slice (some ⟨0,o,none⟩) l c,some (.is .u32 xs ty)=>bif Nat.beq S.tmps.length 21 then some (trim.lt o l c xs ty S.nxt) else none
 |_,_=>none
theorem trim.lok {N:Nat→Prop} :LOKn Tryz.prog N (loopCode Tryz.f205 0) (trim.t):=by
 refine lok_q fun S lt x S' ht hat=> ?_
 unfold trim.t at ht
 split at ht
 ·rename_i o l c xs ty h0 g0
  cases hb:Nat.beq S.tmps.length 21 with
  |false=>rw [hb] at ht; cases ht
  | true=>
   rw [hb] at ht
   injection ht with ht
   subst ht
   have hb:=Nat.eq_of_beq_eq_true hb
   exact .enter (fun h=>wk_of hb (.cons ⟨h0,bnth h h0⟩ .nil) (.cons ⟨g0,bname h g0,rfl⟩ .nil)) (trim.lp _ _ _ _ _ _ hat)
 ·cases ht
def bigint_trim.sp:HSpec
 |[.slice (some ⟨0,o,none⟩) l c],[.is .u32 xs ty]=>some (trim.ok o l c xs,.slice (some ⟨0,o,none⟩) (tl (seg xs o l)) c,[.is .u32 xs ty])
 |_,_=>none
theorem bigint_trim.run (o l c:Nat) (xs:List Int) (ty:TypeId):xfnN Tryz.prog ⟨[],[],[]⟩ [(0,trim.t)] 10 Tryz.f205 [.slice (some ⟨0,o,none⟩) l c] [.is .u32 xs ty] []=bif trim.ok o l c xs then some (ren (rho 1 []) (.slice (some ⟨0,o,none⟩) (tl (seg xs o l)) c),[.is .u32 xs ty]) else none:=by kernel_rfl
theorem bigint_trim.ok:SOK Tryz.prog 205 bigint_trim.sp:=by
 refine sok_ofN (E:=⟨[],[],[]⟩) (L:=[(0,trim.t)]) ⟨specs_nil,inl_nil,mixed_ok,lps_nil⟩ 10 Tryz.func205 (by decide) rfl (one_loop rfl rfl trim.lok) fun vs bl v bl' h=> ?_
 unfold bigint_trim.sp at h
 split at h
 ·simp only [Option.some.injEq,Prod.mk.injEq] at h
  obtain ⟨h1,rfl,rfl⟩:=h
  exact ⟨[],(bigint_trim.run _ _ _ _ _).trans (ct h1),by simp [okV,Nat.blt],rfl,told_blk rfl,List.nodup_nil,by simp⟩
 ·cases h
end Go.Proofs.YtpejalpgficopaaGreatDoor.G
end
section
namespace Go.Proofs.YtpejalpgficopaaGreatDoor.G
set_option maxRecDepth 100000
open Go RX
def p8 (k:Nat):Int:=((256^k:Nat):Int)
theorem p8_zero:p8 0=1:=rfl
theorem p8_succ (k:Nat):p8 (k+1)=256*p8 k:=by simp only [p8,Nat.pow_succ,Int.natCast_mul]; rw [Int.mul_comm]; rfl
theorem p8_pos (k:Nat):0<p8 k:=by
 have:=Nat.pow_pos (n:=k) (show 0<256 by decide)
 simp only [p8]; omega
theorem p8_add (a b:Nat):p8 (a+b)=p8 a*p8 b:=by simp only [p8,Nat.pow_add,Int.natCast_mul]
theorem p8_four (k:Nat):p8 (4*k)=pw k:=by simp only [p8,pw,Nat.pow_mul]
def ub (v:Int):UInt8:=UInt8.ofNat (v%256).toNat
theorem ub_toNat (v:Int):((ub v).toNat:Int)=v%256:=by
 have h1:=Int.emod_nonneg v (show (256:Int)≠0 by decide)
 have h2:=Int.emod_lt_of_pos v (show (0:Int)<256 by decide)
 unfold ub
 rw [UInt8.toNat_ofNat',Nat.mod_eq_of_lt (by omega)]
 omega
def be:Nat→Int→List UInt8
 |0,_=>[]
 |k+1,v=>be k (v/256)++[ub v]
def lv:List UInt8→Int
 |[]=>0
 |b::r=>(b.toNat:Int)+256*lv r
def bv (l:List UInt8):Int:=lv l.reverse
theorem be_length:∀(k:Nat) (v:Int),(be k v).length=k
 |0,v=>rfl
 |k+1,v=>by simp [be,be_length k]
theorem lv_nonneg:∀(l:List UInt8),0≤lv l
 |[]=>by simp [lv]
 |b::r=>by have:=lv_nonneg r; simp only [lv]; omega
theorem bv_nonneg (l:List UInt8):0≤bv l:=lv_nonneg _
theorem lv_lt:∀(l:List UInt8),lv l<p8 l.length
 |[]=>by simp [lv,p8_zero]
 | b::r=>by
  have h1:=lv_lt r
  have h2:b.toNat<256:=b.toNat_lt
  simp only [lv,List.length_cons,p8_succ]
  omega
theorem bv_lt (l:List UInt8):bv l<p8 l.length:=by have:=lv_lt l.reverse; rwa [List.length_reverse] at this
theorem bv_snoc (l:List UInt8) (b:UInt8):bv (l++[b])=256*bv l+b.toNat:=by simp [bv,lv]; omega
theorem bv_be:∀(k:Nat) (v:Int),0≤v→v<p8 k→bv (be k v)=v
 |0,v,h,h'=>by rw [p8_zero] at h'; simp only [be,bv,List.reverse_nil,lv]; omega
 | k+1,v,h,h'=>by
  rw [p8_succ] at h'
  simp only [be]
  rw [bv_snoc,bv_be k _ (by omega) (by omega),ub_toNat]
  omega
theorem bv_cons:∀(b:UInt8) (l:List UInt8),bv (b::l)=b.toNat*p8 l.length+bv l:=by
 have key:∀(l:List UInt8) (b:UInt8),lv (l++[b])=lv l+p8 l.length*b.toNat:=by
  intro l b
  induction l with
  |nil=>simp [lv,p8_zero]
  | cons x r ih=>
   simp only [List.cons_append,lv,ih,List.length_cons,p8_succ,Int.mul_add,Int.mul_assoc]
   omega
 intro b l
 simp only [bv,List.reverse_cons]
 rw [key,List.length_reverse,Int.mul_comm]
 omega
theorem be_bv:∀(l:List UInt8),be l.length (bv l)=l:=by
 intro l
 have key:∀(m:List UInt8),be m.length (lv m)=m.reverse:=by
  intro m
  induction m with
  |nil=>rfl
  | cons b r ih=>
   have h2:b.toNat<256:=b.toNat_lt
   have e1:((b.toNat:Int)+256*lv r)/256=lv r:=by omega
   have e2:ub ((b.toNat:Int)+256*lv r)=b:=by
    apply UInt8.toNat_inj.1
    have:=ub_toNat ((b.toNat:Int)+256*lv r)
    omega
   simp only [List.length_cons,be,lv,e1,e2,ih,List.reverse_cons]
 have:=key l.reverse
 rwa [List.length_reverse,List.reverse_reverse] at this
def tz:List UInt8→List UInt8
 |[]=>[]
 |b::r=>bif b.toNat==0 then tz r else b::r
theorem bv_tz:∀(l:List UInt8),bv (tz l)=bv l
 |[]=>rfl
 | b ::r=>by
  simp only [tz]
  cases hb:b.toNat==0 with
  | true=>
   have:b.toNat=0:=by simpa using hb
   rw [cond_true,bv_tz r,bv_cons,this]; simp
  |false=>rfl
theorem tz_be_succ (k:Nat) (v:Int) (h0:0≤v) (h:v<p8 k):tz (be (k+1) v)=tz (be k v):=by
 have e:be (k+1) v=0::be k v:=by
  have h1:=be_bv (0::be k v)
  have h2:bv (0::be k v)=v:=by rw [bv_cons,bv_be k v h0 h]; simp
  rw [h2,List.length_cons,be_length] at h1
  exact h1
 rw [e]; rfl
theorem p8_mono {j k:Nat} (h:j≤k):p8 j≤p8 k:=by
 have:=Nat.pow_le_pow_right (show 0<256 by decide) h
 simp only [p8]; omega
theorem tz_be {k j:Nat} {v:Int} (h0:0≤v) (h:v<p8 j) (hjk:j≤k):tz (be k v)=tz (be j v):=by
 obtain ⟨d,rfl⟩:=Nat.exists_eq_add_of_le hjk
 clear hjk
 induction d with
 |zero=>rfl
 |succ d ih=>rw [←ih,←Nat.add_assoc]; exact tz_be_succ _ v h0 (Int.lt_of_lt_of_le h (p8_mono (by omega)))
def bl (v:Int):Nat:=v.toNat.log2/8+1
theorem lt_bl {v:Int} (h:0≤v):v<p8 (bl v):=by
 obtain ⟨n,rfl⟩:=Int.eq_ofNat_of_zero_le h
 have e:p8 (bl (n:Int))=((256^(n.log2/8+1):Nat):Int):=rfl
 rw [e]
 have h1:n<2^(n.log2+1):=Nat.lt_log2_self
 have h2:2^(n.log2+1)≤256^(n.log2/8+1):=by
  rw [show (256:Nat)=2^8 from rfl,←Nat.pow_mul]
  exact Nat.pow_le_pow_right (by decide) (by omega)
 exact_mod_cast Nat.lt_of_lt_of_le h1 h2
def enc (v:Int):List UInt8:=tz (be (bl v) v)
theorem enc_eq {v:Int} {k:Nat} (h:0≤v) (hk:v<p8 k):tz (be k v)=enc v:=by
 unfold enc
 rcases Nat.le_total k (bl v) with h1|h1
 ·exact (tz_be h hk h1).symm
 ·exact tz_be h (lt_bl h) h1
theorem bv_enc {v:Int} (h:0≤v):bv (enc v)=v:=by rw [enc,bv_tz,bv_be _ v h (lt_bl h)]
theorem enc_bv {l:List UInt8} (h:tz l=l):enc (bv l)=l:=by
 rw [←enc_eq (bv_nonneg l) (bv_lt l),be_bv,h]
theorem tz_tz:∀(l:List UInt8),tz (tz l)=tz l
 |[]=>rfl
 | b::r=>by
  simp only [tz]
  cases hb:b.toNat==0 with
  |true=>rw [cond_true,tz_tz r]
  |false=>rw [cond_false,tz,hb]; rfl
theorem tz_enc (v:Int):tz (enc v)=enc v:=tz_tz _
theorem enc_nil {v:Int} (h:0≤v):enc v=[]↔v=0:=by
 constructor
 ·intro e
  have:=bv_enc h
  rw [e] at this
  simpa [bv,lv] using this.symm
 ·rintro rfl; rfl
theorem tz_length:∀(l:List UInt8),(tz l).length≤l.length
 |[]=>Nat.le_refl _
 | b::r=>by
  simp only [tz]
  cases b.toNat==0 with
  |true=>exact Nat.le_succ_of_le (tz_length r)
  |false=>exact Nat.le_refl _
theorem enc_length {v:Int} {k:Nat} (h:0≤v) (hk:v<p8 k):(enc v).length≤k:=by
 rw [←enc_eq h hk]
 exact Nat.le_trans (tz_length _) (by rw [be_length]; exact Nat.le_refl _)
theorem ub_mod {v w:Int} (h:v%256=w%256):ub v=ub w:=by unfold ub; rw [h]
theorem be_mod:∀(b:Nat) (w x:Int),be b (w+p8 b*x)=be b w
 |0,w,x=>rfl
 | b+1,w,x=>by
  have e1:(w+256*p8 b*x)/256=w/256+p8 b*x:=by rw [Int.mul_assoc]; omega
  have e2:ub (w+256*p8 b*x)=ub w:=ub_mod (by rw [Int.mul_assoc]; omega)
  simp only [be,p8_succ,e1,e2,be_mod b]
theorem be_add (a:Nat):∀(b:Nat) (v:Int),be (a+b) v=be a (v/p8 b)++be b v
 |0,v=>by simp [be,p8_zero]
 | b+1,v=>by
  rw [←Nat.add_assoc]
  simp only [be,be_add a b,p8_succ,List.append_assoc]
  rw [Int.ediv_ediv,if_neg (by omega),Int.sub_zero]
def tb (n:Int):UInt8:=UInt8.ofNat n.toNat
theorem tb_wrap (n:Int):tb (IntKind.u8.wrap n)=ub n:=by rw [wu8]; rfl
theorem p8_two (r:Nat):p8 r=((2^(8*r):Nat):Int):=by simp only [p8,Nat.pow_mul]
theorem getD_dg_lt:∀(q n:Nat) (v:Int) (r:Nat),0≤v→v<p8 (4*q+r)→r≤4→(dg n v).getD q 0<p8 r
 |q,0,v,r,_,_,_=>by have:=p8_pos r; simpa [dg] using this
 | 0,n+1,v,r,h0,h,_=>by
  rw [Nat.mul_zero,Nat.zero_add] at h
  simp only [dg,List.getD_cons_zero]
  omega
 | q+1,n+1,v,r,h0,h,hr=>by
  rw [show 4*(q+1)+r=4+(4*q+r) from by omega,p8_add] at h
  have h4:p8 4=4294967296:=by decide
  rw [h4] at h
  simp only [dg,List.getD_cons_succ]
  exact getD_dg_lt q n _ r (by omega) (by omega) hr
theorem set_dg:∀(q n:Nat) (v:Int) (r:Nat) (b:Int),q<n→r<4→0≤v→v<p8 (4*q+r)→0≤b→b<256→dg n (v+p8 (4*q+r)*b)=(dg n v).set q ((dg n v).getD q 0+b*p8 r)
 |q,0,v,r,b,h,_,_,_,_,_=>by omega
 | 0,n+1,v,r,b,_,hr,h0,h,hb,hb'=>by
  rw [Nat.mul_zero,Nat.zero_add] at h ⊢
  have hp:=p8_pos r
  have h3:p8 r*b≤p8 r*255:=Int.mul_le_mul_of_nonneg_left (by omega) (by omega)
  have h5:0≤p8 r*b:=Int.mul_nonneg (by omega) hb
  have h4:p8 r≤16777216:=Int.le_trans (p8_mono (show r≤3 by omega)) (by decide)
  have e1:(v+p8 r*b)%4294967296=v+p8 r*b:=Int.emod_eq_of_lt (by omega) (by omega)
  have e2:(v+p8 r*b)/4294967296=0:=Int.ediv_eq_zero_of_lt (by omega) (by omega)
  have e3:v%4294967296=v:=Int.emod_eq_of_lt h0 (by omega)
  have e4:v/4294967296=0:=Int.ediv_eq_zero_of_lt h0 (by omega)
  simp only [dg,e1,e2,e3,e4,List.set_cons_zero,List.getD_cons_zero,Int.mul_comm b]
 | q +1,n+1,v,r,b,hq,hr,h0,h,hb,hb'=>by
  have e:p8 (4*(q+1)+r)=4294967296*p8 (4*q+r):=by
   rw [show 4*(q+1)+r=4+(4*q+r) from by omega,p8_add]; rfl
  rw [e] at h ⊢
  have e1:(v+4294967296*p8 (4*q+r)*b)%4294967296=v%4294967296:=by rw [Int.mul_assoc]; omega
  have e2:(v+4294967296*p8 (4*q+r)*b)/4294967296=v/4294967296+p8 (4*q+r)*b:=by rw [Int.mul_assoc]; omega
  simp only [dg,e1,e2,List.set_cons_succ,List.getD_cons_succ]
  rw [set_dg q n (v/4294967296) r b (by omega) hr (by omega) (by omega) hb hb']
theorem lv_snoc:∀(l:List UInt8) (b:UInt8),lv (l++[b])=lv l+p8 l.length*b.toNat
 |[],b=>by simp [lv,p8_zero]
 | x::r,b=>by
  simp only [List.cons_append,lv,lv_snoc r b,List.length_cons,p8_succ,Int.mul_add,Int.mul_assoc]
  omega
end Go.Proofs.YtpejalpgficopaaGreatDoor.G
end
section
namespace Go.Proofs.YtpejalpgficopaaGreatDoor.G
set_option maxRecDepth 100000
open Go Go.Proofs RX
section
variable {N:Nat→Prop} {xe:X} {Se:St} (s:ByteArray) (c:Int) (nx:Nat)
abbrev tlb.st:St:=⟨gbuild [(0,.string s),(1,.int .u8 c)] 0 17,[],nx⟩
abbrev tlb.lk:=RX.lk [0,1] []
theorem tlb.rnd:rd Tryz.prog ⟨[],[],[]⟩ [] 3 (loopCode Tryz.f229 0) (tlb.st s c nx) 17 [0,1] []=
 bif decide (((s.size:Nat):Int)>0) then bif decide (0≤0)&&decide (0<((s.size:Nat):Int)) then bif (((s.data.toList.getD (Int.toNat 0) 0).toNat:Nat):Int)==c then bif true&&(decide (0≤1)&&decide (1≤((s.size:Nat):Int))) then tlb.lk .normal (tlb.st (subL s.data.toList (Int.toNat 1) s.size) c nx) else none else tlb.lk (.exit 0) (tlb.st s c nx) else none else tlb.lk (.exit 0) (tlb.st s c nx):=by kernel_rfl
def tlb.step0:=fun h0 h1 h2 h3 (ih:Lq Tryz.prog N (loopCode Tryz.f229 0) _ xe Se)=>Lq.toK (f:=3) ⟨specs_nil,inl_nil,mixed_ok,lps_nil⟩ lsOk_nil (((((tlb.rnd s c nx).ct h0).ct h1).ct h2).ct h3) rfl rfl ih
def tlb.stop1:=fun h0 h1 h2=>Lq.endK (N:=N) (f:=3) ⟨specs_nil,inl_nil,mixed_ok,lps_nil⟩ lsOk_nil ((((tlb.rnd s c nx).ct h0).ct h1).cf h2) (fun q=>by cases q) rfl rfl
def tlb.stop2:=fun h0=>Lq.endK (N:=N) (f:=3) ⟨specs_nil,inl_nil,mixed_ok,lps_nil⟩ lsOk_nil ((tlb.rnd s c nx).cf h0) (fun q=>by cases q) rfl rfl
end
def tc (c:Int):List UInt8→List UInt8
 |[]=>[]
 |b::r=>bif ((b.toNat:Nat):Int)==c then tc c r else b::r
theorem tc_zero:∀(l:List UInt8),tc 0 l=tz l
 |[]=>rfl
 | b ::r=>by
  simp only [tc,tz,tc_zero r]
  have:(((b.toNat:Nat):Int)==0)=(b.toNat==0):=by
   cases h:b.toNat==0 with
   |true=>simpa using h
   |false=>simp at h ⊢; exact h
  rw [this]
def str (l:List UInt8):ByteArray:=⟨⟨l⟩⟩
def tlb.lt (s:ByteArray) (c:Int) (nx:Nat):LT:= .got (Nat.ble s.size 1152921504606846976) (.exit 0) (tlb.st (str (tc c s.data.toList)) c nx)
theorem str_size (l:List UInt8):(str l).size=l.length:=rfl
theorem tlb.go {N:Nat→Prop} (c:Int) (nx:Nat):∀(l:List UInt8),l.length≤1152921504606846976→Lq Tryz.prog N (loopCode Tryz.f229 0) (tlb.st (str l) c nx) (.exit 0) (tlb.st (str (tc c l)) c nx)
 |[],_=>tlb.stop2 _ _ _ rfl
 | b ::r,h=>by
  have c0:(decide ((((str (b::r)).size:Nat):Int)>0))=true:=dtrue (by rw [str_size,List.length_cons]; omega)
  have c1:(decide (0≤0)&&decide (0<(((str (b::r)).size:Nat):Int)))=true:=dtrue2 (by omega) (by rw [str_size,List.length_cons]; omega)
  have hg:((str (b::r)).data.toList.getD (Int.toNat 0) 0)=b:=rfl
  simp only [List.length_cons] at h
  cases hb:((b.toNat:Nat):Int)==c with
  | true=>
   refine tlb.step0 _ _ _ c0 c1 (by rw [hg]; exact hb) (by simp only [Bool.true_and]; exact dtrue2 (by omega) (by rw [str_size,List.length_cons]; omega)) ?_
   have e:subL (str (b::r)).data.toList (Int.toNat 1) (str (b::r)).size=str r:=by
    show (⟨⟨((b::r).drop 1).take ((b::r).length-1)⟩⟩:ByteArray)=⟨⟨r⟩⟩
    simp
   rw [e]
   simp only [tc,hb,cond_true]
   exact tlb.go c nx r (by omega)
  | false=>
   simp only [tc,hb,cond_false]
   exact tlb.stop1 _ _ _ c0 c1 (by rw [hg]; exact hb)
theorem tlb.lp {N:Nat→Prop} (s:ByteArray) (c:Int) (nx:Nat) {x:X} {S':St} (h:(tlb.lt s c nx).at=some (x,S')):Lq Tryz.prog N (loopCode Tryz.f229 0) (tlb.st s c nx) x S':=by
 obtain ⟨h1,rfl,rfl⟩:=got_at h
 exact tlb.go c nx s.data.toList (Nat.le_of_ble_eq_true h1)
def tlb.t:LSpec:=fun S=>match RX.nth S.tmps 0,RX.nth S.tmps 1 with
 | .string s,.int .u8 c=>bif Nat.beq S.tmps.length 17 then some (tlb.lt s c S.nxt) else none
 |_,_=>none
theorem tlb.lok {N:Nat→Prop} :LOKn Tryz.prog N (loopCode Tryz.f229 0) (tlb.t):=by
 refine lok_q fun S lt x S' ht hat=> ?_
 unfold tlb.t at ht
 split at ht
 ·rename_i s c h0 h1
  cases hb:Nat.beq S.tmps.length 17 with
  |false=>rw [hb] at ht; cases ht
  | true=>
   rw [hb] at ht
   injection ht with ht
   subst ht
   have hb:=Nat.eq_of_beq_eq_true hb
   exact .enter (fun h=>wk_of hb (.cons ⟨h0,bnth h h0⟩ (.cons ⟨h1,bnth h h1⟩ .nil)) .nil) (tlb.lp _ _ _ hat)
 ·cases ht
def trimLeftByte.sp:HSpec
 |[.string s,.int .u8 c],[]=>some (Nat.ble s.size 1152921504606846976,.string (str (tc c s.data.toList)),[])
 |_,_=>none
theorem trimLeftByte.run (s:ByteArray) (c:Int):xfn Tryz.prog ⟨[],[],[]⟩ [(0,tlb.t)] 10 Tryz.f229 [.string s,.int .u8 c] []=bif Nat.ble s.size 1152921504606846976 then some (.string (str (tc c s.data.toList)),[]) else none:=by kernel_rfl
theorem trimLeftByte.ok:SOK Tryz.prog 229 trimLeftByte.sp:=by
 refine sok_of (E:=⟨[],[],[]⟩) (L:=[(0,tlb.t)]) ⟨specs_nil,inl_nil,mixed_ok,lps_nil⟩ 10 Tryz.func229 (by decide) rfl (one_loop rfl rfl tlb.lok) fun vs bl v bl' h=> ?_
 unfold trimLeftByte.sp at h
 split at h
 ·simp only [Option.some.injEq,Prod.mk.injEq] at h
  obtain ⟨h1,rfl,rfl⟩:=h
  exact ⟨(trimLeftByte.run _ _).trans (ct h1),by simp [okV],clo_spec 8 _ rfl,told_blk rfl⟩
 ·cases h
theorem byte_eq {a b:ByteArray} (h:(a==b)=true):a=b:=by
 obtain ⟨a⟩:=a
 obtain ⟨b⟩:=b
 have:(a==b)=true:=h
 rw [eq_of_beq this]
def TrimZ.sp:HSpec
 |[.string s,.string ⟨⟨[0]⟩⟩],[]=>some (Nat.ble s.size 1152921504606846976,.string (str (tz s.data.toList)),[])
 |_,_=>none
theorem TrimZ.run (s:ByteArray):xfn Tryz.prog ⟨[(229,trimLeftByte.sp)],[],[]⟩ [] 10 Tryz.f219 [.string s,.string ⟨⟨[0]⟩⟩] []=bif s.toList==(⟨#[]⟩:ByteArray).toList then some (.string s,[]) else bif Nat.ble s.size 1152921504606846976 then some (.string (str (tc 0 s.data.toList)),[]) else none:=by kernel_rfl
theorem TrimZ.ok:SOK Tryz.prog 219 TrimZ.sp:=by
 refine sok_of (E:=⟨[(229,trimLeftByte.sp)],[],[]⟩) (L:=[]) ⟨specs_cons trimLeftByte.ok specs_nil,inl_nil,mixed_ok,lps_nil⟩ 10 Tryz.func219 (by decide) rfl no_loops fun vs bl v bl' h=> ?_
 unfold TrimZ.sp at h
 split at h
 ·rename_i s
  simp only [Option.some.injEq,Prod.mk.injEq] at h
  obtain ⟨h1,rfl,rfl⟩:=h
  refine ⟨(TrimZ.run s).trans ?_,by simp [okV],clo_spec 8 _ rfl,told_blk rfl⟩
  cases hs:s.toList==(⟨#[]⟩:ByteArray).toList with
  | true=>
   have h0:(s==(⟨#[]⟩:ByteArray))=true:=(bytes_toList s ⟨#[]⟩).trans hs
   have:s=⟨#[]⟩:=byte_eq h0
   subst this
   rfl
  |false=>rw [cond_false,ct h1,tc_zero]
 ·cases h
section
variable {N:Nat→Prop} {xe:X} {Se:St} (oa la ca l c:Nat) (i:Int) (xs:List Int) (ta:TypeId) (out:List Int) (tc:TypeId)
abbrev mag.st:St:=⟨gbuild [(0,.slice (some ⟨0,oa,none⟩) la ca),(3,.slice (some ⟨65,0,none⟩) l c),(4,.int .i64 i)] 0 45,[(0,.is .u32 xs ta),(65,.is .u8 out tc)],161⟩
abbrev mag.lk:=RX.lk [0,3,4] [0,65]
theorem mag.rnd:rd Tryz.prog ⟨[],[],[]⟩ [] 3 (loopCode Tryz.f206 0) (mag.st oa la ca l c i xs ta out tc) 45 [0,3,4] [0,65]=
 bif decide (i≥0) then bif decide (0≤i)&&decide (i<((la:Nat):Int)) then bif (oa+i.toNat*1).blt xs.length then bif decide (0≤i)&&decide (i<((la:Nat):Int)) then bif (oa+i.toNat*1).blt xs.length then bif decide (0≤i)&&decide (i<((la:Nat):Int)) then bif (oa+i.toNat*1).blt xs.length then bif decide (0≤i)&&decide (i<((la:Nat):Int)) then bif (oa+i.toNat*1).blt xs.length then bif (l+4).ble c&&((1).beq 1&&(0+l+[IntKind.u8.wrap ((xs.getD (oa+i.toNat*1) 0).fdiv (2^min (Int.toNat 24) IntKind.u32.bits)),IntKind.u8.wrap ((xs.getD (oa+i.toNat*1) 0).fdiv (2^min (Int.toNat 16) IntKind.u32.bits)),IntKind.u8.wrap ((xs.getD (oa+i.toNat*1) 0).fdiv (2^min (Int.toNat 8) IntKind.u32.bits)),IntKind.u8.wrap (xs.getD (oa+i.toNat*1) 0)].length).ble out.length) then mag.lk .normal (mag.st oa la ca (l+4) c (IntKind.i64.wrap (i-1)) xs ta (wr out (0+l) [IntKind.u8.wrap ((xs.getD (oa+i.toNat*1) 0).fdiv (2^min (Int.toNat 24) IntKind.u32.bits)),IntKind.u8.wrap ((xs.getD (oa+i.toNat*1) 0).fdiv (2^min (Int.toNat 16) IntKind.u32.bits)),IntKind.u8.wrap ((xs.getD (oa+i.toNat*1) 0).fdiv (2^min (Int.toNat 8) IntKind.u32.bits)),IntKind.u8.wrap (xs.getD (oa+i.toNat*1) 0)]) tc) else none else none else none else none else none else none else none else none else none else mag.lk (.exit 0) (mag.st oa la ca l c i xs ta out tc):=by kernel_rfl
def mag.step0:=fun h0 h1 h2 h3 h4 h5 h6 h7 h8 h9 (ih:Lq Tryz.prog N (loopCode Tryz.f206 0) _ xe Se)=>Lq.to (f:=3) ⟨specs_nil,inl_nil,mixed_ok,lps_nil⟩ lsOk_nil (((((((((((mag.rnd oa la ca l c i xs ta out tc).ct h0).ct h1).ct h2).ct h3).ct h4).ct h5).ct h6).ct h7).ct h8).ct h9) rfl ih
def mag.stop1:=fun h0=>Lq.end (N:=N) (f:=3) ⟨specs_nil,inl_nil,mixed_ok,lps_nil⟩ lsOk_nil ((mag.rnd oa la ca l c i xs ta out tc).cf h0) (fun q=>by cases q) rfl
end
def b4 (x:Int):List Int:=[IntKind.u8.wrap (x.fdiv (2^min (Int.toNat 24) IntKind.u32.bits)),IntKind.u8.wrap (x.fdiv (2^min (Int.toNat 16) IntKind.u32.bits)),IntKind.u8.wrap (x.fdiv (2^min (Int.toNat 8) IntKind.u32.bits)),IntKind.u8.wrap x]
def mb (xs:List Int) (o l:Nat):Nat→List Int→List Int
 |0,out=>out
 |k+1,out=>mb xs o (l+4) k (wr out (0+l) (b4 (xs.getD (o+k) 0)))
def mag.ok (oa la l c:Nat) (i:Int) (xs out:List Int):Bool:=decide (i+1=(la:Int))&&(Nat.beq l 0&&(Nat.beq c (4*la)&&(Nat.beq out.length (4*la)&&(Nat.ble (oa+la) xs.length&&Nat.ble la 1152921504606846976))))
def mag.lt (oa la ca l c:Nat) (i:Int) (xs:List Int) (ta:TypeId) (out:List Int) (tc:TypeId):LT:= .got (mag.ok oa la l c i xs out) (.exit 0) (mag.st oa la ca (4*la) c (-1) xs ta (mb xs oa 0 la out) tc)
theorem mag.go {N:Nat→Prop} (oa la ca c:Nat) (xs:List Int) (ta tc:TypeId) (h1:oa+la≤xs.length) (h2:c=4*la) (h3:la≤1152921504606846976):∀(k l:Nat) (out:List Int),k≤la→l+4*k=4*la→out.length=4*la→Lq Tryz.prog N (loopCode Tryz.f206 0) (mag.st oa la ca l c ((k:Int)-1) xs ta out tc) (.exit 0) (mag.st oa la ca (4*la) c (-1) xs ta (mb xs oa l k out) tc)
 | 0,l,out,_,h5,_=>by
  have:l=4*la:=by omega
  subst this
  exact mag.stop1 oa la ca (4*la) c _ xs ta out tc rfl
 | k +1,l,out,h4,h5,h6=>by
  have e0:(((k+1:Nat):Int)-1)=(k:Int):=by omega
  rw [e0]
  have c1:(decide (0≤(k:Int))&&decide ((k:Int)<((la:Nat):Int)))=true:=dtrue2 (by omega) (by omega)
  have c2:(oa+((k:Int)).toNat*1).blt xs.length=true:=blt_of (by simp; omega)
  refine mag.step0 oa la ca l c _ xs ta out tc (dtrue (by omega)) c1 c2 c1 c2 c1 c2 c1 c2 ?_ ?_
  ·simp only [List.length_cons,List.length_nil,Bool.and_eq_true,Nat.ble_eq]
   exact ⟨by omega,rfl,by omega⟩
  ·have e1:IntKind.i64.wrap ((k:Int)-1)=(k:Int)-1:=w64 (by omega) (by omega)
   have e2:oa+((k:Int)).toNat*1=oa+k:=by simp
   rw [e1,e2]
   exact mag.go oa la ca c xs ta tc h1 h2 h3 k (l+4) _ (by omega) (by omega) (by rw [wr_length]; exact h6)
theorem mag.lp {N:Nat→Prop} (oa la ca l c:Nat) (i:Int) (xs:List Int) (ta:TypeId) (out:List Int) (tc:TypeId) {x:X} {S':St} (h:(mag.lt oa la ca l c i xs ta out tc).at=some (x,S')):Lq Tryz.prog N (loopCode Tryz.f206 0) (mag.st oa la ca l c i xs ta out tc) x S':=by
 obtain ⟨h1,rfl,rfl⟩:=got_at h
 simp only [mag.ok,Bool.and_eq_true,Nat.ble_eq,decide_eq_true_eq] at h1
 obtain ⟨h1,h2,h3,h4,h5,h6⟩:=h1
 have h2:=Nat.eq_of_beq_eq_true h2
 have h3:=Nat.eq_of_beq_eq_true h3
 have h4:=Nat.eq_of_beq_eq_true h4
 subst h2
 have:i=((la:Nat):Int)-1:=by omega
 subst this
 exact mag.go oa la ca c xs ta tc h5 h3 h6 la 0 out (Nat.le_refl _) (by omega) h4
def mag.t:LSpec:=fun S=>match RX.nth S.tmps 0,RX.nth S.tmps 3,RX.nth S.tmps 4,RX.look S.heap 0,RX.look S.heap 65,S.nxt with
 | .slice (some ⟨0,oa,none⟩) la ca,.slice (some ⟨65,0,none⟩) l c,.int .i64 i,some (.is .u32 xs ta),some (.is .u8 out tc),161=>bif Nat.beq S.tmps.length 45 then some (mag.lt oa la ca l c i xs ta out tc) else none
 |_,_,_,_,_,_=>none
theorem mag.lok {N:Nat→Prop} :LOKn Tryz.prog N (loopCode Tryz.f206 0) (mag.t):=by
 refine lok_q fun S lt x S' ht hat=> ?_
 unfold mag.t at ht
 split at ht
 ·rename_i oa la ca l c i xs ta out tc h0 h3 h4 g0 g65 hnx
  cases hb:Nat.beq S.tmps.length 45 with
  |false=>rw [hb] at ht; cases ht
  | true=>
   rw [hb] at ht
   injection ht with ht
   subst ht
   have hb:=Nat.eq_of_beq_eq_true hb
   obtain ⟨T,H,_⟩:=S
   subst hnx
   exact .enter (fun h=>wk_of hb (.cons ⟨h0,bnth h h0⟩ (.cons ⟨h3,bnth h h3⟩ (.cons ⟨h4,bnth h h4⟩ .nil))) (.cons ⟨g0,bname h g0,rfl⟩ (.cons ⟨g65,bname h g65,rfl⟩ .nil))) (mag.lp _ _ _ _ _ _ _ _ _ _ hat)
 ·cases ht
end Go.Proofs.YtpejalpgficopaaGreatDoor.G
end
section
namespace Go.Proofs.YtpejalpgficopaaGreatDoor.G
set_option maxRecDepth 100000
open Go Go.Proofs RX
theorem b4_be (x:Int):(b4 x).map tb=be 4 x:=by
 have f1:x.fdiv (2^min (Int.toNat 24) IntKind.u32.bits)=x/256/256/256:=by
  rw [Int.fdiv_eq_ediv_of_nonneg _ (by decide),show ((2:Int)^min (Int.toNat 24) IntKind.u32.bits)=16777216 from rfl]; omega
 have f2:x.fdiv (2^min (Int.toNat 16) IntKind.u32.bits)=x/256/256:=by
  rw [Int.fdiv_eq_ediv_of_nonneg _ (by decide),show ((2:Int)^min (Int.toNat 16) IntKind.u32.bits)=65536 from rfl]; omega
 have f3:x.fdiv (2^min (Int.toNat 8) IntKind.u32.bits)=x/256:=by
  rw [Int.fdiv_eq_ediv_of_nonneg _ (by decide),show ((2:Int)^min (Int.toNat 8) IntKind.u32.bits)=256 from rfl]
 simp only [b4,f1,f2,f3,List.map_cons,List.map_nil,tb_wrap,be,List.nil_append,List.cons_append]
theorem wr_take:∀(vs out:List Int) (l:Nat),l+vs.length≤out.length→(wr out l vs).take (l+vs.length)=out.take l++vs
 |[],out,l,h=>by simp [wr]
 | v::r,out,l,h=>by
  simp only [List.length_cons] at h
  rw [wr,List.length_cons,show l+(r.length+1)=l+1+r.length from by omega,wr_take r _ (l+1) (by simp; omega),List.take_add_one,List.take_set_of_le (by omega)]
  simp [show l<out.length from by omega]
theorem mb_length (xs:List Int) (o:Nat):∀(k l:Nat) (out:List Int),(mb xs o l k out).length=out.length
 |0,l,out=>rfl
 |k+1,l,out=>by rw [mb,mb_length xs o k,wr_length]
theorem mb_be {xs:List Int} {o:Nat} (hd:dig xs):∀(k l:Nat) (out:List Int),o+k≤xs.length→out.length=l+4*k→(mb xs o l k out).map tb=(out.take l).map tb++be (4*k) (nv (seg xs o k))
 | 0,l,out,_,h=>by
  simp only [mb,be,List.append_nil]
  rw [List.take_of_length_le (by omega)]
 | k+1,l,out,ho,h=>by
  have h4:(b4 (xs.getD (o+k) 0)).length=4:=rfl
  rw [mb,mb_be hd k (l+4) _ (by omega) (by rw [wr_length]; omega),Nat.zero_add]
  have:=wr_take (b4 (xs.getD (o+k) 0)) out l (by rw [h4]; omega)
  rw [h4] at this
  rw [this,List.map_append,List.append_assoc,b4_be,nv_seg_succ (by omega)]
  congr 1
  have hw:=nv_lt (dig_seg hd o k)
  rw [seg_length (by omega),←p8_four] at hw
  have hw0:=nv_nonneg (dig_seg hd o k)
  rw [show 4*(k+1)=4+4*k from by omega,be_add,←p8_four,be_mod]
  congr 2
  rw [Int.add_mul_ediv_left _ _ (by have:=p8_pos (4*k); omega),Int.ediv_eq_zero_of_lt hw0 hw]
  omega
def natOk (o l:Nat) (xs:List Int):Bool:=Nat.ble (o+l) xs.length&&(Nat.ble l 4294967296&&digB xs)
theorem natOk_iff {o l:Nat} {xs:List Int} :natOk o l xs=true↔o+l≤xs.length∧l≤4294967296∧dig xs:=by simp only [natOk,Bool.and_eq_true,Nat.ble_eq,digB_iff]
def mag.sp:HSpec
 |[.slice (some ⟨0,o,none⟩) l c],[.is .u32 xs ty]=>some (natOk o l xs,.string (str (enc (nv (seg xs o l)))),[.is .u32 xs ty])
 |[.slice none 0 0],[]=>some (true,.string (str []),[])
 |_,_=>none
section
variable {N:Nat→Prop} {xe:X} {Se:St} (i:Int) (out:List Int) (tc:TypeId)
abbrev magn.st:St:=⟨gbuild [(0,.slice none 0 0),(3,.slice (some ⟨64,0,none⟩) 0 0),(4,.int .i64 i)] 0 45,[(64,.is .u8 out tc)],160⟩
abbrev magn.lk:=RX.lk [0,3,4] [64]
theorem magn.rnd:rd Tryz.prog ⟨[],[],[]⟩ [] 3 (loopCode Tryz.f206 0) (magn.st i out tc) 45 [0,3,4] [64]=
 bif decide (i≥0) then none else magn.lk (.exit 0) (magn.st i out tc):=by kernel_rfl
def magn.stop0:=fun h0=>Lq.end (N:=N) (f:=3) ⟨specs_nil,inl_nil,mixed_ok,lps_nil⟩ lsOk_nil ((magn.rnd i out tc).cf h0) (fun q=>by cases q) rfl
end
def magn.lt (i:Int) (out:List Int) (tc:TypeId):LT:= .got (decide (i<0)) (.exit 0) (magn.st i out tc)
theorem magn.lp {N:Nat→Prop} (i:Int) (out:List Int) (tc:TypeId) {x:X} {S':St} (h:(magn.lt i out tc).at=some (x,S')):Lq Tryz.prog N (loopCode Tryz.f206 0) (magn.st i out tc) x S':=by
 obtain ⟨h1,rfl,rfl⟩:=got_at h
 exact magn.stop0 i out tc (dfalse (by have:=of_decide_eq_true h1; omega))
def magn.t:LSpec:=fun S=>match RX.nth S.tmps 0,RX.nth S.tmps 3,RX.nth S.tmps 4,RX.look S.heap 64,S.nxt with
 | .slice none 0 0,.slice (some ⟨64,0,none⟩) 0 0,.int .i64 i,some (.is .u8 out tc),160=>bif Nat.beq S.tmps.length 45 then some (magn.lt i out tc) else none
 |_,_,_,_,_=>none
theorem magn.lok {N:Nat→Prop} :LOKn Tryz.prog N (loopCode Tryz.f206 0) (magn.t):=by
 refine lok_q fun S lt x S' ht hat=> ?_
 unfold magn.t at ht
 split at ht
 ·rename_i i out tc h0 h3 h4 g64 hnx
  cases hb:Nat.beq S.tmps.length 45 with
  |false=>rw [hb] at ht; cases ht
  | true=>
   rw [hb] at ht
   injection ht with ht
   subst ht
   have hb:=Nat.eq_of_beq_eq_true hb
   obtain ⟨T,H,_⟩:=S
   subst hnx
   exact .enter (fun h=>wk_of hb (.cons ⟨h0,bnth h h0⟩ (.cons ⟨h3,bnth h h3⟩ (.cons ⟨h4,bnth h h4⟩ .nil))) (.cons ⟨g64,bname h g64,rfl⟩ .nil)) (magn.lp _ _ _ hat)
 ·cases ht
def magL:LSpec:=fun S=>match mag.t S with|some lt=>some lt|none=>magn.t S
theorem mag.run (o l c:Nat) (xs:List Int) (ty:TypeId):xfn Tryz.prog ⟨[(219,TrimZ.sp)],[],[]⟩ [(0,magL)] 10 Tryz.f206 [.slice (some ⟨0,o,none⟩) l c] [.is .u32 xs ty]=
 bif decide ((0:Int)≤0)&&(decide (0≤IntKind.i64.wrap (4*(l:Int)))&&(decide (IntKind.i64.wrap (4*(l:Int))≤140737488355328)&&decide (((0+1:Nat):Int)*IntKind.i64.wrap (4*(l:Int))≤140737488355328))) then bif mag.ok o l (Int.toNat 0) (IntKind.i64.wrap (4*(l:Int))).toNat (IntKind.i64.wrap ((l:Int)-1)) xs (List.replicate ((IntKind.i64.wrap (4*(l:Int))).toNat*(0+1)) 0) then bif (0+4*l).ble (mb xs o 0 l (List.replicate ((IntKind.i64.wrap (4*(l:Int))).toNat*(0+1)) 0)).length then bif Nat.ble (str (List.map (fun n=>UInt8.ofNat n.toNat) (List.take (4*l) (List.drop 0 (mb xs o 0 l (List.replicate ((IntKind.i64.wrap (4*(l:Int))).toNat*(0+1)) 0)))))).size 1152921504606846976 then some (.string (str (tz (str (List.map (fun n=>UInt8.ofNat n.toNat) (List.take (4*l) (List.drop 0 (mb xs o 0 l (List.replicate ((IntKind.i64.wrap (4*(l:Int))).toNat*(0+1)) 0)))))).data.toList)),[.is .u32 xs ty]) else none else none else none else none:=by kernel_rfl
theorem mag.runn:xfn Tryz.prog ⟨[(219,TrimZ.sp)],[],[]⟩ [(0,magL)] 10 Tryz.f206 [.slice none 0 0] []=some (.string (str []),[]):=by kernel_rfl
theorem bigint_mag.ok:SOK Tryz.prog 206 mag.sp:=by
 refine sok_of (E:=⟨[(219,TrimZ.sp)],[],[]⟩) (L:=[(0,magL)]) ⟨specs_cons TrimZ.ok specs_nil,inl_nil,mixed_ok,lps_nil⟩ 10 Tryz.func206 (by decide) rfl (one_loop rfl rfl (lok_or mag.lok magn.lok)) fun vs bl v bl' h=> ?_
 unfold mag.sp at h
 split at h
 ·rename_i o l c xs ty
  simp only [Option.some.injEq,Prod.mk.injEq] at h
  obtain ⟨h1,rfl,rfl⟩:=h
  obtain ⟨ho,hl,hd⟩:=natOk_iff.1 h1
  have e4:IntKind.i64.wrap (4*(l:Int))=4*(l:Int):=w64 (by omega) (by omega)
  have t4:(IntKind.i64.wrap (4*(l:Int))).toNat=4*l:=by rw [e4]; omega
  have e5:IntKind.i64.wrap ((l:Int)-1)=(l:Int)-1:=w64 (by omega) (by omega)
  have hlen:(mb xs o 0 l (List.replicate ((IntKind.i64.wrap (4*(l:Int))).toNat*(0+1)) 0)).length=4*l:=by rw [mb_length,List.length_replicate,t4]; omega
  have hcut:List.take (4*l) (List.drop 0 (mb xs o 0 l (List.replicate ((IntKind.i64.wrap (4*(l:Int))).toNat*(0+1)) 0)))=mb xs o 0 l (List.replicate ((IntKind.i64.wrap (4*(l:Int))).toNat*(0+1)) 0):=by
   rw [List.drop_zero,List.take_of_length_le (by omega)]
  have hbe:(mb xs o 0 l (List.replicate ((IntKind.i64.wrap (4*(l:Int))).toNat*(0+1)) 0)).map (fun n=>UInt8.ofNat n.toNat)=be (4*l) (nv (seg xs o l)):=by
   have:=mb_be hd l 0 (List.replicate ((IntKind.i64.wrap (4*(l:Int))).toNat*(0+1)) 0) ho (by rw [List.length_replicate,t4]; omega)
   rw [List.take_zero,List.map_nil,List.nil_append] at this
   exact this
  have hw:=nv_lt (dig_seg hd o l)
  rw [seg_length ho,←p8_four] at hw
  refine ⟨(mag.run o l c xs ty).trans ?_,by simp [okV,Nat.blt],clo_spec 8 _ rfl,told_blk rfl⟩
  rw [ct,ct,ct,ct]
  ·rw [hcut,hbe]
   show some (Value.string (str (tz (be (4*l) (nv (seg xs o l))))),_)=_
   rw [enc_eq (nv_nonneg (dig_seg hd o l)) hw]
  ·rw [hcut,hbe]
   simp only [Nat.ble_eq]
   show (be (4*l) (nv (seg xs o l))).length≤_
   rw [be_length]; omega
  ·simp only [Nat.ble_eq]; omega
  ·simp only [mag.ok,Bool.and_eq_true,decide_eq_true_eq,Nat.ble_eq,Nat.beq_eq,e5,t4,List.length_replicate]
   exact ⟨by omega,rfl,trivial,by omega,by omega,by omega⟩
  ·rw [e4]
   simp only [Bool.and_eq_true,decide_eq_true_eq]
   omega
 ·simp only [Option.some.injEq,Prod.mk.injEq,true_and] at h
  obtain ⟨rfl,rfl⟩:=h
  exact ⟨mag.runn,by simp [okV],clo_spec 8 _ rfl,told_blk rfl⟩
 ·cases h
end Go.Proofs.YtpejalpgficopaaGreatDoor.G
end
section
namespace Go.Proofs.YtpejalpgficopaaGreatDoor.G
set_option maxRecDepth 100000
open Go Go.Proofs RX
def iv (neg:Bool) (v:Int):Value:= .agg ⟨[.bool (neg&& !(v==0)),.string (str (enc v))]⟩
def with.sp:HSpec
 |[.slice (some ⟨0,o,none⟩) l c,.bool b],[.is .u32 xs 64]=>some (natOk o l xs,iv b (nv (seg xs o l)),[.is .u32 xs 64])
 |[.slice none 0 0,.bool b],[]=>some (true,iv b 0,[])
 |_,_=>none
theorem with.run (o l c:Nat) (xs:List Int) (b:Bool):xfn Tryz.prog ⟨[(206,mag.sp)],[],[]⟩ [] 10 Tryz.f187 [.slice (some ⟨0,o,none⟩) l c,.bool b] [.is .u32 xs 64]=
 bif natOk o l xs then bif b then some (.agg ⟨[.bool (!((str (enc (nv (seg xs o l)))).toList==(⟨#[]⟩:ByteArray).toList)),.string (str (enc (nv (seg xs o l))))]⟩,[.is .u32 xs 64]) else some (.agg ⟨[.bool false,.string (str (enc (nv (seg xs o l))))]⟩,[.is .u32 xs 64]) else none:=by kernel_rfl
theorem with.runn (b:Bool):xfn Tryz.prog ⟨[(206,mag.sp)],[],[]⟩ [] 10 Tryz.f187 [.slice none 0 0,.bool b] []=
 bif b then some (.agg ⟨[.bool (!((str []).toList==(⟨#[]⟩:ByteArray).toList)),.string (str [])]⟩,[]) else some (.agg ⟨[.bool false,.string (str [])]⟩,[]):=by kernel_rfl
theorem str_nil (l:List UInt8):((str l).toList==(⟨#[]⟩:ByteArray).toList)=l.isEmpty:=by
 rw [←bytes_toList]
 cases l with
 |nil=>rfl
 | cons b r=>
  cases h:(str (b::r)==(⟨#[]⟩:ByteArray)) with
  |false=>rfl
  | true=>
   have:=congrArg ByteArray.size (byte_eq h)
   exact absurd this (Nat.succ_ne_zero r.length)
theorem enc_empty {v:Int} (h:0≤v):(enc v).isEmpty=(v==0):=by
 cases h0:v==0 with
 | true=>
  have:v=0:=by simpa using h0
  subst this; rfl
 | false=>
  have:v≠0:=by simpa using h0
  cases he:enc v with
  |nil=>exact absurd ((enc_nil h).1 he) this
  |cons _ _=>rfl
theorem with.ok:SOK Tryz.prog 187 with.sp:=by
 refine sok_of (E:=⟨[(206,mag.sp)],[],[]⟩) (L:=[]) ⟨specs_cons bigint_mag.ok specs_nil,inl_nil,mixed_ok,lps_nil⟩ 10 Tryz.func187 (by decide) rfl no_loops fun vs bl v bl' h=> ?_
 unfold with.sp at h
 split at h
 ·rename_i o l c b xs
  simp only [Option.some.injEq,Prod.mk.injEq] at h
  obtain ⟨h1,rfl,rfl⟩:=h
  obtain ⟨ho,hl,hd⟩:=natOk_iff.1 h1
  refine ⟨(with.run o l c xs b).trans ?_,by simp [okV,Nat.blt],clo_spec 8 _ rfl,told_blk rfl⟩
  rw [ct h1,str_nil,enc_empty (nv_nonneg (dig_seg hd o l))]
  cases b<;>rfl
 ·rename_i b
  simp only [Option.some.injEq,Prod.mk.injEq,true_and] at h
  obtain ⟨rfl,rfl⟩:=h
  refine ⟨(with.runn b).trans ?_,by simp [okV,Nat.blt],clo_spec 8 _ rfl,told_blk rfl⟩
  rw [str_nil]
  cases b<;>rfl
 ·cases h
end Go.Proofs.YtpejalpgficopaaGreatDoor.G
end
section
namespace Go.Proofs.YtpejalpgficopaaGreatDoor.G
set_option maxRecDepth 100000
open Go Go.Proofs RX
section
variable {N:Nat→Prop} {xe:X} {Se:St} (s:ByteArray) (n m:Nat) (z i:Int) (out:List Int) (ty:TypeId) (nx:Nat)
abbrev bof.st:St:=⟨gbuild [(0,.string s),(3,.slice (some ⟨80,0,none⟩) n m),(12,.int .i64 z),(13,.int .i64 i)] 0 39,[(80,.is .u32 out ty)],nx⟩
abbrev bof.lk:=RX.lk [0,3,12,13] [80]
theorem bof.rnd:rd Tryz.prog ⟨[],[],[]⟩ [] 3 (loopCode Tryz.f188 0) (bof.st s n m z i out ty nx) 39 [0,3,12,13] [80]=
 bif decide (i<z) then bif decide (0≤IntKind.i64.wrap (i.tdiv 4))&&decide (IntKind.i64.wrap (i.tdiv 4)<((n:Nat):Int)) then bif (0+(IntKind.i64.wrap (i.tdiv 4)).toNat*1).blt out.length then bif decide (0≤IntKind.i64.wrap (IntKind.i64.wrap (((s.size:Nat):Int)-1)-i))&&decide (IntKind.i64.wrap (IntKind.i64.wrap (((s.size:Nat):Int)-1)-i)<((s.size:Nat):Int)) then bif decide (0≤IntKind.i64.wrap (8*i.tmod 4)) then bif decide (0≤IntKind.i64.wrap (i.tdiv 4))&&decide (IntKind.i64.wrap (i.tdiv 4)<((n:Nat):Int)) then bif (0+(IntKind.i64.wrap (i.tdiv 4)).toNat*1).blt out.length then bof.lk .normal (bof.st s n m z (IntKind.i64.wrap (i+1)) (out.set (0+(IntKind.i64.wrap (i.tdiv 4)).toNat*1) (bitsOf BinOp.or IntKind.u32 (out.getD (0+(IntKind.i64.wrap (i.tdiv 4)).toNat*1) 0) (IntKind.u32.wrap (IntKind.u32.wrap (((s.data.toList.getD (IntKind.i64.wrap (IntKind.i64.wrap (((s.size:Nat):Int)-1)-i)).toNat 0).toNat:Nat):Int)*2^min (IntKind.i64.wrap (8*i.tmod 4)).toNat IntKind.u32.bits)))) ty nx) else none else none else none else none else none else none else bof.lk (.exit 0) (bof.st s n m z i out ty nx):=by kernel_rfl
def bof.step0:=fun h0 h1 h2 h3 h4 h5 h6 (ih:Lq Tryz.prog N (loopCode Tryz.f188 0) _ xe Se)=>Lq.toK (f:=3) ⟨specs_nil,inl_nil,mixed_ok,lps_nil⟩ lsOk_nil ((((((((bof.rnd s n m z i out ty nx).ct h0).ct h1).ct h2).ct h3).ct h4).ct h5).ct h6) rfl rfl ih
def bof.stop1:=fun h0=>Lq.endK (N:=N) (f:=3) ⟨specs_nil,inl_nil,mixed_ok,lps_nil⟩ lsOk_nil ((bof.rnd s n m z i out ty nx).cf h0) (fun q=>by cases q) rfl rfl
end
def bof.ok (s:ByteArray) (n:Nat) (z i:Int) (out:List Int):Bool:=decide (i=0)&&(decide (z=(s.size:Int))&&(Nat.beq n ((s.size+3)/4)&&(decide (out=dg n 0)&&Nat.ble s.size 8589934592)))
def bof.lt (s:ByteArray) (n m:Nat) (z i:Int) (out:List Int) (ty:TypeId) (nx:Nat):LT:= .got (bof.ok s n z i out) (.exit 0) (bof.st s n m z z (dg n (bv s.data.toList)) ty nx)
theorem bof.go {N:Nat→Prop} (s:ByteArray) (n m:Nat) (ty:TypeId) (nx:Nat) (hn:n=(s.size+3)/4) (hs:s.size≤8589934592):∀(j k:Nat),k+j=s.size→Lq Tryz.prog N (loopCode Tryz.f188 0) (bof.st s n m (s.size:Int) (k:Int) (dg n (lv (s.data.toList.reverse.take k))) ty nx) (.exit 0) (bof.st s n m (s.size:Int) (s.size:Int) (dg n (bv s.data.toList)) ty nx)
 | 0,k,h=>by
  have hk:k=s.size:=by omega
  subst hk
  have hl:s.data.toList.reverse.take s.size=s.data.toList.reverse:=List.take_of_length_le (by rw [List.length_reverse]; exact Nat.le_refl _)
  rw [hl]
  exact bof.stop1 _ _ _ _ _ _ _ _ (dfalse (by omega))
 | j + 1,k,h=>by
  have hL:s.data.toList.reverse.length=s.size:=by rw [List.length_reverse]; rfl
  have hk:k<s.data.toList.reverse.length:=by omega
  have e1:IntKind.i64.wrap ((k:Int).tdiv 4)=((k/4:Nat):Int):=by rw [Int.tdiv_eq_ediv_of_nonneg (by omega),w64 (by omega) (by omega)]; omega
  have e2:(k:Int).tmod 4=((k%4:Nat):Int):=by rw [Int.tmod_eq_emod_of_nonneg (by omega)]; omega
  have e3:IntKind.i64.wrap (8*(k:Int).tmod 4)=((8*(k%4):Nat):Int):=by rw [e2,w64 (by omega) (by omega)]; omega
  have e4:IntKind.i64.wrap (IntKind.i64.wrap ((s.size:Int)-1)-(k:Int))=((s.size-1-k:Nat):Int):=by rw [w64 (n:=(s.size:Int)-1) (by omega) (by omega),w64 (by omega) (by omega)]; omega
  have e5:IntKind.i64.wrap ((k:Int)+1)=((k+1:Nat):Int):=by rw [w64 (by omega) (by omega)]; omega
  have c1:(decide (0≤IntKind.i64.wrap ((k:Int).tdiv 4))&&decide (IntKind.i64.wrap ((k:Int).tdiv 4)<(n:Int)))=true:=by rw [e1]; exact dtrue2 (by omega) (by omega)
  have c2:(0+(IntKind.i64.wrap ((k:Int).tdiv 4)).toNat*1).blt (dg n (lv (s.data.toList.reverse.take k))).length=true:=by rw [e1,dg_length]; exact blt_of (by simp; omega)
  refine bof.step0 _ _ _ _ _ _ _ _ (dtrue (by omega)) c1 c2 (by rw [e4]; exact dtrue2 (by omega) (by omega)) (by rw [e3]; exact dtrue (by omega)) c1 c2 ?_
  have hb:s.data.toList.getD (s.size-1-k) 0=s.data.toList.reverse[k]:=by
   have hlen:s.data.toList.length=s.size:=rfl
   rw [List.getElem_reverse,List.getD_eq_getElem?_getD,List.getElem?_eq_getElem (by omega)]
   simp [hlen]
  rw [e1,e3,e4,e5,Int.toNat_natCast,Int.toNat_natCast,Int.toNat_natCast,hb]
  have hlt:(s.data.toList.reverse[k]).toNat<256:=(s.data.toList.reverse[k]).toNat_lt
  have hm:min (8*(k%4)) IntKind.u32.bits=8*(k%4):=Nat.min_eq_left (by show 8*(k%4)≤32; omega)
  have hr4:k%4<4:=Nat.mod_lt _ (by decide)
  have hlv0:=lv_nonneg (s.data.toList.reverse.take k)
  have hlv:=lv_lt (s.data.toList.reverse.take k)
  rw [List.length_take,Nat.min_eq_left (by omega)] at hlv
  have hkq:k=4*(k/4)+k%4:=by omega
  have hw:IntKind.u32.wrap (IntKind.u32.wrap (((s.data.toList.reverse[k]).toNat:Nat):Int)*2^min (8*(k%4)) IntKind.u32.bits)=(((s.data.toList.reverse[k]).toNat:Nat):Int)*((2^(8*(k%4)):Nat):Int):=by
   have h2:((2^(8*(k%4)):Nat):Int)≤16777216:=by
    have:=Nat.pow_le_pow_right (show 0<2 by decide) (show 8*(k%4)≤24 by omega)
    omega
   have h2p:0<((2^(8*(k%4)):Nat):Int):=by have:=Nat.two_pow_pos (8*(k%4)); omega
   have h3:(((s.data.toList.reverse[k]).toNat:Nat):Int)*((2^(8*(k%4)):Nat):Int)≤255*16777216:=Int.mul_le_mul (by omega) h2 (by omega) (by omega)
   rw [hm,u32of (n:=(((s.data.toList.reverse[k]).toNat:Nat):Int)) (by omega) (by omega),show ((2:Int)^(8*(k%4)))=((2^(8*(k%4)):Nat):Int) from (Int.natCast_pow 2 _).symm]
   exact u32of (Int.mul_nonneg (by omega) (by omega)) (by omega)
  have hg0:=(dig_getD (dg_dig n (lv (s.data.toList.reverse.take k))) (k/4)).1
  have hg1:=getD_dg_lt (k/4) n (lv (s.data.toList.reverse.take k)) (k%4) hlv0 (by rw [←hkq]; exact hlv) (by omega)
  have hsum:(dg n (lv (s.data.toList.reverse.take k))).getD (k/4) 0+(((s.data.toList.reverse[k]).toNat:Nat):Int)*((2^(8*(k%4)):Nat):Int)<4294967296:=by
   rw [←p8_two] at*
   have h4:p8 (k%4+1)≤4294967296:=Int.le_trans (p8_mono (show k%4+1≤4 by omega)) (by decide)
   rw [p8_succ] at h4
   have h5:(((s.data.toList.reverse[k]).toNat:Nat):Int)*p8 (k%4)≤255*p8 (k%4):=Int.mul_le_mul_of_nonneg_right (by omega) (by have:=p8_pos (k%4); omega)
   omega
  rw [hw,Nat.zero_add,Nat.mul_one,or32 hg0 (by rw [←p8_two]; exact hg1) (by omega) hsum]
  have ht:s.data.toList.reverse.take (k+1)=s.data.toList.reverse.take k++[s.data.toList.reverse[k]]:=by
   rw [List.take_add_one,List.getElem?_eq_getElem hk]; rfl
  have hset:=set_dg (k/4) n (lv (s.data.toList.reverse.take k)) (k%4) (((s.data.toList.reverse[k]).toNat:Nat):Int) (by omega) hr4 hlv0 (by rw [←hkq]; exact hlv) (by omega) (by omega)
  rw [←hkq] at hset
  have hlv2:lv (s.data.toList.reverse.take (k+1))=lv (s.data.toList.reverse.take k)+p8 k*(((s.data.toList.reverse[k]).toNat:Nat):Int):=by
   rw [ht,lv_snoc,List.length_take,Nat.min_eq_left (by omega)]
  rw [←p8_two,←hset,←hlv2]
  exact bof.go s n m ty nx hn hs j (k+1) (by omega)
theorem bof.lp {N:Nat→Prop} (s:ByteArray) (n m:Nat) (z i:Int) (out:List Int) (ty:TypeId) (nx:Nat) {x:X} {S':St} (h:(bof.lt s n m z i out ty nx).at=some (x,S')):Lq Tryz.prog N (loopCode Tryz.f188 0) (bof.st s n m z i out ty nx) x S':=by
 obtain ⟨h1,rfl,rfl⟩:=got_at h
 simp only [bof.ok,Bool.and_eq_true,Nat.ble_eq,decide_eq_true_eq] at h1
 obtain ⟨rfl,rfl,h3,rfl,h5⟩:=h1
 exact bof.go s n m ty nx (Nat.eq_of_beq_eq_true h3) h5 s.size 0 (by omega)
def bof.t:LSpec:=fun S=>match RX.nth S.tmps 0,RX.nth S.tmps 3,RX.nth S.tmps 12,RX.nth S.tmps 13,RX.look S.heap 80 with
 | .string s,.slice (some ⟨80,0,none⟩) n m,.int .i64 z,.int .i64 i,some (.is .u32 out ty)=>bif Nat.beq S.tmps.length 39 then some (bof.lt s n m z i out ty S.nxt) else none
 |_,_,_,_,_=>none
theorem bof.lok {N:Nat→Prop} :LOKn Tryz.prog N (loopCode Tryz.f188 0) (bof.t):=by
 refine lok_q fun S lt x S' ht hat=> ?_
 unfold bof.t at ht
 split at ht
 ·rename_i s n m z i out ty h0 h3 h12 h13 g80
  cases hb:Nat.beq S.tmps.length 39 with
  |false=>rw [hb] at ht; cases ht
  | true=>
   rw [hb] at ht
   injection ht with ht
   subst ht
   have hb:=Nat.eq_of_beq_eq_true hb
   exact .enter (fun h=>wk_of hb (.cons ⟨h0,bnth h h0⟩ (.cons ⟨h3,bnth h h3⟩ (.cons ⟨h12,bnth h h12⟩ (.cons ⟨h13,bnth h h13⟩ .nil)))) (.cons ⟨g80,bname h g80,rfl⟩ .nil)) (bof.lp _ _ _ _ _ _ _ _ hat)
 ·cases ht
end Go.Proofs.YtpejalpgficopaaGreatDoor.G
end
section
namespace Go.Proofs.YtpejalpgficopaaGreatDoor.G
set_option maxRecDepth 100000
open Go Go.Proofs RX
def nd (s:ByteArray):Nat:=(s.size+3)/4
def of.sp:HSpec
 |[.string s],[]=>some (Nat.ble s.size 8589934592,.slice (some ⟨0,0,none⟩) (tl (dg (nd s) (bv s.data.toList))) (nd s),[.is .u32 (dg (nd s) (bv s.data.toList)) 64])
 |_,_=>none
theorem of.run (s:ByteArray):xfnN Tryz.prog ⟨[(205,bigint_trim.sp)],[],[]⟩ [(0,bof.t)] 10 Tryz.f188 [.string s] [] [80]=
 bif decide (0≤IntKind.i64.wrap ((IntKind.i64.wrap ((s.size:Int)+3)).tdiv 4))&&(decide (IntKind.i64.wrap ((IntKind.i64.wrap ((s.size:Int)+3)).tdiv 4)≤IntKind.i64.wrap ((IntKind.i64.wrap ((s.size:Int)+3)).tdiv 4))&&(decide (IntKind.i64.wrap ((IntKind.i64.wrap ((s.size:Int)+3)).tdiv 4)≤140737488355328)&&decide (((3+1:Nat):Int)*IntKind.i64.wrap ((IntKind.i64.wrap ((s.size:Int)+3)).tdiv 4)≤140737488355328))) then bif bof.ok s (IntKind.i64.wrap ((IntKind.i64.wrap ((s.size:Int)+3)).tdiv 4)).toNat (s.size:Int) 0 (List.replicate ((IntKind.i64.wrap ((IntKind.i64.wrap ((s.size:Int)+3)).tdiv 4)).toNat*(0+1)) 0) then bif trim.ok 0 (IntKind.i64.wrap ((IntKind.i64.wrap ((s.size:Int)+3)).tdiv 4)).toNat (IntKind.i64.wrap ((IntKind.i64.wrap ((s.size:Int)+3)).tdiv 4)).toNat (dg (IntKind.i64.wrap ((IntKind.i64.wrap ((s.size:Int)+3)).tdiv 4)).toNat (bv s.data.toList)) then some (.slice (some ⟨80,0,none⟩) (tl (seg (dg (IntKind.i64.wrap ((IntKind.i64.wrap ((s.size:Int)+3)).tdiv 4)).toNat (bv s.data.toList)) 0 (IntKind.i64.wrap ((IntKind.i64.wrap ((s.size:Int)+3)).tdiv 4)).toNat)) (IntKind.i64.wrap ((IntKind.i64.wrap ((s.size:Int)+3)).tdiv 4)).toNat,[.is .u32 (dg (IntKind.i64.wrap ((IntKind.i64.wrap ((s.size:Int)+3)).tdiv 4)).toNat (bv s.data.toList)) 64]) else none else none else none:=by kernel_rfl
theorem dg_zero:∀(n:Nat),dg n 0=List.replicate n 0
 |0=>rfl
 |n+1=>by simp only [dg,List.replicate_succ]; rw [show (0:Int)/4294967296=0 from rfl,dg_zero n]; rfl
theorem of.ok:SOK Tryz.prog 188 of.sp:=by
 refine sok_ofN (E:=⟨[(205,bigint_trim.sp)],[],[]⟩) (L:=[(0,bof.t)]) ⟨specs_cons bigint_trim.ok specs_nil,inl_nil,mixed_ok,lps_nil⟩ 10 Tryz.func188 (by decide) rfl (one_loop rfl rfl bof.lok) fun vs bl v bl' h=> ?_
 unfold of.sp at h
 split at h
 ·rename_i s
  simp only [Option.some.injEq,Prod.mk.injEq] at h
  obtain ⟨h1,rfl,rfl⟩:=h
  have h1:=Nat.le_of_ble_eq_true h1
  have e1:IntKind.i64.wrap ((IntKind.i64.wrap ((s.size:Int)+3)).tdiv 4)=((nd s:Nat):Int):=by
   unfold nd
   rw [w64 (n:=(s.size:Int)+3) (by omega) (by omega),Int.tdiv_eq_ediv_of_nonneg (by omega),w64 (by omega) (by omega)]; omega
  have hn:nd s≤2147483649:=by unfold nd; omega
  refine ⟨[80],(of.run s).trans ?_,by simp [okV,Nat.blt],rfl,told_blk rfl,List.nodup_cons.2 ⟨by simp,List.nodup_nil⟩,by simp⟩
  rw [e1,Int.toNat_natCast,ct,ct,ct]
  ·rw [seg_dg]; rfl
  ·simp only [trim.ok,Bool.and_eq_true,Nat.ble_eq,dg_length]; omega
  ·simp only [bof.ok,Bool.and_eq_true,Nat.ble_eq,decide_eq_true_eq,Nat.beq_eq]
   exact ⟨trivial,trivial,rfl,by rw [dg_zero,Nat.mul_one],h1⟩
  ·simp only [Bool.and_eq_true,decide_eq_true_eq]; omega
 ·cases h
section
variable {N:Nat→Prop} {xe:X} {Se:St} (oa la ca ob lb cb:Nat) (i:Int) (xs:List Int) (ta:TypeId) (ys:List Int) (tb:TypeId) (nx:Nat)
abbrev cmp.st:St:=⟨gbuild [(0,.slice (some ⟨0,oa,none⟩) la ca),(1,.slice (some ⟨1,ob,none⟩) lb cb),(5,.int .i64 i)] 0 43,[(0,.is .u32 xs ta),(1,.is .u32 ys tb)],nx⟩
abbrev cmp.lk:=RX.lk [0,1,4,5] [0,1]
theorem cmp.rnd:rd Tryz.prog ⟨[],[],[]⟩ [] 3 (loopCode Tryz.f190 0) (cmp.st oa la ca ob lb cb i xs ta ys tb nx) 43 [0,1,4,5] [0,1]=
 bif decide (i≥0) then bif decide (0≤i)&&decide (i<((la:Nat):Int)) then bif (oa+i.toNat*1).blt xs.length then bif decide (0≤i)&&decide (i<((lb:Nat):Int)) then bif (ob+i.toNat*1).blt ys.length then bif decide (xs.getD (oa+i.toNat*1) 0<ys.getD (ob+i.toNat*1) 0) then some ((X.ret,[Value.slice (some {block:=0,off:=oa}) la ca,Value.slice (some {block:=1,off:=ob}) lb cb,Value.int IntKind.i64 (-1),Value.int IntKind.i64 i],[some (Blk.is IntKind.u32 xs ta),some (Blk.is IntKind.u32 ys tb)])) else bif decide (0≤i)&&decide (i<((la:Nat):Int)) then bif (oa+i.toNat*1).blt xs.length then bif decide (0≤i)&&decide (i<((lb:Nat):Int)) then bif (ob+i.toNat*1).blt ys.length then bif decide (xs.getD (oa+i.toNat*1) 0>ys.getD (ob+i.toNat*1) 0) then some ((X.ret,[Value.slice (some {block:=0,off:=oa}) la ca,Value.slice (some {block:=1,off:=ob}) lb cb,Value.int IntKind.i64 1,Value.int IntKind.i64 i],[some (Blk.is IntKind.u32 xs ta),some (Blk.is IntKind.u32 ys tb)])) else cmp.lk .normal (cmp.st oa la ca ob lb cb (IntKind.i64.wrap (i-1)) xs ta ys tb nx) else none else none else none else none else none else none else none else none else cmp.lk (.exit 0) (cmp.st oa la ca ob lb cb i xs ta ys tb nx):=by kernel_rfl
def cmp.stop0:=fun h0 h1 h2 h3 h4 h5=>Lq.stop (S2:=⟨gbuild [(4,Value.int IntKind.i64 (-1))] 0 43,[(0,Blk.is IntKind.u32 xs ta),(1,Blk.is IntKind.u32 ys tb)],nx⟩) (N:=N) (f:=3) ⟨specs_nil,inl_nil,mixed_ok,lps_nil⟩ lsOk_nil (((((((cmp.rnd oa la ca ob lb cb i xs ta ys tb nx).ct h0).ct h1).ct h2).ct h3).ct h4).ct h5) (fun q=>by cases q) (fun h=>q_of (.cons ⟨rfl,bint⟩ .nil) (.cons ⟨rfl,(bname h (m:=0) rfl),rfl⟩ (.cons ⟨rfl,(bname h (m:=1) rfl),rfl⟩ .nil)))
def cmp.stop1:=fun h0 h1 h2 h3 h4 h5 h6 h7 h8 h9 h10=>Lq.stop (S2:=⟨gbuild [(4,Value.int IntKind.i64 1)] 0 43,[(0,Blk.is IntKind.u32 xs ta),(1,Blk.is IntKind.u32 ys tb)],nx⟩) (N:=N) (f:=3) ⟨specs_nil,inl_nil,mixed_ok,lps_nil⟩ lsOk_nil ((((((((((((cmp.rnd oa la ca ob lb cb i xs ta ys tb nx).ct h0).ct h1).ct h2).ct h3).ct h4).cf h5).ct h6).ct h7).ct h8).ct h9).ct h10) (fun q=>by cases q) (fun h=>q_of (.cons ⟨rfl,bint⟩ .nil) (.cons ⟨rfl,(bname h (m:=0) rfl),rfl⟩ (.cons ⟨rfl,(bname h (m:=1) rfl),rfl⟩ .nil)))
def cmp.step2:=fun h0 h1 h2 h3 h4 h5 h6 h7 h8 h9 h10 (ih:Lq Tryz.prog N (loopCode Tryz.f190 0) _ xe Se)=>Lq.toK (f:=3) ⟨specs_nil,inl_nil,mixed_ok,lps_nil⟩ lsOk_nil ((((((((((((cmp.rnd oa la ca ob lb cb i xs ta ys tb nx).ct h0).ct h1).ct h2).ct h3).ct h4).cf h5).ct h6).ct h7).ct h8).ct h9).cf h10) rfl rfl ih
def cmp.stop3:=fun h0=>Lq.endK (N:=N) (f:=3) ⟨specs_nil,inl_nil,mixed_ok,lps_nil⟩ lsOk_nil ((cmp.rnd oa la ca ob lb cb i xs ta ys tb nx).cf h0) (fun q=>by cases q) rfl rfl
end
def cmp.ok (oa la ob lb:Nat) (i:Int) (xs ys:List Int):Bool:=decide (i+1=(la:Int))&&(decide (la=lb)&&(natOk oa la xs&&natOk ob lb ys))
def cmp.r (v:Int) (xs:List Int) (ta:TypeId) (ys:List Int) (tb:TypeId) (nx:Nat):St:=⟨gbuild [(4,.int .i64 v)] 0 43,[(0,.is .u32 xs ta),(1,.is .u32 ys tb)],nx⟩
def cmp.tr (ok:Bool) (oa la ca ob lb cb k:Nat) (xs:List Int) (ta:TypeId) (ys:List Int) (tb:TypeId) (nx:Nat):LT:=
 .br (decide (nv (seg xs oa k)<nv (seg ys ob k))) (.got ok .ret (cmp.r (-1) xs ta ys tb nx)) (.br (decide (nv (seg xs oa k)>nv (seg ys ob k))) (.got ok .ret (cmp.r 1 xs ta ys tb nx)) (.got ok (.exit 0) (cmp.st oa la ca ob lb cb (-1) xs ta ys tb nx)))
def cmp.lt (oa la ca ob lb cb:Nat) (i:Int) (xs:List Int) (ta:TypeId) (ys:List Int) (tb:TypeId) (nx:Nat):LT:=cmp.tr (cmp.ok oa la ob lb i xs ys) oa la ca ob lb cb la xs ta ys tb nx
theorem cmp.go {N:Nat→Prop} (oa la ca ob lb cb:Nat) (xs:List Int) (ta:TypeId) (ys:List Int) (tb:TypeId) (nx:Nat) (h1:oa+la≤xs.length) (h2:ob+lb≤ys.length) (h3:la=lb) (h4:la≤4294967296) (hx:dig xs) (hy:dig ys):∀(k:Nat),k≤la→∀(x:X) (S':St),(cmp.tr true oa la ca ob lb cb k xs ta ys tb nx).at=some (x,S')→Lq Tryz.prog N (loopCode Tryz.f190 0) (cmp.st oa la ca ob lb cb ((k:Int)-1) xs ta ys tb nx) x S'
 | 0,_,x,S',h=>by
  simp only [cmp.tr,seg_zero,nv,LT.at,Int.lt_irrefl,gt_iff_lt,decide_false,cond_false,cond_true,Option.some.injEq,Prod.mk.injEq] at h
  obtain ⟨rfl,rfl⟩:=h
  exact cmp.stop3 _ _ _ _ _ _ _ _ _ _ _ _ rfl
 | k + 1,hk,x,S',h=>by
  have e0:(((k+1:Nat):Int)-1)=(k:Int):=by omega
  have e1:IntKind.i64.wrap ((k:Int)-1)=(k:Int)-1:=w64 (by omega) (by omega)
  have ea:oa+((k:Int)).toNat*1=oa+k:=by simp
  have eb:ob+((k:Int)).toNat*1=ob+k:=by simp
  have c1:(decide (0≤(k:Int))&&decide ((k:Int)<(la:Int)))=true:=dtrue2 (by omega) (by omega)
  have c2:(oa+((k:Int)).toNat*1).blt xs.length=true:=by rw [ea]; exact blt_of (by omega)
  have c3:(decide (0≤(k:Int))&&decide ((k:Int)<(lb:Int)))=true:=dtrue2 (by omega) (by omega)
  have c4:(ob+((k:Int)).toNat*1).blt ys.length=true:=by rw [eb]; exact blt_of (by omega)
  have hA0:=nv_nonneg (dig_seg hx oa k)
  have hB0:=nv_nonneg (dig_seg hy ob k)
  have hA:=nv_lt (dig_seg hx oa k)
  have hB:=nv_lt (dig_seg hy ob k)
  rw [seg_length (by omega)] at hA hB
  have hp:=pw_pos k
  unfold cmp.tr at h
  rw [nv_seg_succ (by omega),nv_seg_succ (by omega)] at h
  have ih:=cmp.go (N:=N) oa la ca ob lb cb xs ta ys tb nx h1 h2 h3 h4 hx hy k (by omega) x S'
  unfold cmp.tr at ih
  rw [e0]
  rcases Int.lt_trichotomy (xs.getD (oa+k) 0) (ys.getD (ob+k) 0) with hc|hc|hc
  ·have hm:pw k*(xs.getD (oa+k) 0+1)≤pw k*ys.getD (ob+k) 0:=Int.mul_le_mul_of_nonneg_left (by omega) (by omega)
   rw [Int.mul_add,Int.mul_one] at hm
   rw [decide_eq_true (show nv (seg xs oa k)+pw k*xs.getD (oa+k) 0<nv (seg ys ob k)+pw k*ys.getD (ob+k) 0 by omega)] at h
   simp only [LT.at,cond_true,Option.some.injEq,Prod.mk.injEq] at h
   obtain ⟨rfl,rfl⟩:=h
   exact cmp.stop0 _ _ _ _ _ _ _ _ _ _ _ _ (dtrue (by omega)) c1 c2 c3 c4 (by rw [ea,eb]; exact dtrue hc)
  ·rw [hc] at h
   have q1:decide (nv (seg xs oa k)+pw k*ys.getD (ob+k) 0<nv (seg ys ob k)+pw k*ys.getD (ob+k) 0)=decide (nv (seg xs oa k)<nv (seg ys ob k)):=by
    by_cases hq:nv (seg xs oa k)<nv (seg ys ob k)
    ·rw [dtrue hq]; exact dtrue (by omega)
    ·rw [dfalse hq]; exact dfalse (by omega)
   have q2:decide (nv (seg xs oa k)+pw k*ys.getD (ob+k) 0>nv (seg ys ob k)+pw k*ys.getD (ob+k) 0)=decide (nv (seg xs oa k)>nv (seg ys ob k)):=by
    by_cases hq:nv (seg xs oa k)>nv (seg ys ob k)
    ·rw [dtrue hq]; exact dtrue (by omega)
    ·rw [dfalse hq]; exact dfalse (by omega)
   rw [q1,q2] at h
   refine cmp.step2 _ _ _ _ _ _ _ _ _ _ _ _ (dtrue (by omega)) c1 c2 c3 c4 (by rw [ea,eb,hc]; exact dfalse (by omega)) c1 c2 c3 c4 (by rw [ea,eb,hc]; exact dfalse (by omega)) ?_
   rw [e1]
   exact ih h
  ·have hm:pw k*(ys.getD (ob+k) 0+1)≤pw k*xs.getD (oa+k) 0:=Int.mul_le_mul_of_nonneg_left (by omega) (by omega)
   rw [Int.mul_add,Int.mul_one] at hm
   rw [decide_eq_false (show ¬nv (seg xs oa k)+pw k*xs.getD (oa+k) 0<nv (seg ys ob k)+pw k*ys.getD (ob+k) 0 by omega),decide_eq_true (show nv (seg xs oa k)+pw k*xs.getD (oa+k) 0>nv (seg ys ob k)+pw k*ys.getD (ob+k) 0 by omega)] at h
   simp only [LT.at,cond_true,cond_false,Option.some.injEq,Prod.mk.injEq] at h
   obtain ⟨rfl,rfl⟩:=h
   exact cmp.stop1 _ _ _ _ _ _ _ _ _ _ _ _ (dtrue (by omega)) c1 c2 c3 c4 (by rw [ea,eb]; exact dfalse (by omega)) c1 c2 c3 c4 (by rw [ea,eb]; exact dtrue hc)
theorem cmp.lp {N:Nat→Prop} (oa la ca ob lb cb:Nat) (i:Int) (xs:List Int) (ta:TypeId) (ys:List Int) (tb:TypeId) (nx:Nat) {x:X} {S':St} (h:(cmp.lt oa la ca ob lb cb i xs ta ys tb nx).at=some (x,S')):Lq Tryz.prog N (loopCode Tryz.f190 0) (cmp.st oa la ca ob lb cb i xs ta ys tb nx) x S':=by
 unfold cmp.lt at h
 cases hok:cmp.ok oa la ob lb i xs ys with
 | false=>
  exfalso
  rw [hok] at h
  unfold cmp.tr at h
  simp only [LT.at] at h
  revert h
  cases decide (nv (seg xs oa la)<nv (seg ys ob la))<;>cases decide (nv (seg xs oa la)>nv (seg ys ob la))<;>simp
 | true=>
  rw [hok] at h
  simp only [cmp.ok,Bool.and_eq_true,decide_eq_true_eq,natOk_iff] at hok
  obtain ⟨h1,h2,⟨h3,h4,h5⟩,h6,h7,h8⟩:=hok
  have:i=((la:Nat):Int)-1:=by omega
  subst this
  exact cmp.go oa la ca ob lb cb xs ta ys tb nx h3 h6 h2 h4 h5 h8 la (Nat.le_refl _) x S' h
def cmp.t:LSpec:=fun S=>match RX.nth S.tmps 0,RX.nth S.tmps 1,RX.nth S.tmps 5,RX.look S.heap 0,RX.look S.heap 1 with
 | .slice (some ⟨0,oa,none⟩) la ca,.slice (some ⟨1,ob,none⟩) lb cb,.int .i64 i,some (.is .u32 xs ta),some (.is .u32 ys tb)=>bif Nat.beq S.tmps.length 43 then some (cmp.lt oa la ca ob lb cb i xs ta ys tb S.nxt) else none
 |_,_,_,_,_=>none
theorem cmp.lok {N:Nat→Prop} :LOKn Tryz.prog N (loopCode Tryz.f190 0) (cmp.t):=by
 refine lok_q fun S lt x S' ht hat=> ?_
 unfold cmp.t at ht
 split at ht
 ·rename_i oa la ca ob lb cb i xs ta ys tb h0 h1 h5 g0 g1
  cases hb:Nat.beq S.tmps.length 43 with
  |false=>rw [hb] at ht; cases ht
  | true=>
   rw [hb] at ht
   injection ht with ht
   subst ht
   have hb:=Nat.eq_of_beq_eq_true hb
   exact .enter (fun h=>wk_of hb (.cons ⟨h0,bnth h h0⟩ (.cons ⟨h1,bnth h h1⟩ (.cons ⟨h5,bnth h h5⟩ .nil))) (.cons ⟨g0,bname h g0,rfl⟩ (.cons ⟨g1,bname h g1,rfl⟩ .nil))) (cmp.lp _ _ _ _ _ _ _ _ _ _ _ _ hat)
 ·cases ht
def cmpI (la lb:Nat) (a b:Int):Int:=if la=lb then (if a<b then -1 else if a>b then 1 else 0) else (la:Int)-lb
def compare.sp:HSpec
 |[.slice (some ⟨0,oa,none⟩) la ca,.slice (some ⟨1,ob,none⟩) lb cb],[.is .u32 xs 64,.is .u32 ys 64]=>some (natOk oa la xs&&natOk ob lb ys,.int .i64 (cmpI la lb (nv (seg xs oa la)) (nv (seg ys ob lb))),[.is .u32 xs 64,.is .u32 ys 64])
 |_,_=>none
theorem compare.run (oa la ca ob lb cb:Nat) (xs ys:List Int):xfn Tryz.prog ⟨[],[],[]⟩ [(0,cmp.t)] 10 Tryz.f190 [.slice (some ⟨0,oa,none⟩) la ca,.slice (some ⟨1,ob,none⟩) lb cb] [.is .u32 xs 64,.is .u32 ys 64]=
 bif (la:Int) !=(lb:Int) then some (.int .i64 (IntKind.i64.wrap ((la:Int)-lb)),[.is .u32 xs 64,.is .u32 ys 64]) else bif decide (nv (seg xs oa la)<nv (seg ys ob la)) then bif cmp.ok oa la ob lb (IntKind.i64.wrap ((la:Int)-1)) xs ys then some (.int .i64 (-1),[.is .u32 xs 64,.is .u32 ys 64]) else none else bif decide (nv (seg xs oa la)>nv (seg ys ob la)) then bif cmp.ok oa la ob lb (IntKind.i64.wrap ((la:Int)-1)) xs ys then some (.int .i64 1,[.is .u32 xs 64,.is .u32 ys 64]) else none else bif cmp.ok oa la ob lb (IntKind.i64.wrap ((la:Int)-1)) xs ys then some (.int .i64 0,[.is .u32 xs 64,.is .u32 ys 64]) else none:=by kernel_rfl
theorem compare.ok:SOK Tryz.prog 190 compare.sp:=by
 refine sok_of (E:=⟨[],[],[]⟩) (L:=[(0,cmp.t)]) ⟨specs_nil,inl_nil,mixed_ok,lps_nil⟩ 10 Tryz.func190 (by decide) rfl (one_loop rfl rfl cmp.lok) fun vs bl v bl' h=> ?_
 unfold compare.sp at h
 split at h
 ·rename_i oa la ca ob lb cb xs ys
  simp only [Option.some.injEq,Prod.mk.injEq,Bool.and_eq_true,natOk_iff] at h
  obtain ⟨⟨⟨h1,h2,h3⟩,h4,h5,h6⟩,rfl,rfl⟩:=h
  refine ⟨(compare.run oa la ca ob lb cb xs ys).trans ?_,by simp [okV,Nat.blt],clo_spec 8 _ rfl,told_blk rfl⟩
  unfold cmpI
  by_cases hl:la=lb
  ·subst hl
   have hok:cmp.ok oa la ob la (IntKind.i64.wrap ((la:Int)-1)) xs ys=true:=by
    rw [w64 (by omega) (by omega)]
    simp only [cmp.ok,Bool.and_eq_true,decide_eq_true_eq,natOk_iff]
    exact ⟨by omega,trivial,⟨h1,h2,h3⟩,h4,h5,h6⟩
   rw [bne_self_eq_false,cond_false,hok,if_pos rfl]
   by_cases q1:nv (seg xs oa la)<nv (seg ys ob la)
   ·rw [dtrue q1,if_pos q1]; rfl
   ·by_cases q2:nv (seg xs oa la)>nv (seg ys ob la)
    ·rw [dfalse q1,dtrue q2,if_neg q1,if_pos q2]; rfl
    ·rw [dfalse q1,dfalse q2,if_neg q1,if_neg q2]; rfl
  ·rw [bne_of (show (la:Int)≠lb by omega),cond_true,if_neg hl,w64 (by omega) (by omega)]
 ·cases h
end Go.Proofs.YtpejalpgficopaaGreatDoor.G
end
section
namespace Go.Proofs.YtpejalpgficopaaGreatDoor.G
set_option maxRecDepth 100000
open Go RX
theorem dg_snoc:∀(k:Nat) (v:Int),dg (k+1) v=dg k v++[v/pw k%4294967296]
 |0,v=>by simp [dg,pw_zero]
 | k+1,v=>by
  have ih:=dg_snoc k (v/4294967296)
  rw [Int.ediv_ediv,if_neg (by omega),Int.sub_zero,←pw_succ] at ih
  rw [dg,ih]
  rfl
theorem dg_mod:∀(k:Nat) (v z:Int),dg k (v+pw k*z)=dg k v
 |0,v,z=>rfl
 | k+1,v,z=>by
  have e1:(v+pw (k+1)*z)%4294967296=v%4294967296:=by rw [pw_succ,Int.mul_assoc]; omega
  have e2:(v+pw (k+1)*z)/4294967296=v/4294967296+pw k*z:=by rw [pw_succ,Int.mul_assoc]; omega
  simp only [dg,e1,e2,dg_mod k]
theorem step_div (k:Nat) (v z:Int):(v+pw k*z)/pw k=v/pw k+z:=Int.add_mul_ediv_left _ _ (by have:=pw_pos k; omega)
theorem step_div' (k:Nat) (v z:Int):(v+pw k*z)/pw (k+1)=(v/pw k+z)/4294967296:=by
 rw [pw_succ,Int.mul_comm 4294967296,←step_div k v z,Int.ediv_ediv,if_neg (by have:=pw_pos k; omega),Int.sub_zero]
def ap (k:Nat) (v:Int) (n:Nat):List Int:=dg k v++List.replicate (n-k) 0
theorem ap_length {k n:Nat} (v:Int) (h:k≤n):(ap k v n).length=n:=by simp [ap,dg_length]; omega
theorem ap_zero (v:Int) (n:Nat):ap 0 v n=List.replicate n 0:=rfl
theorem ap_set {k n:Nat} (h:k<n) (v z:Int):(ap k v n).set k ((v/pw k+z)%4294967296)=ap (k+1) (v+pw k*z) n:=by
 obtain ⟨d,rfl⟩:=Nat.exists_eq_add_of_lt h
 unfold ap
 rw [show k+d+1-k=d+1 from by omega,show k+d+1-(k+1)=d from by omega,dg_snoc,dg_mod,step_div,List.replicate_succ]
 have hl:=dg_length k v
 rw [List.set_append_right _ _ (by omega),hl,Nat.sub_self,List.set_cons_zero,List.append_assoc]
 rfl
theorem ap_full (k:Nat) (v:Int):ap k v k=dg k v:=by simp [ap]
def sg (xs:List Int) (o l k:Nat):Int:=nv (seg xs o (min k l))
theorem sg_succ {xs:List Int} {o l k:Nat} (h:o+l≤xs.length):sg xs o l (k+1)=sg xs o l k+pw k*(if k<l then xs.getD (o+k) 0 else 0):=by
 unfold sg
 by_cases hk:k<l
 ·rw [if_pos hk,Nat.min_eq_left (by omega),Nat.min_eq_left (by omega),nv_seg_succ (by omega)]
 ·rw [if_neg hk,Nat.min_eq_right (by omega),Nat.min_eq_right (by omega)]; simp
theorem sg_bnd {xs:List Int} (hd:dig xs) {o l:Nat} (h:o+l≤xs.length) (k:Nat):0≤sg xs o l k∧sg xs o l k<pw k:=by
 refine ⟨nv_nonneg (dig_seg hd _ _),?_⟩
 have h1:=nv_lt (dig_seg hd o (min k l))
 rw [seg_length (by omega)] at h1
 have h2:pw (min k l)≤pw k:=by
  have:=Nat.pow_le_pow_right (show 0<4294967296 by decide) (Nat.min_le_left k l)
  simp only [pw]; omega
 exact Int.lt_of_lt_of_le h1 h2
theorem sg_full (xs:List Int) (o l k:Nat) (h:l≤k):sg xs o l k=nv (seg xs o l):=by unfold sg; rw [Nat.min_eq_right h]
theorem bo_nat (b:BitVec 32):IntKind.u32.wrap ((b.toNat:Nat):Int)=(b.toNat:Int):=u32of (by omega) (by have:=b.isLt; omega)
theorem bo_and (x y:Int):bitsOf .and .u32 x y=((BitVec.ofInt 32 x&&&BitVec.ofInt 32 y).toNat:Int):=bo_nat _
theorem bo_or (x y:Int):bitsOf .or .u32 x y=((BitVec.ofInt 32 x|||BitVec.ofInt 32 y).toNat:Int):=bo_nat _
theorem bo_xor (x y:Int):bitsOf .xor .u32 x y=((BitVec.ofInt 32 x^^^BitVec.ofInt 32 y).toNat:Int):=bo_nat _
theorem ofInt_nat (b:BitVec 32):BitVec.ofInt 32 ((b.toNat:Nat):Int)=b:=by simp
theorem ofInt_ones:BitVec.ofInt 32 (if IntKind.u32.signed=true then -1 else IntKind.u32.max)=BitVec.allOnes 32:=by decide
theorem msb_ofInt {x:Int} (h:0≤x) (h':x<4294967296):(BitVec.ofInt 32 x).msb=decide (2147483648≤x):=by
 obtain ⟨n,rfl⟩:=Int.eq_ofNat_of_zero_le h
 rw [BitVec.msb_eq_decide]
 simp only [BitVec.ofInt_natCast,BitVec.toNat_ofNat]
 rw [Nat.mod_eq_of_lt (by omega)]
 by_cases hn:2147483648≤n
 ·rw [decide_eq_true (by omega),decide_eq_true (by omega)]
 ·rw [decide_eq_false (by omega),decide_eq_false (by omega)]
theorem borrow {x y b:Int} (hx:0≤x) (hx':x<4294967296) (hy:0≤y) (hy':y<4294967296) (hb:0≤b) (hb':b≤1):
  (bitsOf .or .u32 (bitsOf .and .u32 (bitsOf .xor .u32 (if IntKind.u32.signed=true then -1 else IntKind.u32.max) x) y) (bitsOf .and .u32 (bitsOf .xor .u32 (if IntKind.u32.signed=true then -1 else IntKind.u32.max) (bitsOf .xor .u32 x y)) (IntKind.u32.wrap (IntKind.u32.wrap (x-y)-b)))).fdiv (2^min (Int.toNat 31) IntKind.u32.bits)= -((x-y-b)/4294967296):=by
 simp only [bo_and,bo_or,bo_xor,ofInt_nat,ofInt_ones]
 have ed:IntKind.u32.wrap (IntKind.u32.wrap (x-y)-b)=(x-y-b)%4294967296:=by rw [wu32,wu32]; omega
 rw [ed]
 have hd0:=Int.emod_nonneg (x-y-b) (show (4294967296:Int)≠0 by decide)
 have hd1:=Int.emod_lt_of_pos (x-y-b) (show (0:Int)<4294967296 by decide)
 generalize hT:(((BitVec.allOnes 32^^^BitVec.ofInt 32 x)&&&BitVec.ofInt 32 y)|||((BitVec.allOnes 32^^^(BitVec.ofInt 32 x^^^BitVec.ofInt 32 y))&&&BitVec.ofInt 32 ((x-y-b)%4294967296)))=t
 have hm:t.msb=((!decide (2147483648≤x)&&decide (2147483648≤y))||(!(decide (2147483648≤x)^^decide (2147483648≤y))&&decide (2147483648≤(x-y-b)%4294967296))):=by
  rw [←hT]
  simp only [BitVec.msb_or,BitVec.msb_and,BitVec.msb_xor,BitVec.msb_allOnes (show 0<32 by decide),msb_ofInt hx hx',msb_ofInt hy hy',msb_ofInt hd0 hd1,Bool.true_xor]
 have ht:((t.toNat:Nat):Int).fdiv (2^min (Int.toNat 31) IntKind.u32.bits)=if t.msb=true then 1 else 0:=by
  have hlt:=t.isLt
  rw [Int.fdiv_eq_ediv_of_nonneg _ (by decide),show ((2:Int)^min (Int.toNat 31) IntKind.u32.bits)=2147483648 from rfl,BitVec.msb_eq_decide]
  split
  ·rename_i h; have:=of_decide_eq_true h; omega
  ·rename_i h; have:¬_:=fun q=>h (decide_eq_true q); omega
 rw [ht,hm]
 by_cases q1:2147483648≤x<;>by_cases q2:2147483648≤y<;>by_cases q3:2147483648≤(x-y-b)%4294967296<;>simp only [q1,q2,q3,decide_true,decide_false,Bool.not_true,Bool.not_false,Bool.true_and,Bool.false_and,Bool.and_true,Bool.and_false,Bool.or_true,Bool.or_false,Bool.true_or,Bool.false_or,Bool.xor_true,Bool.xor_false,Bool.true_xor,Bool.false_xor,if_true,if_false,Bool.false_eq_true]<;>omega
end Go.Proofs.YtpejalpgficopaaGreatDoor.G
end
