/- A part of what the law's proof leans on. PACKED BY pack.py of this repo. -/
import Derived.Test.YtgfjidlckocflaaDoorProg
import Derived.Below
import Derived.Deep.Draws
import Derived.Deep.AppendLies
import Derived.Maps.AppendAt
import Derived.OwnWalk
import Derived.Laws.BytesArg
import Derived.Laws.MakeOwn
import Derived.Laws.OwnMore
import Derived.Deep.OwnRows
import Derived.Tactics
import Derived.Lib.ConvBytes
import Derived.Laws.Slices
import Derived.WalkKit
import Derived.KernelRfl
import Derived.RowKit3
import Derived.Deep.LoopGhost
import Derived.Deep.QuietTactic
import Derived.BigQuiet
import Derived.WideLaws
import Derived.Deep.DeepCutAuto
import Derived.Deep.CutBlock
import Derived.Deep.RegionHeld3
import Derived.Laws.Rows
import Derived.Lib.AppendStr
import Derived.ArgAppend
import Derived.Laws.IdiomCopy
import Derived.OrdersHeld
import Derived.Laws.BitsLemmas
import Derived.RowKit
import Derived.Shelf.Abstract
import Derived.Lib.SliceRun
import Derived.Laws.StructEq
import Derived.Test.YtgfjidlckocflaaDoorLy
import Derived.Sort.LotA
import Derived.Shelf.SlSortCmp.KitK
import Derived.Sort.WalkA
import Derived.Sort.WalkB2
import Derived.Sort.WalkB12
import Derived.Deep.CutRange
import Derived.Lib.OwnBridge
import Derived.Lib.AppendIntMem
import Derived.ChangeSlices
import Derived.Deep.Strs
import Derived.ProofKit
import Derived.OpenShut
import Derived.ShutString
import Derived.ChangeOld
import Derived.LaidMore
import Derived.Lay
import Derived.SevenTiedAt
import Derived.Stop.Joined
import Derived.Lib.LaidTab
import Derived.Stop.LaidErr
set_option linter.unusedVariables false
set_option linter.unusedSimpArgs false
set_option linter.defProp false
set_option linter.unusedSectionVars false
namespace Go.Proofs
end Go.Proofs
section
namespace Go.Proofs.YtgfjidlckocflaaDoorW.PrintWords
set_option maxRecDepth 100000
open Go.RowKit
structure Aside0 (p:Prop):Prop where mk::(out:p)
structure Drawn0 (w w':World):Prop where mk::(out:∃n,w'=w.drewN n)
theorem Drawn0.refl (w:World):Drawn0 w w:=⟨⟨0,rfl⟩⟩
theorem Drawn0.step {w w':World} (h:Drawn0 w w') (n:Nat):Drawn0 w (w'.drewN n):=by
 obtain ⟨m,rfl⟩:=h
 exact ⟨⟨m+n,World.drewN_drewN ..⟩⟩
def nums (k:IntKind) (xs:List Int):List Value:=xs.map fun x=> .int k x
theorem AI {w W:World} (h:Below w.heap.size w W) (o:Obj):Below w.heap.size w (W.alloc o):=h.alloc h.size o
theorem CY {B:Nat} {w W:World} (h:Below B w W):Below B w W.drew:=⟨h.os,h.tape,h.output,h.size,h.block⟩
theorem AG {B:Nat} {w W:World} (h:Below B w W) (n:Nat):Below B w (W.drewN n):=⟨h.os,h.tape,h.output,h.size,h.block⟩
theorem DP {B:Nat} {w w1 w2:World} (h:Below B w w1) (hB:B≤w1.heap.size) (k:Below w1.heap.size w1 w2):Below B w w2:=
 h.trans ⟨k.os,k.tape,k.output,k.size,fun i hi=>k.block i (Nat.lt_of_lt_of_le hi hB)⟩
theorem Cb {w w1:World} (h:Below w.heap.size w w1) {a:Addr} {v:Value} (hc:w.cell? a=some v):w1.cell? a=some v:=(h.cell (World.block_lt_of_cell? w a hc)).trans hc
theorem own_nil (W:World) (base:Nat) (e:TypeId) (size:Nat):W.ownsRow base e size (.slice none 0 0) 0 []:=⟨by simp,.inl ⟨rfl,rfl⟩⟩
theorem Bn {w:World} {base:Nat} {e:TypeId} {size n:Nat} {v:Value} {xs:List Value} (h:w.ownsRow base e size v n xs) (k:Nat) (hk:v.ownBlock=some k):base≤k:=by
 rcases h.2 with ⟨rfl,_⟩|⟨g,cap,cur,rfl,hb,_⟩
 ·simp [Value.ownBlock] at hk
 ·have:g=k:=by simpa [Value.ownBlock] using hk
  omega
theorem Dx {w:World} {base:Nat} {e:TypeId} {size n:Nat} {v:Value} {xs:List Value} (h:w.ownsRow base e size v n xs) (k:Nat) (hk:v.ownBlock=some k):k<w.heap.size:=by
 rcases h.2 with ⟨rfl,_⟩|⟨g,cap,cur,rfl,hb,hh,_⟩
 ·simp [Value.ownBlock] at hk
 ·have:g=k:=by simpa [Value.ownBlock] using hk
  subst this
  exact (Array.getElem?_eq_some_iff.1 hh).1
theorem CQ {P:Program} {w:World} {base n:Nat} {e' src dst e:TypeId} {v:Value} {xs:List Int} (hs:P.underlying src=some (.slice e)) (he:P.underlying e=some (.int .u8)) (hd:P.underlying dst=some .string)
  (h:w.ownsRow base e' 1 v n (nums .u8 xs)):(convert src dst v).run P w= .ok (.string (strOfNums xs)) w:=by
 have hl:xs.length=n:=by have:=h.1; simp [nums] at this; exact this
 rcases h.2 with ⟨rfl,rfl⟩|⟨g,cap,cur,rfl,_⟩
 ·obtain rfl:xs=[]:=List.eq_nil_of_length_eq_zero hl
  exact run_convert_bytes_nil w src e hs he 0 0 dst hd
 ·refine run_convert_bytes_arg w src e hs he g 0 n cap xs hl (fun i hi=> ?_) dst hd
  have hc:=h.cells (g:=g) rfl i (.int .u8 (xs.getD i 0)) (by simp [nums,List.getElem?_eq_getElem (show i<xs.length by omega),List.getD_eq_getElem?_getD])
  have ha:(⟨g,0,none⟩:Addr).add i=⟨g,0+i,none⟩:=by unfold Addr.add; split<;>simp_all
  rwa [ha] at hc
section
variable {P:Program} {ops:Array Oper} {rest:List Oper} {o:Oper} {a:Act} {Q:Exit→Act→World→Prop}
end
section
variable {P:Program}
end
section
variable {P:Program} {ops:Array Oper} {rest:List Oper} {o:Oper} {a:Act} {Q:Exit→Act→World→Prop}
end
def LeO {α:Type} (a b:Option α):Prop:=∀r,a=some r→b=some r
theorem LeO.refl {α:Type} (a:Option α):LeO a a:=fun _ h=>h
theorem LeO.none {α:Type} (b:Option α):LeO Option.none b:=fun _ h=>by cases h
theorem LeO.trans {α:Type} {a b c:Option α} (h:LeO a b) (k:LeO b c):LeO a c:=fun r hr=>k r (h r hr)
theorem LeO.ite {α:Type} {c:Prop} [Decidable c] {a a' b b':Option α} (h:LeO a a') (k:LeO b b'):LeO (if c then a else b) (if c then a' else b'):=by
 split
 ·exact h
 ·exact k
theorem LeO.bind {α β:Type} {a a':Option α} {f f':α→Option β} (h:LeO a a') (k:∀x,LeO (f x) (f' x)):LeO (a.bind f) (a'.bind f'):=by
 intro r hr
 obtain ⟨x,hx,hf⟩:=Option.bind_eq_some_iff.1 hr
 exact Option.bind_eq_some_iff.2 ⟨x,h x hx,k x r hf⟩
theorem CF {α:Type} {g:Nat→Option α} (h:∀k,LeO (g k) (g (k+1))) (k:Nat):∀j,LeO (g k) (g (k+j))
 |0=>LeO.refl _
 |j+1=>(CF h k j).trans (h (k+j))
theorem Dl {α:Type} {g:Nat→Option α} (h:∀k,LeO (g k) (g (k+1))) {k k':Nat} (hk:k≤k') {r:α} (hr:g k=some r):g k'=some r:=by
 have:=CF h k (k'-k) r hr
 rwa [Nat.add_sub_cancel' hk] at this
def Reps {α:Type} (R:α→List Value→Prop) (size:Nat) (ps:List α) (cs:List Value):Prop:=
 cs.length=ps.length*size∧∀j p,ps[j]? =some p→R p ((cs.drop (j*size)).take size)
theorem Reps.none {α:Type} (R:α→List Value→Prop) (size:Nat):Reps R size [] []:=⟨by simp,fun j p h=>by simp at h⟩
theorem Reps.snoc {α:Type} {R:α→List Value→Prop} {size:Nat} {ps:List α} {cs c:List Value} {p:α} (h:Reps R size ps cs) (hp:R p c) (hc:c.length=size):Reps R size (ps++[p]) (cs++c):=by
 refine ⟨by rw [List.length_append,h.1,hc,List.length_append,List.length_singleton,Nat.add_mul,Nat.one_mul],fun j q hq=> ?_⟩
 rcases Nat.lt_or_ge j ps.length with hj|hj
 ·rw [List.getElem?_append_left hj] at hq
  have h1:j*size+size≤cs.length:=by rw [h.1,←Nat.succ_mul]; exact Nat.mul_le_mul_right _ hj
  have h2:=h.2 j q hq
  rw [List.drop_append_of_le_length (by omega),List.take_append_of_le_length (by rw [List.length_drop]; omega)]
  exact h2
 ·have hj':j=ps.length:=by
   have:=(List.getElem?_eq_some_iff.1 hq).1
   rw [List.length_append,List.length_singleton] at this
   omega
  subst hj'
  have hq':p=q:=by simpa using hq
  subst hq'
  rw [←h.1,List.drop_left,←hc,List.take_length]
  exact hp
theorem Reps.imp_ {α:Type} {R R':α→List Value→Prop} {size:Nat} {ps:List α} {cs:List Value} (h:Reps R size ps cs) (hR:∀p c,R p c→R' p c):Reps R' size ps cs:=⟨h.1,fun j p hj=>hR _ _ (h.2 j p hj)⟩
def ReadsRow {α:Type} (R:α→List Value→Prop) (size:Nat) (w:World) (A:Option Addr) (n:Nat) (ps:List α):Prop:=
 ps.length=n∧n≤9223372036854775807∧(0<n→∃ad,A=some ad∧∀j p,ps[j]? =some p→∃c,c.length=size∧R p c∧∀i u,c[i]? =some u→w.cell? (ad.add (j*size+i))=some u)
theorem ReadsRow.get_ {α:Type} {R:α→List Value→Prop} {size:Nat} {w:World} {A:Option Addr} {n:Nat} {ps:List α} (h:ReadsRow R size w A n ps) (d:α) (i:Int) (h0:0≤i) (h1:i<n):
  ∃ad c,A=some ad∧c.length=size∧R (ps.getD i.toNat d) c∧∀j u,c[j]? =some u→w.cell? (ad.add (i.toNat*size+j))=some u:=by
 obtain ⟨ad,e,hc⟩:=h.2.2 (by omega)
 have hl:i.toNat<ps.length:=by have:=h.1; omega
 obtain ⟨c,hs,hr,hcell⟩:=hc i.toNat _ (List.getElem?_eq_getElem hl)
 refine ⟨ad,c,e,hs,?_,hcell⟩
 rw [List.getD_eq_getElem?_getD,List.getElem?_eq_getElem hl]
 exact hr
theorem ReadsRow.imp_ {α:Type} {R R':α→List Value→Prop} {size:Nat} {w w1:World} {A:Option Addr} {n:Nat} {ps:List α} (h:ReadsRow R size w A n ps) (hb:Below w.heap.size w w1) (hR:∀p c,R p c→R' p c):ReadsRow R' size w1 A n ps:=
 ⟨h.1,h.2.1,fun hn=>by
  obtain ⟨ad,e,hc⟩:=h.2.2 hn
  refine ⟨ad,e,fun j p hj=> ?_⟩
  obtain ⟨c,hs,hr,hcell⟩:=hc j p hj
  exact ⟨c,hs,hR _ _ hr,fun i u hu=>Cb hb (hcell i u hu)⟩⟩
theorem Cc {α:Type} {R:α→List Value→Prop} {w:World} {base n size:Nat} {e:TypeId} {v:Value} {ps:List α} {cs:List Value} (h:w.ownsRow base e size v n cs) (hR:Reps R size ps cs) (hn:ps.length=n):
  ∃A c,v= .slice A n c∧ReadsRow R size w A n ps:=by
 rcases Nat.eq_zero_or_pos n with h0|h0
 ·rcases h.2 with ⟨rfl,rfl⟩|⟨g,cap,cur,rfl,_⟩
  ·exact ⟨none,0,rfl,hn,by omega,fun hp=>absurd hp (by omega)⟩
  ·exact ⟨_,cap,rfl,hn,by omega,fun hp=>absurd hp (by omega)⟩
 ·obtain ⟨g,cap,rfl,_,_⟩:=h.form h0
  have hm:n≤9223372036854775807:=by
   rcases h.2 with ⟨_,h1⟩|⟨g',cap',cur,he,_,_,h1,h2,_⟩
   ·omega
   ·simp only [maxLen] at h2
    omega
  refine ⟨_,cap,rfl,hn,hm,fun _=>⟨_,rfl,fun j p hj=>⟨(cs.drop (j*size)).take size,?_,hR.2 j p hj,fun i u hu=> ?_⟩⟩⟩
  ·have hjl:=(List.getElem?_eq_some_iff.1 hj).1
   have h1:j*size+size≤cs.length:=by rw [hR.1,←Nat.succ_mul]; exact Nat.mul_le_mul_right _ hjl
   rw [List.length_take,List.length_drop]
   omega
  ·refine h.cells (g:=g) rfl _ u ?_
   rw [List.getElem?_take] at hu
   split at hu
   ·rw [List.getElem?_drop] at hu
    exact hu
   ·cases hu
theorem Cm (ad:Addr) (m j:Nat) (hj:0<j):ad.add (m+j)=⟨(ad.add m).block,(ad.add m).off+j,none⟩:=by
 unfold Addr.add
 by_cases hm:m=0
 ·subst hm
  simp [Nat.ne_of_gt hj]
 ·simp [hm,Nat.add_assoc]
section
variable {P:Program} {ops:Array Oper} {rest:List Oper} {o:Oper} {a:Act} {Q:Exit→Act→World→Prop}
theorem C1 {w0 W:World} (base:Nat) (hgd:o.guard=none) (s x:Operand) (t e:TypeId) (z:Value) (size bytes:Nat)
  (ho:o.op= .call {callee:= .builtin .append,args:= #[s,x],argTypes:= #[t,t]})
  (ht:P.underlying t=some (.slice e)) (hinfo:(P.info? e).map (fun i=>(i.zero,i.size,i.bytes))=some (some z,size,bytes)) (hz:z.cells.size=size) (hs0:0<size) (hb0:0<bytes)
  (v:Value) (n:Nat) (xs ys:List Value) (hs:a.eval s=v) (hx:a.eval x= .slice (some ⟨W.heap.size,0,none⟩) 1 1) (hys:ys.length=size) (h1:∀u∈ys,u.oneCell'=true)
  (HO:W.ownsRow base e size v n xs) (HB:Below base w0 W) (hbase:base≤W.heap.size) (hl:(n+1)*bytes≤140737488355328)
  (h:∀v1 w1,w1.ownsRow base e size v1 (n+1) (xs++ys)→Below base w0 w1→W.grownBy w1 v.ownBlock→(v1.ownBlock=v.ownBlock∨∃b,v1.ownBlock=some b∧W.heap.size≤b)→wpList P ops Q rest (a.put o.dst v1) w1):
  wpList P ops Q (o::rest) a (W.alloc (.cells ys.toArray e)):=by
 obtain ⟨i0,hi,hzz⟩:=Option.map_eq_some_iff.1 hinfo
 simp only [Prod.mk.injEq] at hzz
 obtain ⟨hz0,hz1,hz2⟩:=hzz
 have hlen:n+1≤140737488355328:=Nat.le_trans (Nat.le_mul_of_pos_right _ hb0) hl
 refine wpList_append_own_at (W.alloc (.cells ys.toArray e)) hgd s x t ho base e i0 z size bytes ht hi hz0 hz1 hz2 hz hs0 v n xs hs (HO.alloc _) ⟨W.heap.size,0,none⟩ 1 1 ys hx (by rw [hys]; simp)
  (by simpa using World.news_of_block (cs:=ys.toArray) (t:=e) (fr:=(0,0)) (heap_alloc_new W (.cells ys.toArray e))) h1 (by simp only [maxLen]; omega) hl (by simp; omega) ?_
 intro v1 w1 hown hg _ hat
 refine h v1 w1 hown ((HB.alloc hbase _).grown hg (by simp; omega) (Bn HO)) (World.grownBy.trans (World.grownBy_alloc W _ _) hg) ?_
 rcases hat with hat|hat
 ·exact .inl hat
 ·exact .inr ⟨_,hat,by simp⟩
end
theorem own_ne {w:World} {base:Nat} {e t:TypeId} {size n g:Nat} {v:Value} {xs:List Value} {cs:Array Value} (h:w.ownsRow base e size v n xs) (hg:w.heap[g]? =some (.cells cs t (0,0))) (hne:e≠t):some g≠v.ownBlock:=by
 rcases h.2 with ⟨rfl,_⟩|⟨g',cap,cur,rfl,_,hh,_⟩
 ·simp [Value.ownBlock]
 ·intro he
  have:g=g':=by simpa [Value.ownBlock] using he
  subst this
  rw [hg] at hh
  injection hh with hh
  injection hh with _ ht
  exact hne ht.symm
theorem blk_set {w:World} {g:Nat} {t:TypeId} {cs:Array Value} (h:w.heap[g]? =some (.cells cs t (0,0))) (i:Nat) (u:Value):(w.setCell ⟨g,i,none⟩ u).heap[g]? =some (.cells (cs.setIfInBounds i u) t (0,0)):=by
 simp [World.setCell,Array.getElem?_modify,h]
theorem Bi {w:World} {g:Nat} {o:Obj} (h:w.heap[g]? =some o):g<w.heap.size:=(Array.getElem?_eq_some_iff.1 h).1
theorem AJ {w:World} {g:Nat} {t:TypeId} {cs:Array Value} (h:w.heap[g]? =some (.cells cs t (0,0))) (i:Nat):w.cell? ⟨g,i,none⟩=cs[i]? :=cell_of_row w g i cs t (0,0) h
theorem AN {w:World} {g:Nat} {t:TypeId} {cs:Array Value} (h:w.heap[g]? =some (.cells cs t (0,0))) (i:Nat):w.frozen? ⟨g,i,none⟩=false:=by simp [World.frozen?,h]
theorem Dk {w w1:World} {g:Nat} {o:Obj} {row:Option Nat} (h:w.heap[g]? =some o) (hg:w.grownBy w1 row) (hne:some g≠row):w1.heap[g]? =some o:=(hg.block g (Bi h) hne).trans h
def Ev {α:Type} (g:Nat→Option α) (r:α):Prop:=∃K,∀k,K≤k→g k=some r
theorem Ev.of {α:Type} {g:Nat→Option α} {r:α} (hg:∀k,LeO (g k) (g (k+1))) {k:Nat} (h:g k=some r):Ev g r:=⟨k,fun _ hk=>Dl hg hk h⟩
theorem Ev.now {α:Type} (r:α):Ev (fun _=>some r) r:=⟨0,fun _ _=>rfl⟩
theorem Ev.rounds {α:Type} {g:Nat→Option α} {r:α} (h:Ev g r):∃k,g k=some r:=by
 obtain ⟨K,h⟩:=h
 exact ⟨K,h K (Nat.le_refl _)⟩
theorem Ev.bind {α β:Type} {g:Nat→Option α} {f:Nat→α→Option β} {a:α} {r:β} (h:Ev g a) (k:Ev (fun n=>f n a) r):Ev (fun n=>(g n).bind (f n)) r:=by
 obtain ⟨K,h⟩:=h
 obtain ⟨K',k⟩:=k
 refine ⟨max K K',fun n hn=> ?_⟩
 have h1:=h n (by omega)
 have h2:=k n (by omega)
 simp only [h1,Option.bind_some]
 exact h2
theorem Ev.step {α:Type} {g f:Nat→Option α} {r:α} (h:∀k,g (k+1)=f k) (k:Ev f r):Ev g r:=by
 obtain ⟨K,k⟩:=k
 refine ⟨K+1,fun n hn=> ?_⟩
 obtain ⟨m,rfl⟩:∃m,n=m+1:=⟨n-1,by omega⟩
 rw [h]
 exact k m (by omega)
theorem Ev.congr {α:Type} {g f:Nat→Option α} {r:α} (h:∀k,g k=f k) (k:Ev f r):Ev g r:=by
 obtain ⟨K,k⟩:=k
 exact ⟨K,fun n hn=>(h n).trans (k n hn)⟩
section
variable {P:Program} {ops:Array Oper} {o:Oper} {a:Act} {Q:Exit→Act→World→Prop} {K:Act→World→Prop}
end
theorem DL {w:World} {base base':Nat} {e:TypeId} {size n:Nat} {v:Value} {xs:List Value} (h:w.ownsRow base e size v n xs) (hb:base'≤base):w.ownsRow base' e size v n xs:=by
 obtain ⟨h1,h2⟩:=h
 refine ⟨h1,?_⟩
 rcases h2 with h2|⟨g,cap,cur,rfl,hg,r⟩
 ·exact .inl h2
 ·exact .inr ⟨g,cap,cur,rfl,Nat.le_trans hb hg,r⟩
section
variable {α:Type} {enc:α→Value} {d:α}
def encs (enc:α→Value) (xs:List α):List Value:=xs.map enc
def rdOf (d:α) (xs:List α) (i:Int):α:=xs.getD i.toNat d
theorem D7 (xs:List α):(encs enc xs).length=xs.length:=by simp [encs]
def ReadsOf (enc:α→Value) (d:α) (w:World) (A:Option Addr) (n:Nat) (xs:List α):Prop:=
 xs.length=n∧n≤9223372036854775807∧(0<n→∃ad,A=some ad∧∀j,j<n→w.cell? (ad.add j)=some (enc (xs.getD j d)))
theorem ReadsOf.at_ {w:World} {A:Option Addr} {n:Nat} {xs:List α} (h:ReadsOf enc d w A n xs) (i:Int) (h0:0≤i) (h1:i<n):∃ad,A=some ad∧w.cell? (ad.add i.toNat)=some (enc (rdOf d xs i)):=by
 obtain ⟨ad,e,hc⟩:=h.2.2 (by omega)
 exact ⟨ad,e,hc _ (by omega)⟩
end
section
variable {α:Type} {P:Program} {ops:Array Oper} {rest:List Oper} {o:Oper} {a:Act} {Q:Exit→Act→World→Prop}
end
theorem Ac {w:World} {g:Nat} {o:Obj} (h:w.heap[g]? =some o) (o':Obj):(w.alloc o').heap[g]? =some o:=(Below.heap_alloc w o' g (Bi h)).trans h
theorem AZ {w:World} {g:Nat} {o:Obj} (h:w.heap[g]? =some o):w.drew.heap[g]? =some o:=h
theorem Ab {w:World} {g:Nat} {o:Obj} (h:w.heap[g]? =some o) (n:Nat):(w.drewN n).heap[g]? =some o:=h
theorem Ai {w w1:World} {g:Nat} {o:Obj} (h:w.heap[g]? =some o) (hb:Below w.heap.size w w1):w1.heap[g]? =some o:=(hb.block g (Bi h)).trans h
theorem blk_new (w:World) (o:Obj):(w.alloc o).heap[w.heap.size]? =some o:=heap_alloc_new w o
section
variable {P:Program}
end
theorem own_le {w:World} {base n m c size:Nat} {e:TypeId} {A:Option Addr} {xs:List Value} (h:w.ownsRow base e size (.slice A m c) n xs):m≤c:=by
 rcases h.2 with ⟨he,_⟩|⟨g,cap,cur,he,_,_,hnc,_⟩
 ·injection he with _ h2 h3
  omega
 ·injection he with _ h2 h3
  omega
def OwnRow {α:Type} (R:α→List Value→Prop) (e:TypeId) (size:Nat) (w:World) (base:Nat) (v:Value) (ps:List α):Prop:=
 ∃inner,w.ownsRow base e size v ps.length inner∧Reps R size ps inner
section
variable {α:Type} {R R':α→List Value→Prop} {e:TypeId} {size:Nat} {w w1:World} {base:Nat} {v:Value} {ps:List α}
theorem OwnRow.none_ (R:α→List Value→Prop) (e:TypeId) (size:Nat) (w:World) (base:Nat):OwnRow R e size w base (.slice none 0 0) []:=⟨[],own_nil _ _ _ _,Reps.none _ _⟩
theorem OwnRow.imp_ (h:OwnRow R e size w base v ps) (hR:∀p c,R p c→R' p c):OwnRow R' e size w base v ps:=by
 obtain ⟨inner,ho,hr⟩:=h
 exact ⟨inner,ho,hr.imp_ hR⟩
theorem OwnRow.reads (h:OwnRow R e size w base v ps):∃A c,v= .slice A ps.length c∧ps.length≤c∧ReadsRow R size w A ps.length ps:=by
 obtain ⟨inner,ho,hr⟩:=h
 obtain ⟨A,c,rfl,hrow⟩:=Cc ho hr rfl
 exact ⟨A,c,rfl,own_le ho,hrow⟩
theorem OwnRow.ne_block (h:OwnRow R e size w base v ps) {g:Nat} {t:TypeId} {cells:Array Value} (hb:w.heap[g]? =some (.cells cells t (0,0))) (ht:e≠t):some g≠v.ownBlock:=by
 obtain ⟨inner,ho,hr⟩:=h
 exact own_ne ho hb ht
end
section
variable {P:Program} {ops:Array Oper} {rest:List Oper} {o:Oper} {a:Act} {Q:Exit→Act→World→Prop} {α:Type} {R:α→List Value→Prop}
end
section
variable {P:Program} {ops:Array Oper} {o:Oper} {a:Act} {Q:Exit→Act→World→Prop} {K:Act→World→Prop} {α:Type} {R:α→List Value→Prop}
end
theorem ReadsRow.inner_ {α:Type} {R:α→List Value→Prop} {size:Nat} {w:World} {ad:Addr} {n:Nat} {ps:List α} (h:ReadsRow R size w (some ad) n ps):
  ∃inner,Reps R size ps inner∧∀j u,inner[j]? =some u→w.cell? (ad.add j)=some u:=by
 have key:∀m,m≤ps.length→∃inner,Reps R size (ps.take m) inner∧∀j u,inner[j]? =some u→w.cell? (ad.add j)=some u:=by
  intro m
  induction m with
  |zero=>exact fun _=>⟨[],Reps.none _ _,fun j u hu=>by simp at hu⟩
  | succ m ih=>
   intro hm
   obtain ⟨inner,hr,hc⟩:=ih (by omega)
   obtain ⟨ad',he,hcell⟩:=h.2.2 (by have:=h.1; omega)
   injection he with he
   subst he
   obtain ⟨c,hcl,hp,hcc⟩:=hcell m _ (List.getElem?_eq_getElem (show m<ps.length by omega))
   refine ⟨inner++c,?_,fun j u hu=> ?_⟩
   ·rw [List.take_succ_eq_append_getElem (show m<ps.length by omega)]
    exact hr.snoc hp hcl
   ·have hil:inner.length=m*size:=by rw [hr.1,List.length_take,Nat.min_eq_left (by omega)]
    rcases Nat.lt_or_ge j inner.length with hj|hj
    ·rw [List.getElem?_append_left hj] at hu
     exact hc j u hu
    ·rw [List.getElem?_append_right hj] at hu
     have:=hcc (j-inner.length) u hu
     rwa [hil,Nat.add_sub_cancel' (by omega)] at this
 obtain ⟨inner,hr,hc⟩:=key ps.length (Nat.le_refl _)
 rw [List.take_length] at hr
 exact ⟨inner,hr,hc⟩
section
variable {α:Type} {P:Program}
end
section
variable {P:Program} {ops:Array Oper} {rest:List Oper} {o:Oper} {a:Act} {Q:Exit→Act→World→Prop}
end
structure Kd (α:Type) where
 sz:Nat
 E:List Nat
 K:World→α→List Value→Prop
 M:World→Nat→(Nat→Prop)→α→List Value→Prop
 K_len:∀ {w x cs},K w x cs→cs.length=sz
 K_one:∀ {w x cs},K w x cs→∀u∈cs,u.oneCell'=true
 K_below:∀ {w w1:World} {x cs},Below w.heap.size w w1→K w x cs→K w1 x cs
 K_of_M:∀ {w base ok x cs},M w base ok x cs→K w x cs
 M_mono:∀ {w base ok ok' x cs},(∀k,ok k→ok' k)→M w base ok x cs→M w base ok' x cs
 M_bound:∀ {w:World} {base ok x cs},M w base ok x cs→M w base (fun k=>ok k∧base≤k∧k<w.heap.size∧∃q,q∈E∧∃cells,w.heap[k]? =some (.cells cells q (0,0))) x cs
 M_move:∀ {w w1:World} {base ok x cs},(∀k,ok k→w1.heap[k]? =w.heap[k]?)→M w base ok x cs→M w1 base ok x cs
 M_lower:∀ {w base base' ok x cs},base'≤base→M w base ok x cs→M w base' ok x cs
theorem Dw {w w1:World} {base:Nat} {e:TypeId} {size n:Nat} {v:Value} {xs:List Value} (h:w.ownsRow base e size v n xs) (hm:∀k,v.ownBlock=some k→w1.heap[k]? =w.heap[k]?):w1.ownsRow base e size v n xs:=by
 obtain ⟨h1,h2⟩:=h
 refine ⟨h1,?_⟩
 rcases h2 with h2|⟨g,cap,cur,rfl,hg,hh,r⟩
 ·exact .inl h2
 ·exact .inr ⟨g,cap,cur,rfl,hg,(hm g (by simp [Value.ownBlock])).trans hh,r⟩
theorem Cj {w:World} {base:Nat} {e:TypeId} {size n:Nat} {v:Value} {xs:List Value} (h:w.ownsRow base e size v n xs) (k:Nat) (hk:v.ownBlock=some k):∃cells,w.heap[k]? =some (.cells cells e (0,0)):=by
 rcases h.2 with ⟨rfl,_⟩|⟨g,cap,cur,rfl,hg,hh,r⟩
 ·simp [Value.ownBlock] at hk
 ·have:g=k:=by simpa [Value.ownBlock] using hk
  subst this
  exact ⟨cur,hh⟩
namespace Kd
def C {α:Type} (d:Kd α) (w:World) (A:Option Addr) (n:Nat) (xs:List α):Prop:=ReadsRow (d.K w) d.sz w A n xs
def R {α:Type} (d:Kd α) (e:Nat) (w:World) (base:Nat) (ok:Nat→Prop) (v:Value) (xs:List α):Prop:=
 (∀k,v.ownBlock=some k→ok k)∧OwnRow (d.M w base (fun k=>ok k∧some k≠v.ownBlock)) e d.sz w base v xs
section
variable {α:Type} {d:Kd α} {e:Nat} {w w1:World} {base:Nat} {ok ok':Nat→Prop} {v:Value} {xs:List α}
theorem C_below {A:Option Addr} {n:Nat} (h:d.C w A n xs) (hb:Below w.heap.size w w1):d.C w1 A n xs:=ReadsRow.imp_ h hb (fun _ _ hp=>d.K_below hb hp)
theorem R_nil (d:Kd α) (e:Nat) (w:World) (base:Nat) (ok:Nat→Prop):d.R e w base ok (.slice none 0 0) []:=⟨fun k hk=>by simp [Value.ownBlock] at hk,OwnRow.none_ _ _ _ _ _⟩
theorem R_mono (h:d.R e w base ok v xs) (hok:∀k,ok k→ok' k):d.R e w base ok' v xs:=⟨fun k hk=>hok k (h.1 k hk),h.2.imp_ (fun _ _ hp=>d.M_mono (fun k hk=>⟨hok k hk.1,hk.2⟩) hp)⟩
theorem Bj (h:d.R e w base ok v xs):d.R e w base (fun k=>ok k∧base≤k∧k<w.heap.size∧∃q,q∈e::d.E∧∃cells,w.heap[k]? =some (.cells cells q (0,0))) v xs:=by
 obtain ⟨h0,inner,ho,hr⟩:=h
 refine ⟨fun k hk=> ?_,inner,ho,hr.imp_ (fun _ _ hp=>d.M_mono (fun k hk=> ?_) (d.M_bound hp))⟩
 ·obtain ⟨cells,hc⟩:=Cj ho k hk
  exact ⟨h0 k hk,Bn ho k hk,Dx ho k hk,e,List.mem_cons_self,cells,hc⟩
 ·obtain ⟨⟨h1,h2⟩,h3,h4,q,hq,hc⟩:=hk
  exact ⟨⟨h1,h3,h4,q,List.mem_cons_of_mem _ hq,hc⟩,h2⟩
theorem Ct (h:d.R e w base ok v xs) (hm:∀k,ok k→w1.heap[k]? =w.heap[k]?):d.R e w1 base ok v xs:=by
 obtain ⟨h0,inner,ho,hr⟩:=h
 exact ⟨h0,inner,Dw ho (fun k hk=>hm k (h0 k hk)),hr.imp_ (fun _ _ hp=>d.M_move (fun k hk=>hm k hk.1) hp)⟩
theorem R_lower {base':Nat} (h:d.R e w base ok v xs) (hb:base'≤base):d.R e w base' ok v xs:=by
 obtain ⟨h0,inner,ho,hr⟩:=h
 exact ⟨h0,inner,DL ho hb,hr.imp_ (fun _ _ hp=>d.M_lower hb hp)⟩
theorem EC (h:d.R e w base ok v xs) (hm:∀k,ok k→k<w.heap.size→w1.heap[k]? =w.heap[k]?):d.R e w1 base ok v xs:=
 R_mono (Ct (Bj h) (fun k hk=>hm k hk.1 hk.2.2.1)) (fun _ hk=>hk.1)
theorem EE {x:α} {cs:List Value} (h:d.M w base ok x cs) (hm:∀k,ok k→k<w.heap.size→w1.heap[k]? =w.heap[k]?):d.M w1 base ok x cs:=
 d.M_mono (fun _ hk=>hk.1) (d.M_move (fun k hk=>hm k hk.1 hk.2.2.1) (d.M_bound h))
theorem R_below (h:d.R e w base ok v xs) (hb:Below w.heap.size w w1):d.R e w1 base ok v xs:=EC h (fun k _ hk=>hb.block k hk)
theorem Db {x:α} {cs:List Value} (h:d.M w base ok x cs) (hb:Below w.heap.size w w1):d.M w1 base ok x cs:=EE h (fun k _ hk=>hb.block k hk)
theorem R_far (h:d.R e w base ok v xs) {p:Addr} (hok:∀k,ok k→k≠p.block) (u:Value):d.R e (w.setCell p u) base ok v xs:=EC h (fun k ho _=>Below.heap_setCell w p u k (hok k ho))
theorem R_types (h:d.R e w base ok v xs) {g t:Nat} {cells:Array Value} (hb:w.heap[g]? =some (.cells cells t (0,0))) (ht:∀q,q∈e::d.E→q≠t):d.R e w base (fun k=>ok k∧k≠g) v xs:=
 R_mono (Bj h) (fun k hk=>⟨hk.1,by
  obtain ⟨_,_,_,q,hq,cells',hc⟩:=hk
  rintro rfl
  rw [hc] at hb
  injection hb with hb
  injection hb with _ hb
  exact ht q hq hb⟩)
theorem Cs (h:d.R e w base ok v xs):∃A c,v= .slice A xs.length c∧xs.length≤c∧d.C w A xs.length xs:=by
 obtain ⟨A,c,he,hl,hr⟩:=OwnRow.reads h.2
 exact ⟨A,c,he,hl,hr.imp_ (Below.refl _ _) (fun _ _ hp=>d.K_of_M hp)⟩
theorem R_slice (h:d.R e w base ok v xs):∃A c,v= .slice A xs.length c:=by
 obtain ⟨A,c,he,_⟩:=Cs h
 exact ⟨A,c,he⟩
theorem ED (h:d.R e w base ok v xs):∃inner,w.ownsRow base e d.sz v xs.length inner:=by
 obtain ⟨_,inner,ho,_⟩:=h
 exact ⟨inner,ho⟩
theorem R_ne (h:d.R e w base ok v xs) {g t:Nat} {cells:Array Value} (hb:w.heap[g]? =some (.cells cells t (0,0))) (ht:e≠t):some g≠v.ownBlock:=OwnRow.ne_block h.2 hb ht
end
def scalar {α:Type} (enc:α→Value) (h1:∀x,(enc x).oneCell'=true):Kd α where
 sz:=1
 E:=[]
 K:=fun _ x cs=>cs=[enc x]
 M:=fun _ _ _ x cs=>cs=[enc x]
 K_len:=fun h=>by rw [h]; rfl
 K_one:=fun h u hu=>by
  rw [h] at hu
  rw [List.mem_singleton.1 hu]
  exact h1 _
 K_below:=fun _ h=>h
 K_of_M:=fun h=>h
 M_mono:=fun _ h=>h
 M_bound:=fun h=>h
 M_move:=fun _ h=>h
 M_lower:=fun _ h=>h
def int (k:IntKind):Kd Int:=scalar (Value.int k) (fun _=>rfl)
def bool:Kd Bool:=scalar Value.bool (fun _=>rfl)
def string:Kd ByteArray:=scalar Value.string (fun _=>rfl)
def slice {α:Type} (e:Nat) (d:Kd α):Kd (List α) where
 sz:=1
 E:=e::d.E
 K:=fun w xs cs=>∃A c,cs=[.slice A xs.length c]∧xs.length≤c∧d.C w A xs.length xs
 M:=fun w base ok xs cs=>∃v,cs=[v]∧d.R e w base ok v xs
 K_len:=by
  rintro w x cs ⟨A,c,rfl,_⟩
  rfl
 K_one:=by
  rintro w x cs ⟨A,c,rfl,_⟩ u hu
  rw [List.mem_singleton.1 hu]
  rfl
 K_below:=by
  rintro w w1 x cs hb ⟨A,c,rfl,hl,hr⟩
  exact ⟨A,c,rfl,hl,C_below hr hb⟩
 K_of_M:=by
  rintro w base ok x cs ⟨v,rfl,h⟩
  obtain ⟨A,c,rfl,hl,hr⟩:=Cs h
  exact ⟨A,c,rfl,hl,hr⟩
 M_mono:=by
  rintro w base ok ok' x cs hok ⟨v,rfl,h⟩
  exact ⟨v,rfl,R_mono h hok⟩
 M_bound:=by
  rintro w base ok x cs ⟨v,rfl,h⟩
  exact ⟨v,rfl,Bj h⟩
 M_move:=by
  rintro w w1 base ok x cs hm ⟨v,rfl,h⟩
  exact ⟨v,rfl,Ct h hm⟩
 M_lower:=by
  rintro w base base' ok x cs hb ⟨v,rfl,h⟩
  exact ⟨v,rfl,R_lower h hb⟩
def pair {α β:Type} (a:Kd α) (b:Kd β):Kd (α×β) where
 sz:=a.sz+b.sz
 E:=a.E++b.E
 K:=fun w x cs=>∃c0 c1,cs=c0++c1∧a.K w x.1 c0∧b.K w x.2 c1
 M:=fun w base ok x cs=>∃c0 c1,cs=c0++c1∧a.M w base ok x.1 c0∧b.M w base ok x.2 c1
 K_len:=by
  rintro w x cs ⟨c0,c1,rfl,h0,h1⟩
  rw [List.length_append,a.K_len h0,b.K_len h1]
 K_one:=by
  rintro w x cs ⟨c0,c1,rfl,h0,h1⟩ u hu
  rcases List.mem_append.1 hu with hu|hu
  ·exact a.K_one h0 u hu
  ·exact b.K_one h1 u hu
 K_below:=by
  rintro w w1 x cs hb ⟨c0,c1,rfl,h0,h1⟩
  exact ⟨c0,c1,rfl,a.K_below hb h0,b.K_below hb h1⟩
 K_of_M:=by
  rintro w base ok x cs ⟨c0,c1,rfl,h0,h1⟩
  exact ⟨c0,c1,rfl,a.K_of_M h0,b.K_of_M h1⟩
 M_mono:=by
  rintro w base ok ok' x cs hok ⟨c0,c1,rfl,h0,h1⟩
  exact ⟨c0,c1,rfl,a.M_mono hok h0,b.M_mono hok h1⟩
 M_bound:=by
  rintro w base ok x cs ⟨c0,c1,rfl,h0,h1⟩
  refine ⟨c0,c1,rfl,a.M_mono ?_ (a.M_bound h0),b.M_mono ?_ (b.M_bound h1)⟩
  ·rintro k ⟨h2,h3,h4,q,hq,hc⟩
   exact ⟨h2,h3,h4,q,List.mem_append_left _ hq,hc⟩
  ·rintro k ⟨h2,h3,h4,q,hq,hc⟩
   exact ⟨h2,h3,h4,q,List.mem_append_right _ hq,hc⟩
 M_move:=by
  rintro w w1 base ok x cs hm ⟨c0,c1,rfl,h0,h1⟩
  exact ⟨c0,c1,rfl,a.M_move hm h0,b.M_move hm h1⟩
 M_lower:=by
  rintro w base base' ok x cs hb ⟨c0,c1,rfl,h0,h1⟩
  exact ⟨c0,c1,rfl,a.M_lower hb h0,b.M_lower hb h1⟩
def iso {α β:Type} (d:Kd α) (f:β→α):Kd β where
 sz:=d.sz
 E:=d.E
 K:=fun w x cs=>d.K w (f x) cs
 M:=fun w base ok x cs=>d.M w base ok (f x) cs
 K_len:=d.K_len
 K_one:=d.K_one
 K_below:=d.K_below
 K_of_M:=d.K_of_M
 M_mono:=d.M_mono
 M_bound:=d.M_bound
 M_move:=d.M_move
 M_lower:=d.M_lower
def bot {α:Type} (sz:Nat) (E:List Nat):Kd α where
 sz:=sz
 E:=E
 K:=fun _ _ _=>False
 M:=fun _ _ _ _ _=>False
 K_len:=fun h=>h.elim
 K_one:=fun h=>h.elim
 K_below:=fun _ h=>h
 K_of_M:=fun h=>h
 M_mono:=fun _ h=>h
 M_bound:=fun h=>h
 M_move:=fun _ h=>h
 M_lower:=fun _ h=>h
def upto {α:Type} (F:Kd α→Kd α) (sz:Nat) (E:List Nat):Nat→Kd α
 |0=>bot sz E
 |n+1=>F (upto F sz E n)
theorem C_get {α:Type} {d:Kd α} {w:World} {A:Option Addr} {n:Nat} {xs:List α} (h:d.C w A n xs) (z:α) (i:Int) (h0:0≤i) (h1:i<n):
 ∃ad c,A=some ad∧c.length=d.sz∧d.K w (xs.getD i.toNat z) c∧∀j u,c[j]? =some u→w.cell? (ad.add (i.toNat*d.sz+j))=some u:=ReadsRow.get_ h z i h0 h1
theorem DQ {α:Type} {d:Kd α} {e base:Nat} {ok okp:Nat→Prop} {W w1:World} {v v1:Value} {xs:List α} {p:α} {inner cs:List Value} (h0:∀k,v.ownBlock=some k→ok k) (hr:Reps (d.M W base (fun k=>ok k∧some k≠v.ownBlock)) d.sz xs inner) (hp:d.M W base okp p cs) (hokp:∀k,okp k→ok k∧some k≠v.ownBlock) (hfresh:∀k,W.heap.size≤k→ok k)
  (hown:w1.ownsRow base e d.sz v1 (xs.length+1) (inner++cs)) (hg:W.grownBy w1 v.ownBlock) (hat:v1.ownBlock=v.ownBlock∨∃b,v1.ownBlock=some b∧W.heap.size≤b):d.R e w1 base ok v1 (xs++[p]):=by
 have hne:∀k,some k≠v.ownBlock→k<W.heap.size→some k≠v1.ownBlock:=by
  intro k hk hlt
  rcases hat with hat|⟨b,hb,hle⟩
  ·rw [hat]; exact hk
  ·rw [hb]
   intro he
   injection he with he
   omega
 have step:∀ {q:α} {c:List Value} {o:Nat→Prop},d.M W base o q c→(∀k,o k→ok k∧some k≠v.ownBlock)→d.M w1 base (fun k=>ok k∧some k≠v1.ownBlock) q c:=by
  intro q c o hq ho
  have h1:=d.M_move (w1:=w1) (fun k hk=>hg.block k hk.2.2.1 (ho k hk.1).2) (d.M_bound hq)
  exact d.M_mono (fun k hk=>⟨(ho k hk.1).1,hne k (ho k hk.1).2 hk.2.2.1⟩) h1
 refine ⟨fun k hk=> ?_,inner++cs,by rw [List.length_append,List.length_singleton]; exact hown,?_⟩
 ·rcases hat with hat|⟨b,hb,hle⟩
  ·exact h0 k (hat▸hk)
  ·rw [hb] at hk
   injection hk with hk
   exact hfresh k (by omega)
 ·exact (hr.imp_ (fun _ _ hq=>step hq (fun _ hk=>hk))).snoc (step hp hokp) (d.K_len (d.K_of_M hp))
section
variable {P:Program} {ops:Array Oper} {rest:List Oper} {o:Oper} {a:Act} {Q:Exit→Act→World→Prop} {α:Type}
theorem R_append (d:Kd α) {w0 W:World} (base:Nat) (hgd:o.guard=none) (s x:Operand) (t e:TypeId) (z:Value) (bytes:Nat)
  (ho:o.op= .call {callee:= .builtin .append,args:= #[s,x],argTypes:= #[t,t]})
  (ht:P.underlying t=some (.slice e)) (hinfo:(P.info? e).map (fun i=>(i.zero,i.size,i.bytes))=some (some z,d.sz,bytes)) (hz:z.cells.size=d.sz) (hs0:0<d.sz) (hb0:0<bytes)
  (v:Value) (xs:List α) (p:α) (cs:List Value) (ok okp:Nat→Prop) (hs:a.eval s=v) (hx:a.eval x= .slice (some ⟨W.heap.size,0,none⟩) 1 1) (hp:d.M W base okp p cs) (hokp:∀k,okp k→ok k∧some k≠v.ownBlock) (hfresh:∀k,W.heap.size≤k→ok k)
  (HO:d.R e W base ok v xs) (HB:Below base w0 W) (hbase:base≤W.heap.size) (hl:(xs.length+1)*bytes≤140737488355328)
  (h:∀v1 w1,d.R e w1 base ok v1 (xs++[p])→Below base w0 w1→W.grownBy w1 v.ownBlock→(v1.ownBlock=v.ownBlock∨∃b,v1.ownBlock=some b∧W.heap.size≤b)→wpList P ops Q rest (a.put o.dst v1) w1):
  wpList P ops Q (o::rest) a (W.alloc (.cells cs.toArray e)):=by
 obtain ⟨h0,inner,hown,hr⟩:=HO
 refine C1 base hgd s x t e z d.sz bytes ho ht hinfo hz hs0 hb0 v xs.length inner cs hs hx (d.K_len (d.K_of_M hp)) (d.K_one (d.K_of_M hp)) hown HB hbase hl ?_
 intro v1 w1 hown1 hb1 hg1 hat1
 exact h v1 w1 (DQ h0 hr hp hokp hfresh hown1 hg1 hat1) hb1 hg1 hat1
end
section
variable {P:Program} {ops:Array Oper} {o:Oper} {a:Act} {Q:Exit→Act→World→Prop} {Kc:Act→World→Prop} {α:Type}
end
theorem own_of_R {α:Type} {enc:α→Value} {h1:∀x,(enc x).oneCell'=true} {e:Nat} {w:World} {base:Nat} {ok:Nat→Prop} {v:Value} {xs:List α} (h:(scalar enc h1).R e w base ok v xs):w.ownsRow base e 1 v xs.length (encs enc xs):=by
 obtain ⟨_,inner,ho,hr⟩:=h
 have:inner=encs enc xs:=by
  apply List.ext_getElem?
  intro j
  rcases Nat.lt_or_ge j xs.length with hj|hj
  ·have h2:=hr.2 j _ (List.getElem?_eq_getElem hj)
   have hl:j<inner.length:=by have:=hr.1; simp [scalar] at this; omega
   have h3:(inner.drop (j*1)).take 1=[enc xs[j]]:=h2
   rw [Nat.mul_one,List.drop_eq_getElem_cons hl] at h3
   have h4:inner[j]=enc xs[j]:=by
    have h5:=congrArg List.head? h3
    rw [List.take_succ_cons] at h5
    exact Option.some.inj h5
   rw [List.getElem?_eq_getElem hl,h4]
   simp [encs,List.getElem?_eq_getElem hj]
  ·have h3:inner.length=xs.length:=by have:=hr.1; simp [scalar] at this; omega
   rw [List.getElem?_eq_none (by omega),List.getElem?_eq_none (by rw [D7]; omega)]
 rw [←this]
 exact ho
theorem DJ {α:Type} {enc:α→Value} {d:α} {h1:∀x,(enc x).oneCell'=true} {w:World} {A:Option Addr} {n:Nat} {xs:List α} (h:(scalar enc h1).C w A n xs):ReadsOf enc d w A n xs:=by
 refine ⟨h.1,h.2.1,fun hn=> ?_⟩
 obtain ⟨ad,e,hc⟩:=h.2.2 hn
 refine ⟨ad,e,fun j hj=> ?_⟩
 have hl:j<xs.length:=by have:=h.1; omega
 obtain ⟨c,_,hK,hcell⟩:=hc j _ (List.getElem?_eq_getElem hl)
 have hK':c=[enc xs[j]]:=hK
 subst hK'
 have:=hcell 0 _ rfl
 simpa [scalar,List.getD_eq_getElem?_getD,List.getElem?_eq_getElem hl] using this
end Kd
namespace Kd
structure Mono {α β:Type} (F:Kd α→Kd β):Prop where
 sz:∀d d':Kd α,d.sz=d'.sz→(F d).sz=(F d').sz
 K:∀d d':Kd α,d.sz=d'.sz→(∀w x cs,d.K w x cs→d'.K w x cs)→∀w x cs,(F d).K w x cs→(F d').K w x cs
 M:∀d d':Kd α,d.sz=d'.sz→(∀w base ok x cs,d.M w base ok x cs→d'.M w base ok x cs)→∀w base ok x cs,(F d).M w base ok x cs→(F d').M w base ok x cs
section
variable {α:Type} {F:Kd α→Kd α} {sz:Nat} {E:List Nat} {hs:∀n,(upto F sz E n).sz=sz} {hE:∀n q,q∈(upto F sz E n).E→q∈E}
end
end Kd
namespace Kd
end Kd
namespace Kd
section
variable {α β:Type} {d:Kd α} {d':Kd β} {e e':Nat} {w w1 W:World} {base b b':Nat} {ok ok' okv oku:Nat→Prop} {v u:Value} {xs:List α} {ys:List β}
theorem R_alloc (h:d.R e w base ok v xs) (o:Obj):d.R e (w.alloc o) base ok v xs:=R_below h (AI (Below.refl _ _) o)
theorem R_drew (h:d.R e w base ok v xs):d.R e w.drew base ok v xs:=R_below h (CY (Below.refl _ _))
theorem R_drewN (h:d.R e w base ok v xs) (m:Nat):d.R e (w.drewN m) base ok v xs:=R_below h (AG (Below.refl _ _) m)
theorem C_alloc {A:Option Addr} {n:Nat} (h:d.C w A n xs) (o:Obj):d.C (w.alloc o) A n xs:=C_below h (AI (Below.refl _ _) o)
theorem C_drew {A:Option Addr} {n:Nat} (h:d.C w A n xs):d.C w.drew A n xs:=C_below h (CY (Below.refl _ _))
theorem C_drewN {A:Option Addr} {n:Nat} (h:d.C w A n xs) (m:Nat):d.C (w.drewN m) A n xs:=C_below h (AG (Below.refl _ _) m)
theorem C_nil (d:Kd α) (w:World):d.C w none ([]:List α).length []:=⟨rfl,by simp,fun h=>absurd h (Nat.lt_irrefl 0)⟩
theorem R_reads' {A:Option Addr} {n c:Nat} (h:d.R e w base ok (.slice A n c) xs):n=xs.length∧n≤c∧d.C w A xs.length xs:=by
 obtain ⟨A',c',he,hl,hr⟩:=Cs h
 injection he with h1 h2 h3
 subst h1
 exact ⟨h2,by omega,hr⟩
theorem R_lt (h:d.R e w base ok v xs):∀k,v.ownBlock=some k→k<w.heap.size:=by
 obtain ⟨inner,ho⟩:=ED h
 exact Dx ho
theorem R_base (h:d.R e w base ok v xs):∀k,v.ownBlock=some k→base≤k:=by
 obtain ⟨inner,ho⟩:=ED h
 exact Bn ho
end
section
variable {w W:World} {A:Option Addr} {n:Nat}
theorem at_string {xs:List ByteArray} (h:Kd.string.C w A n xs) (i:Int) (h0:0≤i) (h1:i<n):∃ad,A=some ad∧w.cell? (ad.add i.toNat)=some (.string (rdOf ByteArray.empty xs i)):=
 ReadsOf.at_ (DJ (enc:=Value.string) (d:=ByteArray.empty) (h1:=fun _=>rfl) h) i h0 h1
variable {α:Type} {enc:α→Value} {h1:∀x,(enc x).oneCell'=true} {e base g cap:Nat} {ok:Nat→Prop} {xs:List α}
end
section
variable {P:Program} {ops:Array Oper} {rest:List Oper} {o:Oper} {a:Act} {Q:Exit→Act→World→Prop}
theorem event_run {W w1:World} {v:Value} (hgd:o.guard=none) (hrun:(execOp a.eval o).run P W= .ok (.value v) w1) (h:wpList P ops Q rest (a.put o.dst v) w1):wpList P ops Q (o::rest) a W:=by
 refine wpList_plain hgd fun K hK=> ?_
 unfold Oper.wp
 rw [hrun]
 exact hK _ _ h
variable {α:Type}
theorem R_lit (d:Kd α) {w0 W:World} (base e:Nat) (hgd:o.guard=none) {N:Tmp} (_hd:o.dst=some N) {xs:List α} {inner:List Value} {ok okp:Nat→Prop}
  (hrun:(execOp a.eval o).run P W= .ok (.value (.slice (some ⟨W.heap.size,0,none⟩) xs.length xs.length)) (W.alloc (.cells inner.toArray e)))
  (hrep:Reps (d.M W base okp) d.sz xs inner) (hok:∀k,okp k→ok k) (hfresh:ok W.heap.size) (HB:Below base w0 W) (hbase:base≤W.heap.size) (hm:xs.length≤9223372036854775807)
  (h:∀v1 w1,d.R e w1 base ok v1 xs→Below base w0 w1→W.grownBy w1 none→(∃b,v1.ownBlock=some b∧W.heap.size≤b)→wpList P ops Q rest (a.put o.dst v1) w1):wpList P ops Q (o::rest) a W:=by
 refine event_run hgd hrun (h _ _ ⟨fun k hk=> ?_,inner,?_,?_⟩ (HB.alloc hbase _) (World.grownBy_alloc W _ none) ⟨W.heap.size,by simp [Value.ownBlock],Nat.le_refl _⟩)
 ·have:W.heap.size=k:=by simpa [Value.ownBlock] using hk
  subst this
  exact hfresh
 ·have h2:=World.ownsRow_lit (base:=base) (e:=e) (size:=d.sz) W inner.toArray xs.length hbase (by simpa [maxLen] using hm) (by simpa using hrep.1)
  simpa using h2
 ·refine hrep.imp_ (fun p c hp=>d.M_mono (fun k hk=>⟨hok k hk.1,fun he=> ?_⟩) (Db (d.M_bound hp) (AI (Below.refl _ _) _)))
  have h3:k=W.heap.size:=by simpa [Value.ownBlock] using he
  have:=hk.2.2.1
  omega
end
end Kd
section
variable {P:Program}
end
def QRow (w:World) (base:Nat) (e:TypeId) (size:Nat) (v:Value) (n:Nat) (xs:List Value):Prop:=
 xs.length=n*size∧
 ((n=0∧∃A,v= .slice A 0 0∧∀a,A=some a→base≤a.block∧∃cur,w.heap[a.block]? =some (.cells cur e (0,0)))∨
  ∃g off cap cur,v= .slice (some ⟨g,off*size,none⟩) n cap∧base≤g∧w.heap[g]? =some (.cells cur e (0,0))∧n≤cap∧off+cap≤maxLen∧cur.size=(off+cap)*size∧(cur.toList.drop (off*size)).take (n*size)=xs)
section
variable {w w1:World} {base n size:Nat} {e:TypeId} {v:Value} {xs:List Value}
theorem Du (h:w.ownsRow base e size v n xs):QRow w base e size v n xs:=by
 obtain ⟨h1,h2⟩:=h
 refine ⟨h1,?_⟩
 rcases h2 with ⟨rfl,h0⟩|⟨g,cap,cur,rfl,hb,hh,hnc,hcm,hcs,ht⟩
 ·exact .inl ⟨h0,none,rfl,fun a ha=>by cases ha⟩
 ·exact .inr ⟨g,0,cap,cur,by rw [Nat.zero_mul],hb,hh,hnc,by rw [Nat.zero_add]; exact hcm,by rw [Nat.zero_add]; exact hcs,by rw [Nat.zero_mul,List.drop_zero]; exact ht⟩
end
section
variable {P:Program}
end
namespace Kd
def Q {α:Type} (d:Kd α) (e:Nat) (w:World) (base:Nat) (ok:Nat→Prop) (v:Value) (xs:List α):Prop:=
 (∀k,v.ownBlock=some k→ok k)∧∃inner,QRow w base e d.sz v xs.length inner∧Reps (d.M w base (fun k=>ok k∧some k≠v.ownBlock)) d.sz xs inner
section
variable {α:Type} {d:Kd α} {e:Nat} {w w1 W:World} {base:Nat} {ok ok':Nat→Prop} {v:Value} {xs:List α}
theorem Q_of_R (h:d.R e w base ok v xs):d.Q e w base ok v xs:=by
 obtain ⟨h0,inner,ho,hr⟩:=h
 exact ⟨h0,inner,Du ho,hr⟩
theorem Q_nil (d:Kd α) (e:Nat) (w:World) (base:Nat) (ok:Nat→Prop):d.Q e w base ok (.slice none 0 0) []:=Q_of_R (R_nil d e w base ok)
end
section
variable {P:Program} {ops:Array Oper} {rest:List Oper} {o:Oper} {a:Act} {Q':Exit→Act→World→Prop} {Kc:Act→World→Prop} {α:Type}
end
end Kd
namespace Kd
section
variable {α:Type} {d:Kd α} {e e':Nat} {w w1 W:World} {base:Nat} {ok:Nat→Prop} {u v:Value} {xs:List α}
theorem R_typed (h:d.R e w base ok v xs):∀k,v.ownBlock=some k→∃cells,w.heap[k]? =some (.cells cells e (0,0)):=by
 obtain ⟨inner,ho⟩:=ED h
 exact fun k hk=>Cj ho k hk
theorem R_over' (h:d.R e W base ok u xs) (hty:∀k,v.ownBlock=some k→∃cells,W.heap[k]? =some (.cells cells e' (0,0))) (ht:∀q,q∈e::d.E→q≠e') (hg:W.grownBy w1 v.ownBlock):d.R e w1 base ok u xs:=by
 refine R_mono (Ct (Bj h) (fun k hk=>hg.block k hk.2.2.1 (fun he=> ?_))) (fun _ hk=>hk.1)
 obtain ⟨_,_,_,q,hq,cells,hc⟩:=hk
 obtain ⟨cells',hc'⟩:=hty k he.symm
 rw [hc] at hc'
 injection hc' with hc'
 injection hc' with _ hc'
 exact ht q hq hc'
theorem R_elder' (hu:d.R e W base ok u xs) (hbase:∀k,v.ownBlock=some k→W.heap.size≤k) (hb:Below W.heap.size W w1):d.R e w1 base (fun k=>ok k∧some k≠v.ownBlock) u xs:=
 R_mono (Ct (Bj hu) (fun k hk=>hb.block k hk.2.2.1)) (fun k hk=>⟨hk.1,fun he=>by have:=hbase k he.symm; have:=hk.2.2.1; omega⟩)
theorem R_new' (h:d.R e w1 W.heap.size ok v xs) (hlt:∀k,u.ownBlock=some k→k<W.heap.size):d.R e w1 W.heap.size (fun k=>ok k∧some k≠u.ownBlock) v xs:=
 R_mono (Bj h) (fun k hk=>⟨hk.1,fun he=>by have:=hlt k he.symm; have:=hk.2.1; omega⟩)
end
end Kd
namespace Kd
section
variable {α:Type} {d:Kd α} {e base g n cap:Nat} {ok okp:Nat→Prop} {W:World} {xs:List α}
end
end Kd
namespace Kd
section
variable {α:Type} {F:Kd α→Kd α} {sz:Nat} {E:List Nat} {hs:∀n,(upto F sz E n).sz=sz} {hE:∀n q,q∈(upto F sz E n).E→q∈E}
end
end Kd
namespace Kd
theorem CD {α:Type} {R:α→List Value→Prop} {size:Nat} {ps qs:List α} {cs ds:List Value} (h:Reps R size ps cs) (h':Reps R size qs ds):Reps R size (ps++qs) (cs++ds):=by
 refine ⟨by rw [List.length_append,List.length_append,h.1,h'.1,Nat.add_mul],fun j p hj=> ?_⟩
 rcases Nat.lt_or_ge j ps.length with hlt|hge
 ·rw [List.getElem?_append_left hlt] at hj
  have hle:j*size+size≤cs.length:=by rw [h.1,←Nat.succ_mul]; exact Nat.mul_le_mul_right _ hlt
  rw [List.drop_append_of_le_length (by omega),List.take_append_of_le_length (by rw [List.length_drop]; omega)]
  exact h.2 j p hj
 ·rw [List.getElem?_append_right hge] at hj
  have h2:=h'.2 (j-ps.length) p hj
  have hle:ps.length*size≤j*size:=Nat.mul_le_mul_right _ hge
  rw [List.drop_append,List.drop_eq_nil_of_le (by rw [h.1]; exact hle),List.nil_append,h.1,←Nat.sub_mul]
  exact h2
section
variable {P:Program} {ops:Array Oper} {rest:List Oper} {o:Oper} {a:Act} {Q:Exit→Act→World→Prop} {α:Type}
theorem R_append_rows (d:Kd α) {Rr:α→List Value→Prop} {w0 W:World} (base:Nat) (hgd:o.guard=none) (s x:Operand) (t e:TypeId) (z:Value) (bytes:Nat)
  (ho:o.op= .call {callee:= .builtin .append,args:= #[s,x],argTypes:= #[t,t]})
  (ht:P.underlying t=some (.slice e)) (hinfo:(P.info? e).map (fun i=>(i.zero,i.size,i.bytes))=some (some z,d.sz,bytes)) (hz:z.cells.size=d.sz) (hs0:0<d.sz) (hb0:0<bytes)
  (v:Value) (xs ys:List α) (A:Option Addr) (m c:Nat) (ok okp:Nat→Prop) (hs:a.eval s=v) (hx:a.eval x= .slice A m c)
  (HO:d.R e W base ok v xs) (HR:ReadsRow Rr d.sz W A m ys) (hKM:∀x cs,Rr x cs→d.M W base okp x cs) (hokp:∀k,okp k→ok k∧some k≠v.ownBlock) (hfresh:∀k,W.heap.size≤k→ok k)
  (HB:Below base w0 W) (hbase:base≤W.heap.size) (hl:(xs.length+m)*bytes≤140737488355328)
  (h:∀v1 w1,d.R e w1 base ok v1 (xs++ys)→Below base w0 w1→W.grownBy w1 v.ownBlock→(v1.ownBlock=v.ownBlock∨∃b,v1.ownBlock=some b∧W.heap.size≤b)→wpList P ops Q rest (a.put o.dst v1) w1):
  wpList P ops Q (o::rest) a W:=by
 obtain ⟨i0,hi,hzz⟩:=Option.map_eq_some_iff.1 hinfo
 simp only [Prod.mk.injEq] at hzz
 obtain ⟨hz0,hz1,hz2⟩:=hzz
 have hm:ys.length=m:=HR.1
 have hlen:xs.length+m≤140737488355328:=Nat.le_trans (Nat.le_mul_of_pos_right _ hb0) hl
 obtain ⟨hok,inner,hown,hr⟩:=HO
 have hrun:∃v1 w1,(Builtin.append_ #[t,t] o.type #[v,.slice A m c]).run P W= .ok v1 w1∧d.R e w1 base ok v1 (xs++ys)∧W.grownBy w1 v.ownBlock∧(v1.ownBlock=v.ownBlock∨∃b,v1.ownBlock=some b∧W.heap.size≤b):=by
  rcases A with _|ad
  ·have h0:m=0:=by
    rcases Nat.eq_zero_or_pos m with h0|h0
    ·exact h0
    ·obtain ⟨ad,h,_⟩:=HR.2.2 h0
     cases h
   subst h0
   obtain rfl:ys=[]:=List.eq_nil_of_length_eq_zero hm
   refine ⟨v,W,?_,by rw [List.append_nil]; exact ⟨hok,inner,hown,hr⟩,World.grownBy.refl W _,.inl rfl⟩
   rcases hown.2 with ⟨rfl,hn⟩|⟨g,cap,cur,rfl,_,_,hnc,_⟩
   ·simp [Builtin.append_,run_underlying ht,sizeOf,typeInfo,hi,Builtin.lenOf,Builtin.firstCells]
   ·simp [Builtin.append_,run_underlying ht,sizeOf,typeInfo,hi,Builtin.lenOf,Builtin.firstCells,hnc,storeCells]
  ·obtain ⟨news,hnr,hnc⟩:=ReadsRow.inner_ HR
   have hnM:Reps (d.M W base okp) d.sz ys news:=hnr.imp_ (fun p c hp=>hKM p c hp)
   have hone:∀u∈news,u.oneCell'=true:=by
    intro u hu
    obtain ⟨q,hq,rfl⟩:=List.mem_iff_getElem.1 hu
    have hql:q/d.sz<ys.length:=by
     rw [Nat.div_lt_iff_lt_mul hs0]
     rw [←hnM.1]
     exact hq
    have hc:=hnM.2 (q/d.sz) _ (List.getElem?_eq_getElem hql)
    refine d.K_one (d.K_of_M hc) _ ?_
    rw [List.mem_iff_getElem?]
    refine ⟨q%d.sz,?_⟩
    rw [List.getElem?_take,if_pos (Nat.mod_lt _ hs0),List.getElem?_drop,Nat.mul_comm,Nat.div_add_mod,List.getElem?_eq_getElem hq]
   obtain ⟨v1,w1,hrun,h2,hg,_,hat⟩:=run_append_own_at (P:=P) W base t o.type e i0 z d.sz bytes ht hi hz0 hz1 hz2 hz hs0 v xs.length inner hown ad m c news (by rw [hnM.1,hm]) hnc hone (by simp only [maxLen]; omega) hl hbase
   have hat':v1.ownBlock=v.ownBlock∨∃b,v1.ownBlock=some b∧W.heap.size≤b:=by
    rcases hat with hat|hat
    ·exact .inl hat
    ·exact .inr ⟨_,hat,Nat.le_refl _⟩
   have hne:∀k,some k≠v.ownBlock→k<W.heap.size→some k≠v1.ownBlock:=by
    intro k hk hlt
    rcases hat' with hat|⟨b,hb,hle⟩
    ·rw [hat]; exact hk
    ·rw [hb]
     intro he
     injection he with he
     omega
   have step:∀ {q:α} {c:List Value} {o:Nat→Prop},d.M W base o q c→(∀k,o k→ok k∧some k≠v.ownBlock)→d.M w1 base (fun k=>ok k∧some k≠v1.ownBlock) q c:=by
    intro q c o hq ho
    have h1:=d.M_move (w1:=w1) (fun k hk=>hg.block k hk.2.2.1 (ho k hk.1).2) (d.M_bound hq)
    exact d.M_mono (fun k hk=>⟨(ho k hk.1).1,hne k (ho k hk.1).2 hk.2.2.1⟩) h1
   refine ⟨v1,w1,hrun,⟨fun k hk=> ?_,inner++news,by rw [List.length_append,hm]; exact h2,CD (hr.imp_ (fun _ _ hq=>step hq (fun _ hk=>hk))) (hnM.imp_ (fun _ _ hq=>step hq hokp))⟩,hg,hat'⟩
   rcases hat' with hat|⟨b,hb,hle⟩
   ·exact hok k (hat▸hk)
   ·rw [hb] at hk
    injection hk with hk
    exact hfresh k (by omega)
 obtain ⟨v1,w1,hr1,h1,hg,hat⟩:=hrun
 refine wpList_plain hgd fun K hK=> ?_
 unfold Oper.wp execOp
 simp only [ho,resolve,invoke,builtin,Sem.run_bind,Sem.run_pure,Result.andThen_ok,List.map_toArray,List.map_cons,List.map_nil,hs,hx,hr1]
 exact hK _ _ (h v1 w1 h1 (HB.grown hg hbase (Bn hown)) hg hat)
end
end Kd
namespace Kd
section
variable {P:Program} {ops:Array Oper} {rest:List Oper} {o:Oper} {a:Act} {Q:Exit→Act→World→Prop} {α:Type}
end
end Kd
theorem add_add (a:Addr) (i j:Nat):(a.add i).add j=a.add (i+j):=by
 unfold Addr.add
 by_cases h1:i=0<;>by_cases h2:j=0<;>simp [h1,h2,Nat.add_assoc]
namespace Kd
section
variable {α:Type} {k:Kd α} {w:World} {A:Option Addr} {xs:List α} {m c:Nat}
theorem C_take (h:k.C w A xs.length xs) (hm:m≤xs.length):k.C w A (xs.take m).length (xs.take m):=by
 have hl:(xs.take m).length=m:=by rw [List.length_take]; omega
 refine ⟨rfl,by rw [hl]; have:=h.2.1; omega,fun hp=> ?_⟩
 obtain ⟨ad,e,hc⟩:=h.2.2 (by omega)
 refine ⟨ad,e,fun j p hj=>hc j p ?_⟩
 rw [List.getElem?_take] at hj
 split at hj
 ·exact hj
 ·cases hj
theorem C_drop (h:k.C w A xs.length xs) (hm:m≤xs.length) (hc:xs.length≤c):k.C w (if c=m then A else A.map (·.add (m*k.sz))) (xs.drop m).length (xs.drop m):=by
 have hl:(xs.drop m).length=xs.length-m:=List.length_drop
 refine ⟨rfl,by rw [hl]; have:=h.2.1; omega,fun hp=> ?_⟩
 rw [hl] at hp
 obtain ⟨ad,rfl,hcell⟩:=h.2.2 (by omega)
 rw [if_neg (by omega)]
 refine ⟨ad.add (m*k.sz),rfl,fun j p hj=> ?_⟩
 rw [List.getElem?_drop] at hj
 obtain ⟨cs,h1,h2,h3⟩:=hcell (m+j) p hj
 refine ⟨cs,h1,h2,fun i u hu=> ?_⟩
 rw [add_add,show m*k.sz+(j*k.sz+i)=(m+j)*k.sz+i by rw [Nat.add_mul]; omega]
 exact h3 i u hu
end
end Kd
section
variable {P:Program}
end
theorem AT {w W:World} (h:Below w.heap.size w W):w.heap.size≤W.heap.size:=h.size
theorem AP {w W w2:World} (h:Below w.heap.size w W) (k:Below W.heap.size W w2):Below w.heap.size w w2:=DP h h.size k
theorem AV {w W:World} {g j:Nat} {v:Value} (h:Below w.heap.size w W) (hg:w.heap.size≤g):Below w.heap.size w (W.setCell ⟨g,j,none⟩ v):=h.setCell hg _
theorem Bd {w:World} {g:Nat} {t:TypeId} {cs cs':Array Value} (h:w.heap[g]? =some (.cells cs t (0,0))) (i:Nat) (u:Value) (e:cs.setIfInBounds i u=cs'):(w.setCell ⟨g,i,none⟩ u).heap[g]? =some (.cells cs' t (0,0)):=e▸blk_set h i u
theorem AH {base:Nat} {w W:World} (h:Below base w W):Below base w W.drew:=h.drew
namespace Kd
section
variable {α β:Type} {d:Kd α} {d':Kd β} {e e' base base' n:Nat} {ok ok':Nat→Prop} {w W w1 W1:World} {v u:Value} {xs:List α} {ys:List β} {A:Option Addr} {c:Nat}
end
section
variable {α:Type} {enc:α→Value} {h1:∀x,(enc x).oneCell'=true} {w W:World} {A:Option Addr} {n g:Nat} {xs:List α}
end
end Kd
namespace Kd
section
variable {α:Type} {d:Kd α} {e base g:Nat} {ok:Nat→Prop} {w w1:World} {v:Value} {xs:List α} {o:Obj}
theorem R_elderB (h:d.R e w base ok v xs) (a:Nat) (ha:w.heap.size≤a):d.R e w base (fun k=>ok k∧k≠a) v xs:=R_mono (Bj h) (fun k hk=>⟨hk.1,by have:=hk.2.2.1; omega⟩)
end
end Kd
section
variable {P:Program} {ops:Array Oper} {rest:List Oper} {o:Oper} {a:Act} {Q:Exit→Act→World→Prop}
theorem Am {W:World} (hgd:o.guard=none) {N:Tmp} (_hd:o.dst=some N) {cs:Array Value} {t:TypeId}
  (hrun:(execOp a.eval o).run P W= .ok (.value (.pointer (some ⟨W.heap.size,0,none⟩))) (W.alloc (.cells cs t (0,0))))
  (h:∀g,g=W.heap.size→∀w1,w1.heap[g]? =some (.cells cs t (0,0))→Below W.heap.size W w1→wpList P ops Q rest (a.put o.dst (.pointer (some ⟨g,0,none⟩))) w1):wpList P ops Q (o::rest) a W:=
 Kd.event_run hgd hrun (h _ rfl _ (blk_new W _) (AI (Below.refl _ _) _))
end
namespace Kd
section
variable {α:Type} {enc:α→Value} {h1:∀x,(enc x).oneCell'=true} {e base g n cap:Nat} {ok:Nat→Prop} {W:World} {xs:List α}
end
end Kd
section
variable {P:Program} {ops:Array Oper} {rest:List Oper} {o:Oper} {a:Act} {Q:Exit→Act→World→Prop}
end
namespace Kd
section
variable {α:Type} {enc:α→Value} {h1:∀x,(enc x).oneCell'=true} {e base g n cap:Nat} {ok:Nat→Prop} {W:World} {xs:List α}
end
end Kd
section
variable {P:Program} {ops:Array Oper} {rest:List Oper} {o:Oper} {a:Act} {Q:Exit→Act→World→Prop} {W:World}
theorem Ar {N:Tmp} (_hN:o.dst=some N) (h:wpList P ops Q (o::rest) a W):wpList P ops Q (o::rest) a W:=h
end
section
variable {P:Program} {ops:Array Oper} {o:Oper} {a:Act} {Q:Exit→Act→World→Prop} {Kc:Act→World→Prop}
theorem DO {W w1:World} {v:Value} (hw:Region.wanted o (yielded ops a.tmps)=true) (hrun:(execOp a.eval o).run P W= .ok (.value v) w1) (h:Kc (a.put o.dst v) w1):if Region.wanted o (yielded ops a.tmps)=true then Oper.wp P o a W Kc Q else Kc (a.put o.dst undef) W:=by
 rw [if_pos hw]
 unfold Oper.wp
 rw [hrun]
 exact h
namespace Kd
variable {α:Type}
theorem R_lit_step (d:Kd α) {w0 W:World} (base e:Nat) (hw:Region.wanted o (yielded ops a.tmps)=true) {N:Tmp} (_hd:o.dst=some N) {xs:List α} {inner:List Value} {ok okp:Nat→Prop}
  (hrun:(execOp a.eval o).run P W= .ok (.value (.slice (some ⟨W.heap.size,0,none⟩) xs.length xs.length)) (W.alloc (.cells inner.toArray e)))
  (hrep:Reps (d.M W base okp) d.sz xs inner) (hok:∀k,okp k→ok k) (hfresh:ok W.heap.size) (HB:Below base w0 W) (hbase:base≤W.heap.size) (hm:xs.length≤9223372036854775807)
  (h:∀v1 w1,d.R e w1 base ok v1 xs→Below base w0 w1→W.grownBy w1 none→(∃b,v1.ownBlock=some b∧W.heap.size≤b)→Kc (a.put o.dst v1) w1):if Region.wanted o (yielded ops a.tmps)=true then Oper.wp P o a W Kc Q else Kc (a.put o.dst undef) W:=by
 refine DO hw hrun (h _ _ ⟨fun k hk=> ?_,inner,?_,?_⟩ (HB.alloc hbase _) (World.grownBy_alloc W _ none) ⟨W.heap.size,by simp [Value.ownBlock],Nat.le_refl _⟩)
 ·have:W.heap.size=k:=by simpa [Value.ownBlock] using hk
  subst this
  exact hfresh
 ·have h2:=World.ownsRow_lit (base:=base) (e:=e) (size:=d.sz) W inner.toArray xs.length hbase (by simpa [maxLen] using hm) (by simpa using hrep.1)
  simpa using h2
 ·refine hrep.imp_ (fun p c hp=>d.M_mono (fun k hk=>⟨hok k hk.1,fun he=> ?_⟩) (Db (d.M_bound hp) (AI (Below.refl _ _) _)))
  have h3:k=W.heap.size:=by simpa [Value.ownBlock] using he
  have:=hk.2.2.1
  omega
theorem R_append_rows_step (d:Kd α) {Rr:α→List Value→Prop} {w0 W:World} (base:Nat) (hw:Region.wanted o (yielded ops a.tmps)=true) (s x:Operand) (t e:TypeId) (z:Value) (bytes:Nat)
  (ho:o.op= .call {callee:= .builtin .append,args:= #[s,x],argTypes:= #[t,t]})
  (ht:P.underlying t=some (.slice e)) (hinfo:(P.info? e).map (fun i=>(i.zero,i.size,i.bytes))=some (some z,d.sz,bytes)) (hz:z.cells.size=d.sz) (hs0:0<d.sz) (hb0:0<bytes)
  (v:Value) (xs ys:List α) (A:Option Addr) (m c:Nat) (ok okp:Nat→Prop) (hs:a.eval s=v) (hx:a.eval x= .slice A m c)
  (HO:d.R e W base ok v xs) (HR:ReadsRow Rr d.sz W A m ys) (hKM:∀x cs,Rr x cs→d.M W base okp x cs) (hokp:∀k,okp k→ok k∧some k≠v.ownBlock) (hfresh:∀k,W.heap.size≤k→ok k)
  (HB:Below base w0 W) (hbase:base≤W.heap.size) (hl:(xs.length+m)*bytes≤140737488355328)
  (h:∀v1 w1,d.R e w1 base ok v1 (xs++ys)→Below base w0 w1→W.grownBy w1 v.ownBlock→(v1.ownBlock=v.ownBlock∨∃b,v1.ownBlock=some b∧W.heap.size≤b)→Kc (a.put o.dst v1) w1):
  if Region.wanted o (yielded ops a.tmps)=true then Oper.wp P o a W Kc Q else Kc (a.put o.dst undef) W:=by
 obtain ⟨i0,hi,hzz⟩:=Option.map_eq_some_iff.1 hinfo
 simp only [Prod.mk.injEq] at hzz
 obtain ⟨hz0,hz1,hz2⟩:=hzz
 have hm:ys.length=m:=HR.1
 have hlen:xs.length+m≤140737488355328:=Nat.le_trans (Nat.le_mul_of_pos_right _ hb0) hl
 obtain ⟨hok,inner,hown,hr⟩:=HO
 have hrun:∃v1 w1,(Builtin.append_ #[t,t] o.type #[v,.slice A m c]).run P W= .ok v1 w1∧d.R e w1 base ok v1 (xs++ys)∧W.grownBy w1 v.ownBlock∧(v1.ownBlock=v.ownBlock∨∃b,v1.ownBlock=some b∧W.heap.size≤b):=by
  rcases A with _|ad
  ·have h0:m=0:=by
    rcases Nat.eq_zero_or_pos m with h0|h0
    ·exact h0
    ·obtain ⟨ad,h,_⟩:=HR.2.2 h0
     cases h
   subst h0
   obtain rfl:ys=[]:=List.eq_nil_of_length_eq_zero hm
   refine ⟨v,W,?_,by rw [List.append_nil]; exact ⟨hok,inner,hown,hr⟩,World.grownBy.refl W _,.inl rfl⟩
   rcases hown.2 with ⟨rfl,hn⟩|⟨g,cap,cur,rfl,_,_,hnc,_⟩
   ·simp [Builtin.append_,run_underlying ht,sizeOf,typeInfo,hi,Builtin.lenOf,Builtin.firstCells]
   ·simp [Builtin.append_,run_underlying ht,sizeOf,typeInfo,hi,Builtin.lenOf,Builtin.firstCells,hnc,storeCells]
  ·obtain ⟨news,hnr,hnc⟩:=ReadsRow.inner_ HR
   have hnM:Reps (d.M W base okp) d.sz ys news:=hnr.imp_ (fun p c hp=>hKM p c hp)
   have hone:∀u∈news,u.oneCell'=true:=by
    intro u hu
    obtain ⟨q,hq,rfl⟩:=List.mem_iff_getElem.1 hu
    have hql:q/d.sz<ys.length:=by
     rw [Nat.div_lt_iff_lt_mul hs0]
     rw [←hnM.1]
     exact hq
    have hc:=hnM.2 (q/d.sz) _ (List.getElem?_eq_getElem hql)
    refine d.K_one (d.K_of_M hc) _ ?_
    rw [List.mem_iff_getElem?]
    refine ⟨q%d.sz,?_⟩
    rw [List.getElem?_take,if_pos (Nat.mod_lt _ hs0),List.getElem?_drop,Nat.mul_comm,Nat.div_add_mod,List.getElem?_eq_getElem hq]
   obtain ⟨v1,w1,hrun,h2,hg,_,hat⟩:=run_append_own_at (P:=P) W base t o.type e i0 z d.sz bytes ht hi hz0 hz1 hz2 hz hs0 v xs.length inner hown ad m c news (by rw [hnM.1,hm]) hnc hone (by simp only [maxLen]; omega) hl hbase
   have hat':v1.ownBlock=v.ownBlock∨∃b,v1.ownBlock=some b∧W.heap.size≤b:=by
    rcases hat with hat|hat
    ·exact .inl hat
    ·exact .inr ⟨_,hat,Nat.le_refl _⟩
   have hne:∀k,some k≠v.ownBlock→k<W.heap.size→some k≠v1.ownBlock:=by
    intro k hk hlt
    rcases hat' with hat|⟨b,hb,hle⟩
    ·rw [hat]; exact hk
    ·rw [hb]
     intro he
     injection he with he
     omega
   have step:∀ {q:α} {c:List Value} {o:Nat→Prop},d.M W base o q c→(∀k,o k→ok k∧some k≠v.ownBlock)→d.M w1 base (fun k=>ok k∧some k≠v1.ownBlock) q c:=by
    intro q c o hq ho
    have h1:=d.M_move (w1:=w1) (fun k hk=>hg.block k hk.2.2.1 (ho k hk.1).2) (d.M_bound hq)
    exact d.M_mono (fun k hk=>⟨(ho k hk.1).1,hne k (ho k hk.1).2 hk.2.2.1⟩) h1
   refine ⟨v1,w1,hrun,⟨fun k hk=> ?_,inner++news,by rw [List.length_append,hm]; exact h2,CD (hr.imp_ (fun _ _ hq=>step hq (fun _ hk=>hk))) (hnM.imp_ (fun _ _ hq=>step hq hokp))⟩,hg,hat'⟩
   rcases hat' with hat|⟨b,hb,hle⟩
   ·exact hok k (hat▸hk)
   ·rw [hb] at hk
    injection hk with hk
    exact hfresh k (by omega)
 obtain ⟨v1,w1,hr1,h1,hg,hat⟩:=hrun
 rw [if_pos hw]
 unfold Oper.wp execOp
 simp only [ho,resolve,invoke,builtin,Sem.run_bind,Sem.run_pure,Result.andThen_ok,List.map_toArray,List.map_cons,List.map_nil,hs,hx,hr1]
 exact h v1 w1 h1 (HB.grown hg hbase (Bn hown)) hg hat
end Kd
end
inductive Vals (P:Program) (tmps:Array Value) (w:World):List ResultVar→List Value→Prop where
 |nil:Vals P tmps w [] []
 |tmp {u:Tmp} {rs:List ResultVar} {vs:List Value} (h:Vals P tmps w rs vs):Vals P tmps w (.tmp u::rs) (tmps.getD u undef::vs)
 |cell {p:Tmp} {ty:TypeId} {rs:List ResultVar} {vs:List Value} (g:Nat) (t:TypeId) (cs:Array Value) (fr:Nat×Nat) (d:TypeDesc)
  (hp:tmps.getD p undef= .pointer (some ⟨g,0,none⟩)) (hg:w.heap[g]? =some (.cells cs t fr))
  (hu:P.underlying ty=some d) (hd:(match d with| .struct _| .array _ _=>true|_=>false)=true) (hi:(P.info? ty).map (·.size)=some cs.size)
  (h:Vals P tmps w rs vs):Vals P tmps w (.cell p ty::rs) (.agg cs::vs)
section
variable {P:Program} {tmps:Array Value} {w:World}
end
namespace Kd
section
variable {P:Program} {α:Type}
end
section
variable {P:Program} {ops:Array Oper} {rest:List Oper} {o:Oper} {a:Act} {Q:Exit→Act→World→Prop} {Kc:Act→World→Prop} {α:Type}
end
end Kd
end Go.Proofs.YtgfjidlckocflaaDoorW.PrintWords
end
section
namespace Go.Proofs.YtgfjidlckocflaaDoorW.PrintLast
set_option maxRecDepth 100000
section
variable {P:Program} {ops:Array Oper} {Q:Exit→Act→World→Prop} {md:Region.Mode} {S:World→Prop} {ds:List Nat}
def Region.reachB (md:Region.Mode) (ops:Array Oper) (i:Nat):Nat→Nat→Bool
 |0,_=>false
 | fuel+1,d=>match ops[d]? with
  |some o=>o.after.any fun e=>Region.binds md e&&(e.on==i||Region.reachB md ops i fuel e.on)
  |none=>false
def Region.closedB (md:Region.Mode) (ops:Array Oper) (listed:Array Bool):Bool:=
 (List.range ops.size).all fun j=> !listed.getD j false||match ops[j]? with
  |some o=>o.after.all fun e=> !Region.binds md e||listed.getD e.on false
  |none=>true
def Region.lastB (md:Region.Mode) (ops:Array Oper) (listed:Array Bool) (ds:List Nat) (i:Nat):Bool:=
 ds.all fun d=>listed.getD d true||Region.reachB md ops i ops.size d
def ListedClosed (md:Region.Mode) (ops:Array Oper) (listed:Array Bool):Prop:=
 ∀j oj,ops[j]? =some oj→listed.getD j false=true→∀e∈oj.after,Region.binds md e=true→listed.getD e.on false=true
theorem Region.closedB_spec {listed:Array Bool} (h:Region.closedB md ops listed=true):ListedClosed md ops listed:=by
 intro j oj hj hl e he hb
 have hlt:j<ops.size:=(Array.getElem?_eq_some_iff.1 hj).1
 have h1:=List.all_eq_true.1 h j (List.mem_range.2 hlt)
 simp only [hl,hj,Bool.not_true,Bool.false_or] at h1
 have h2:=Array.all_eq_true_iff_forall_mem.1 h1 e he
 simpa [hb] using h2
theorem ListedClosed.set {listed:Array Bool} {i:Nat} (h:ListedClosed md ops listed) (hi:i∈Region.ready md ops listed):ListedClosed md ops (listed.setIfInBounds i true):=by
 obtain ⟨_,oi,hoi,hall⟩:=mem_ready.1 hi
 intro j oj hj hl e he hb
 by_cases hij:i=j
 ·subst hij
  have:oj=oi:=Option.some.inj (hj.symm.trans hoi)
  subst this
  exact getD_set_true (hall e he hb)
 ·rw [getD_set_ne false hij] at hl
  exact getD_set_true (h j oj hj hl e he hb)
theorem Region.reach_listed {listed:Array Bool} {i:Nat} (hc:ListedClosed md ops listed):∀(fuel d:Nat),Region.reachB md ops i fuel d=true→listed.getD d false=true→listed.getD i false=true
 |0,_,h,_=>by simp [Region.reachB] at h
 | fuel+1,d,h,hl=>by
  unfold Region.reachB at h
  cases ho:ops[d]? with
  |none=>rw [ho] at h; simp at h
  | some o=>
   rw [ho] at h
   obtain ⟨e,he,h1⟩:=Array.any_eq_true'.1 h
   simp only [Bool.and_eq_true,Bool.or_eq_true,beq_iff_eq] at h1
   have hle:=hc d o ho hl e he h1.1
   rcases h1.2 with h2|h2
   ·rw [←h2]; exact hle
   ·exact Region.reach_listed hc fuel e.on h2 hle
theorem Region.reach_not_ready {listed:Array Bool} {i d fuel:Nat} (hc:ListedClosed md ops listed) (hr:Region.reachB md ops i fuel d=true) (hun:listed.getD i true=false):d ∉ Region.ready md ops listed:=by
 intro hd
 obtain ⟨_,o,ho,hall⟩:=mem_ready.1 hd
 have hi:listed.getD i false=true:=by
  cases fuel with
  |zero=>simp [Region.reachB] at hr
  | succ n=>
   unfold Region.reachB at hr
   rw [ho] at hr
   obtain ⟨e,he,h1⟩:=Array.any_eq_true'.1 hr
   simp only [Bool.and_eq_true,Bool.or_eq_true,beq_iff_eq] at h1
   have hle:=hall e he h1.1
   rcases h1.2 with h2|h2
   ·rw [←h2]; exact hle
   ·exact Region.reach_listed hc n e.on h2 hle
 rcases Nat.lt_or_ge i listed.size with h'|h'
 ·simp [h'] at hun hi
  rw [hun] at hi
  cases hi
 ·simp [Array.getElem?_eq_none h'] at hun
def Au (P:Program) (md:Region.Mode) (ops:Array Oper) (Q:Exit→Act→World→Prop) (S:World→Prop) (ds:List Nat):Nat→Array Bool→Act→World→Prop
 |0,listed,a,w=>Region.ready md ops listed=[]∧Q .normal a w
 | fuel+1,listed,a,w=>
  (Region.ready md ops listed=[]→Q .normal a w)∧
  ∀i∈Region.ready md ops listed,wpOp P ops Q i (fun a' w'=>(i ∉ ds→S w→S w')∧Au P md ops Q S ds fuel (listed.setIfInBounds i true) a' w') a w
theorem Bw:∀(fuel:Nat) (listed:Array Bool) (a:Act) (w:World),Au P md ops Q S ds fuel listed a w→wpAny P md ops Q fuel listed a w
 |0,_,_,_,h=>h
 |fuel+1,_,_,_,h=>⟨h.1,fun i hi=>wpOp_mono (fun a' w' h'=>Bw fuel _ a' w' h'.2) (h.2 i hi)⟩
theorem CH {i:Nat} {oi:Oper} {v:Value} (hi:ops[i]? =some oi) (hsel:∀(j:Nat) (o:Oper) cs b,ops[j]? =some o→o.op≠ .select cs b)
  (hQ:∀c a w,Q (.panic c) (a.put oi.dst v) w→Q (.panic c) a w) (n:Nat):
  ∀ (fuel:Nat) (listed:Array Bool) (a:Act) (w:World),
   (∀j oj,ops[j]? =some oj→j≠i→listed.getD j true=false→(∀e∈oj.after,Region.binds md e=true→e.on≠i)→oi.apart ops oj=true)→
   ListedClosed md ops listed→(∀d∈ds,listed.getD d true=false→Region.reachB md ops i n d=true)→
   i∈Region.ready md ops listed→YieldsIf P ops S oi v a→S w→
   Au P md ops Q S ds fuel (listed.setIfInBounds i true) (a.put oi.dst v) w→Au P md ops Q S ds (fuel+1) listed a w:=by
 intro fuel
 induction fuel with
 | zero=>
  intro listed a w _ _ _ hr hy hS H
  refine ⟨fun h=>(by rw [h] at hr; cases hr),fun j hj=> ?_⟩
  by_cases hji:j=i
  ·subst hji; exact hy.wpOp hi hS ⟨fun _ h=>h,H⟩
  ·have:=ready_mono hj hji
   rw [H.1] at this
   cases this
 | succ fuel ih=>
  intro listed a w hfree hc hd hr hy hS H
  refine ⟨fun h=>(by rw [h] at hr; cases hr),fun j hj=> ?_⟩
  by_cases hji:j=i
  ·subst hji; exact hy.wpOp hi hS ⟨fun _ h=>h,H⟩
  ·have h1:=H.2 j (ready_mono hj hji)
   obtain ⟨hjun,oj,hoj,hall⟩:=mem_ready.1 hj
   have hiun:=(mem_ready.1 hr).1
   have hnot:∀e∈oj.after,Region.binds md e=true→e.on≠i:=fun e he hb heq=>by
    have h1:=hall e he hb
    rw [heq] at h1
    rcases Nat.lt_or_ge i listed.size with h'|h'
    ·simp [h'] at hiun h1; rw [hiun] at h1; cases h1
    ·simp [Array.getElem?_eq_none h'] at h1
   have hjd:j ∉ ds:=fun hm=>Region.reach_not_ready hc (hd j hm hjun) hiun hj
   have h2:=wpOp_putIf hoj (hfree j oj hoj hji hjun hnot) (fun cs b=>hsel i oi cs b hi) (fun cs b=>hsel j oj cs b hoj) hQ hy h1
   have hfree':∀k ok,ops[k]? =some ok→k≠i→(listed.setIfInBounds j true).getD k true=false→
     (∀e∈ok.after,Region.binds md e=true→e.on≠i)→oi.apart ops ok=true:=fun k ok hk hki hun hno=>by
    refine hfree k ok hk hki ?_ hno
    by_cases hjk:j=k
    ·subst hjk; exact hjun
    ·rw [getD_set_ne true hjk] at hun; exact hun
   have hd':∀d∈ds,(listed.setIfInBounds j true).getD d true=false→Region.reachB md ops i n d=true:=fun d hm hun=>by
    refine hd d hm ?_
    by_cases hjk:j=d
    ·subst hjk; exact hjun
    ·rw [getD_set_ne true hjk] at hun; exact hun
   refine wpOp_mono (fun a' w' h3=>⟨h3.2.1,ih (listed.setIfInBounds j true) a' w' hfree' (hc.set hj) hd' (ready_mono hr (Ne.symm hji)) h3.1 (h3.2.1 hjd hS) ?_⟩) h2
   rw [Array.setIfInBounds_comm _ _ hji]
   exact h3.2.2
theorem CZ {i:Nat} {oi:Oper} {v:Value} (hi:ops[i]? =some oi) (hsel:∀(j:Nat) (o:Oper) cs b,ops[j]? =some o→o.op≠ .select cs b)
  (hQ:∀c a w,Q (.panic c) (a.put oi.dst v) w→Q (.panic c) a w):
  ∀ (fuel:Nat) (listed:Array Bool) (a:Act) (w:World),
   (∀j oj,ops[j]? =some oj→j≠i→listed.getD j true=false→(∀e∈oj.after,Region.binds md e=true→e.on≠i)→oi.apart ops oj=true)→
   i∈Region.ready md ops listed→Yields P ops oi v a→
   Au P md ops Q S ds fuel (listed.setIfInBounds i true) (a.put oi.dst v) w→Au P md ops Q S ds (fuel+1) listed a w:=by
 intro fuel
 induction fuel with
 | zero=>
  intro listed a w _ hr hy H
  refine ⟨fun h=>(by rw [h] at hr; cases hr),fun j hj=> ?_⟩
  by_cases hji:j=i
  ·subst hji; exact (hy.yieldsIf (S:=fun _=>True)).wpOp hi trivial ⟨fun _ h=>h,H⟩
  ·have:=ready_mono hj hji
   rw [H.1] at this
   cases this
 | succ fuel ih=>
  intro listed a w hfree hr hy H
  refine ⟨fun h=>(by rw [h] at hr; cases hr),fun j hj=> ?_⟩
  by_cases hji:j=i
  ·subst hji; exact (hy.yieldsIf (S:=fun _=>True)).wpOp hi trivial ⟨fun _ h=>h,H⟩
  ·have h1:=H.2 j (ready_mono hj hji)
   obtain ⟨hjun,oj,hoj,hall⟩:=mem_ready.1 hj
   have hiun:=(mem_ready.1 hr).1
   have hnot:∀e∈oj.after,Region.binds md e=true→e.on≠i:=fun e he hb heq=>by
    have h1:=hall e he hb
    rw [heq] at h1
    rcases Nat.lt_or_ge i listed.size with h'|h'
    ·simp [h'] at hiun h1; rw [hiun] at h1; cases h1
    ·simp [Array.getElem?_eq_none h'] at h1
   have h2:=wpOp_put hoj (hfree j oj hoj hji hjun hnot) (fun cs b=>hsel i oi cs b hi) (fun cs b=>hsel j oj cs b hoj) hQ hy h1
   have hfree':∀k ok,ops[k]? =some ok→k≠i→(listed.setIfInBounds j true).getD k true=false→
     (∀e∈ok.after,Region.binds md e=true→e.on≠i)→oi.apart ops ok=true:=fun k ok hk hki hun hno=>by
    refine hfree k ok hk hki ?_ hno
    by_cases hjk:j=k
    ·subst hjk; exact hjun
    ·rw [getD_set_ne true hjk] at hun; exact hun
   refine wpOp_mono (fun a' w' h3=>⟨h3.2.1,ih (listed.setIfInBounds j true) a' w' hfree' (ready_mono hr (Ne.symm hji)) h3.1 ?_⟩) h2
   rw [Array.setIfInBounds_comm _ _ hji]
   exact h3.2.2
theorem CL {i:Nat} {oi:Oper} {v:Value} {fuel:Nat} {listed:Array Bool} {a:Act} {w:World} (hi:ops[i]? =some oi)
  (hs:Region.noSelect ops=true) (hf:Region.free md ops listed i=true) (hr:(Region.ready md ops listed).contains i=true)
  (hc:Region.closedB md ops listed=true) (hl:Region.lastB md ops listed ds i=true)
  (hQ:∀c a w,Q (.panic c) (a.put oi.dst v) w→Q (.panic c) a w) (hy:YieldsIf P ops S oi v a) (hS:S w)
  (h:Au P md ops Q S ds fuel (listed.setIfInBounds i true) (a.put oi.dst v) w):Au P md ops Q S ds (fuel+1) listed a w:=
 CH hi (Region.noSelect_spec hs) hQ ops.size fuel listed a w (Region.free_spec hi hf) (Region.closedB_spec hc)
  (fun d hm hun=>by have:=List.all_eq_true.1 hl d hm; rw [hun] at this; simpa using this) (by simpa using hr) hy hS h
theorem Ca {rs:List Nat} {fuel:Nat} {listed:Array Bool} {a:Act} {w:World} (hr:Region.ready md ops listed=rs) (hne:rs≠[])
  (h:∀i∈rs,wpOp P ops Q i (fun a' w'=>(i ∉ ds→S w→S w')∧Au P md ops Q S ds fuel (listed.setIfInBounds i true) a' w') a w):Au P md ops Q S ds (fuel+1) listed a w:=
 ⟨fun h0=>absurd (hr▸h0) hne,hr▸h⟩
theorem CM {listed:Array Bool} {a:Act} {w:World} (hr:Region.ready md ops listed=[]) (h:Q .normal a w):
  ∀fuel,Au P md ops Q S ds fuel listed a w
 |0=>⟨hr,h⟩
 |_+1=>⟨fun _=>h,by rw [hr]; simp⟩
theorem CK {id:Nat} {a:Act} {w:World} (hm:P.follows .mixedOrders=true)
  (h:Au P .any ops Q S ds ops.size (Array.replicate ops.size false) a {w with drawn:=w.drawn+1}):(Code.region id ops true).wp P Q a w:=
 wp_region_any hm (Bw _ _ _ _ h)
end
section
variable {P:Program} {ops:Array Oper} {Q:Exit→Act→World→Prop} {md:Region.Mode} {S:World→Prop} {ds:List Nat}
def AllReadyL (P:Program) (md:Region.Mode) (ops:Array Oper) (Q:Exit→Act→World→Prop) (S:World→Prop) (ds:List Nat) (fuel:Nat) (listed:Array Bool) (a:Act) (w:World) (rs:List Nat):Prop:=
 ∀i∈rs,wpOp P ops Q i (fun a' w'=>(i ∉ ds→S w→S w')∧Au P md ops Q S ds fuel (listed.setIfInBounds i true) a' w') a w
theorem AllReadyL.nil {fuel:Nat} {listed:Array Bool} {a:Act} {w:World} :AllReadyL P md ops Q S ds fuel listed a w []:=fun _ h=>by cases h
theorem AllReadyL.cons {fuel:Nat} {listed:Array Bool} {a:Act} {w:World} {i:Nat} {o:Oper} {rs:List Nat} (ho:ops[i]? =some o) (hd:i ∉ ds)
  (h:∀K':Act→World→Prop,Shut (∀a w,S w→(S w→Au P md ops Q S ds fuel (listed.setIfInBounds i true) a w)→K' a w)→if Region.wanted o (yielded ops a.tmps)=true then Oper.wp P o a w K' Q else K' (a.put o.dst undef) w)
  (hs:AllReadyL P md ops Q S ds fuel listed a w rs):AllReadyL P md ops Q S ds fuel listed a w (i::rs):=fun j hj=>by
 rcases List.mem_cons.1 hj with rfl|hj
 ·exact wpOp_step ho (fun K' hK=>h K' (fun a w hS hW=>hK a w ⟨fun _ _=>hS,hW hS⟩))
 ·exact hs j hj
theorem Bk {rs:List Nat} {fuel:Nat} {listed:Array Bool} {a:Act} {w:World} (hr:Region.ready md ops listed=rs) (hne:rs≠[])
 (h:AllReadyL P md ops Q S ds fuel listed a w rs):Au P md ops Q S ds (fuel+1) listed a w:=Ca hr hne h
theorem BR {id n:Nat} {a:Act} {w:World} (l:Array Bool) (hm:P.follows .mixedOrders=true) (hn:ops.size=n) (hl:Array.replicate n false=l) (hS:S w.drew)
  (h:S w.drew→Au P .any ops Q S ds n l a w.drew):(Code.region id ops true).wp P Q a w:=by
 subst hn
 subst hl
 exact CK hm (h hS)
def Cw (md:Region.Mode) (ops:Array Oper) (ds:List Nat) (l l':Array Bool) (i:Nat):Bool:=
 Region.noSelect ops&&Region.free md ops l i&&(Region.ready md ops l).contains i&&Region.closedB md ops l&&Region.lastB md ops l ds i&&(l.setIfInBounds i true==l')
theorem Aw {i:Nat} {N:Option Tmp} {oi:Oper} {v:Value} {fuel:Nat} {l:Array Bool} {a:Act} {w:World} (l':Array Bool) (hi:ops[i]? =some oi) (hN:oi.dst=N) (hc:Cw md ops ds l l' i=true)
  (hQ:∀c a w,Q (.panic c) (a.put oi.dst v) w→Q (.panic c) a w) (hy:YieldsIf P ops S oi v a) (hS:S w) {a':Act} (ha:a.put N v=a')
  (h:Au P md ops Q S ds fuel l' a' w):Au P md ops Q S ds (fuel+1) l a w:=by
 subst ha
 subst hN
 simp only [Cw,Bool.and_eq_true,beq_iff_eq] at hc
 obtain ⟨⟨⟨⟨⟨h1,h2⟩,h3⟩,h4⟩,h5⟩,h6⟩:=hc
 subst h6
 exact CL hi h1 h2 h3 h4 h5 hQ hy hS h
def anyB (md:Region.Mode) (ops:Array Oper) (l l':Array Bool) (i:Nat):Bool:=
 Region.noSelect ops&&Region.free md ops l i&&(Region.ready md ops l).contains i&&(l.setIfInBounds i true==l')
theorem AO {i:Nat} {N:Option Tmp} {oi:Oper} {v:Value} {fuel:Nat} {l:Array Bool} {a:Act} {w:World} (l':Array Bool) (hi:ops[i]? =some oi) (hN:oi.dst=N) (hc:anyB md ops l l' i=true)
  (hQ:∀c a w,Q (.panic c) (a.put oi.dst v) w→Q (.panic c) a w) (hy:Yields P ops oi v a) {a':Act} (ha:a.put N v=a')
  (h:Au P md ops Q S ds fuel l' a' w):Au P md ops Q S ds (fuel+1) l a w:=by
 subst ha
 subst hN
 simp only [anyB,Bool.and_eq_true,beq_iff_eq] at hc
 obtain ⟨⟨⟨h1,h2⟩,h3⟩,h6⟩:=hc
 subst h6
 exact CZ hi (Region.noSelect_spec h1) hQ fuel l a w (Region.free_spec hi h2) (by simpa using h3) hy h
def Co (md:Region.Mode) (ops:Array Oper) (l l':Array Bool) (i:Nat):Bool:=(Region.ready md ops l==[i])&&(l.setIfInBounds i true==l')
theorem one_ {i:Nat} {N:Option Tmp} {oi:Oper} {fuel:Nat} {l:Array Bool} {a:Act} {w:World} (l':Array Bool) (hi:ops[i]? =some oi) (hN:oi.dst=N) (hc:Co md ops l l' i=true) (hd:i ∉ ds)
  (h:∀K:Act→World→Prop,Shut (∀a' w',S w'→(S w'→Au P md ops Q S ds fuel l' a' w')→K a' w')→if Region.wanted oi (yielded ops a.tmps)=true then Oper.wp P oi a w K Q else K (a.put N undef) w):
  Au P md ops Q S ds (fuel+1) l a w:=by
 subst hN
 simp only [Co,Bool.and_eq_true,beq_iff_eq] at hc
 obtain ⟨h1,h2⟩:=hc
 subst h2
 exact Bk h1 (by simp) (AllReadyL.cons hi hd (fun K hK=>h K hK) AllReadyL.nil)
theorem Bb {l:Array Bool} {a:Act} {w:World} {n:Nat} (hr:(Region.ready md ops l==[])=true) (h:Q .normal a w):Au P md ops Q S ds n l a w:=CM (by simpa using hr) h n
theorem two_ {i j:Nat} {Ni Nj:Option Tmp} {oi oj:Oper} {fuel:Nat} {l:Array Bool} {a:Act} {w:World} (li lj:Array Bool) (hi:ops[i]? =some oi) (hj:ops[j]? =some oj) (hNi:oi.dst=Ni) (hNj:oj.dst=Nj)
  (hc:(Region.ready md ops l==[i,j]&&l.setIfInBounds i true==li&&l.setIfInBounds j true==lj)=true) (hdi:i ∉ ds) (hdj:j ∉ ds)
  (h1:∀K:Act→World→Prop,Shut (∀a' w',S w'→(S w'→Au P md ops Q S ds fuel li a' w')→K a' w')→if Region.wanted oi (yielded ops a.tmps)=true then Oper.wp P oi a w K Q else K (a.put Ni undef) w)
  (h2:∀K:Act→World→Prop,Shut (∀a' w',S w'→(S w'→Au P md ops Q S ds fuel lj a' w')→K a' w')→if Region.wanted oj (yielded ops a.tmps)=true then Oper.wp P oj a w K Q else K (a.put Nj undef) w):
  Au P md ops Q S ds (fuel+1) l a w:=by
 subst hNi
 subst hNj
 simp only [Bool.and_eq_true,beq_iff_eq] at hc
 obtain ⟨⟨h3,h4⟩,h5⟩:=hc
 subst h4
 subst h5
 exact Bk h3 (by simp) (AllReadyL.cons hi hdi (fun K hK=>h1 K hK) (AllReadyL.cons hj hdj (fun K hK=>h2 K hK) AllReadyL.nil))
def CP:Act→List (Tmp×Value)→Act
 |a,[]=>a
 |a,(n,v)::r=>CP (a.put (some n) v) r
theorem join_ {σ:Type} {fuel:Nat} {l:Array Bool} {a:Act} {w:World} (fuel':Nat) (l':Array Bool) (ns:σ→List (Tmp×Value)) (F:σ→World→Prop)
 (hcont:∀s w',F s w'→Au P md ops Q S ds fuel' l' (CP a (ns s)) w')
 (h:(∀s w',F s w'→Au P md ops Q S ds fuel' l' (CP a (ns s)) w')→Au P md ops Q S ds fuel l a w):Au P md ops Q S ds fuel l a w:=h hcont
theorem B8 {fuel:Nat} {l:Array Bool} {a a':Act} {w:World} (ha:a=a') (h:Au P md ops Q S ds fuel l a' w):Au P md ops Q S ds fuel l a w:=by
 subst ha
 exact h
theorem call_ {oi:Oper} {N:Option Tmp} {a:Act} {w:World} {K:Act→World→Prop} (f:FuncId) (args:Array Value) (hw:Region.wanted oi (yielded ops a.tmps)=true) (hN:oi.dst=N) (hrun:(execOp a.eval oi).run P w= .ok (.enter f args) w)
  (h:Calls P f args w fun e w'=>∃v,e= .returned v∧K (a.put N v) w'):if Region.wanted oi (yielded ops a.tmps)=true then Oper.wp P oi a w K Q else K (a.put N undef) w:=by
 rw [if_pos hw]
 subst hN
 unfold Oper.wp
 rw [hrun,Oper.upon_enter]
 refine h.mono fun e w'' hh=> ?_
 obtain ⟨v,rfl,hk⟩:=hh
 exact hk
theorem DZ {f:FuncId} {fn:Func} (hf:P.funcs[f]? =some fn) (hname:(fn.name== "runtime.NumGoroutine")=false) (hb:fn.body.isSome=true) (args:Array Value) (w:World):(callFunc f args).run P w= .ok (.enter f args) w:=by
 have h1:fn.name≠ "runtime.NumGoroutine" :=by simpa using hname
 obtain ⟨c,hc⟩:=Option.isSome_iff_exists.1 hb
 simp [callFunc,hf,h1,hc]
theorem BW {oi:Oper} {N:Option Tmp} {a:Act} {w:World} {K:Act→World→Prop} {f:FuncId} {fn:Func} {azz:Array Operand} {ts:Array TypeId} (hf:P.funcs[f]? =some fn) (hname:(fn.name== "runtime.NumGoroutine")=false) (hb:fn.body.isSome=true) (args:Array Value)
  (hw:Region.wanted oi (yielded ops a.tmps)=true) (hN:oi.dst=N) (hop:oi.op= .call {callee:= .value (.func f),args:=azz,argTypes:=ts}) (hargs:azz.map a.eval=args)
  (h:Calls P f args w fun e w'=>∃v,e= .returned v∧K (a.put N v) w'):if Region.wanted oi (yielded ops a.tmps)=true then Oper.wp P oi a w K Q else K (a.put N undef) w:=by
 refine call_ f args hw hN ?_ h
 have he:=DZ hf hname hb args w
 unfold execOp
 simp [hop,resolve,Deferred.ofValue,invoke,Act.eval,hargs,he]
theorem Ag {rest:List Oper} {oi:Oper} {a:Act} {w:World} (N:Option Tmp) (hd:oi.dst=N) (hg:oi.guard=none) {f:FuncId} {fn:Func} {azz:Array Operand} {ts:Array TypeId} (hf:P.funcs[f]? =some fn) (hname:(fn.name== "runtime.NumGoroutine")=false) (hb:fn.body.isSome=true) (args:Array Value)
  (hop:oi.op= .call {callee:= .value (.func f),args:=azz,argTypes:=ts}) (hargs:azz.map a.eval=args)
  (h:Calls P f args w fun e w'=>∃v,e= .returned v∧wpList P ops Q rest (a.put N v) w'):wpList P ops Q (oi::rest) a w:=by
 refine wpList_plain hg fun K hK=> ?_
 have he:=DZ hf hname hb args w
 have hrun:(execOp a.eval oi).run P w= .ok (.enter f args) w:=by
  unfold execOp
  simp [hop,resolve,Deferred.ofValue,invoke,Act.eval,hargs,he]
 unfold Oper.wp
 rw [hrun,Oper.upon_enter]
 refine h.mono fun e w'' hh=> ?_
 obtain ⟨v,rfl,hk⟩:=hh
 subst hd
 exact hK _ _ hk
theorem D9 {oi:Oper} {N:Option Tmp} {a:Act} {w w1:World} {v:Value} {K:Act→World→Prop} (hw:Region.wanted oi (yielded ops a.tmps)=true) (hN:oi.dst=N) (hrun:(execOp a.eval oi).run P w= .ok (.value v) w1)
  (h:K (a.put N v) w1):if Region.wanted oi (yielded ops a.tmps)=true then Oper.wp P oi a w K Q else K (a.put N undef) w:=by
 rw [if_pos hw]
 subst hN
 unfold Oper.wp
 rw [hrun]
 exact h
theorem AL (n:Int):IntKind.i64.wrap n=Go.RowKit.wrap64 n:=by unfold Go.RowKit.wrap64; exact IntKind.wrap_i64 n
theorem AM (n:Int):IntKind.i32.wrap n=Go.RowKit.wrap32 n:=by unfold Go.RowKit.wrap32; exact IntKind.wrap_i32 n
end
end Go.Proofs.YtgfjidlckocflaaDoorW.PrintLast
end
section
namespace Go.Proofs.YtgfjidlckocflaaDoorW.PrintLast
set_option maxRecDepth 100000
open Go.Proofs.YtgfjidlckocflaaDoorW.PrintWords (Aside0)
def Bu (md:Region.Mode) (o:Oper):List Nat:=(o.after.toList.filter (fun e=>Region.binds md e)).map (fun e=>e.on)
def Cq (md:Region.Mode) (ops:Array Oper) (i:Nat) (oi:Oper):List Nat:=(List.range ops.size).filter fun j=> !(j==i)&&match ops[j]? with
 |some oj=> !(oj.after.any (fun e=>Region.binds md e&&e.on==i)||oi.apart ops oj)
 |none=>false
def rtab (md:Region.Mode) (ops:Array Oper):Bool×List (List Nat×List Nat):=(Region.noSelect ops,(List.range ops.size).map fun i=>match ops[i]? with
 |some o=>(Bu md o,Cq md ops i o)
 |none=>([],[]))
def Bg (T:List (List Nat×List Nat)) (l:List Bool) (i:Nat):Bool:= !l.getD i true&&match T[i]? with
 |some r=>r.1.all (fun j=>l.getD j false)
 |none=>false
def C9 (T:List (List Nat×List Nat)) (l:List Bool):List Nat:=(List.range T.length).filter (Bg T l)
def D6 (T:List (List Nat×List Nat)) (l:List Bool) (i:Nat):Bool:=match T[i]? with
 |some r=>r.2.all (fun j=>l.getD j true)
 |none=>false
def CI (T:List (List Nat×List Nat)) (l:List Bool):Bool:=(List.range T.length).all fun j=> !l.getD j false||match T[j]? with
 |some r=>r.1.all (fun k=>l.getD k false)
 |none=>true
def CA (T:List (List Nat×List Nat)) (i:Nat):Nat→Nat→Bool
 |0,_=>false
 | fuel+1,d=>match T[d]? with
  |some r=>r.1.any fun j=>j==i||CA T i fuel j
  |none=>false
def DW (T:List (List Nat×List Nat)) (l:List Bool) (ds:List Nat) (i:Nat):Bool:=ds.all fun d=>l.getD d true||CA T i T.length d
section
variable {md:Region.Mode} {ops:Array Oper} {T:Bool×List (List Nat×List Nat)} {l l' li lj lk:Array Bool} {ds:List Nat} {i j k:Nat}
theorem gd (l:Array Bool) (j:Nat) (b:Bool):l.getD j b=l.toList.getD j b:=by simp [Array.getD_eq_getD_getElem?,List.getD_eq_getElem?_getD]
theorem Cl (o:Oper) (p:Nat→Bool):o.after.all (fun e=> !Region.binds md e||p e.on)=(Bu md o).all p:=by
 unfold Bu
 rw [←Array.all_toList]
 induction o.after.toList with
 |nil=>rfl
 | cons e r ih=>
  rw [List.all_cons,ih,List.filter_cons]
  cases h:Region.binds md e<;>simp
theorem Dg (o:Oper) (p:Nat→Bool):o.after.any (fun e=>Region.binds md e&&p e.on)=(Bu md o).any p:=by
 unfold Bu
 rw [←Array.any_toList]
 induction o.after.toList with
 |nil=>rfl
 | cons e r ih=>
  rw [List.any_cons,ih,List.filter_cons]
  cases h:Region.binds md e<;>simp
theorem Bf:(rtab md ops).2.length=ops.size:=by simp [rtab]
theorem Br {o:Oper} (h:ops[i]? =some o):(rtab md ops).2[i]? =some (Bu md o,Cq md ops i o):=by
 have hi:=(Array.getElem?_eq_some_iff.1 h).1
 unfold rtab
 rw [List.getElem?_map,List.getElem?_range hi,Option.map_some,h]
theorem Bt (h:ops[i]? =none):(rtab md ops).2[i]? =none:=by
 have hi:ops.size≤i:=Array.getElem?_eq_none_iff.1 h
 exact List.getElem?_eq_none (by rw [Bf]; exact hi)
theorem DI:Bg (rtab md ops).2 l.toList i=(!l.getD i true&&((ops[i]?).map (·.after.all fun e=> !Region.binds md e||l.getD e.on false)).getD false):=by
 unfold Bg
 rw [gd]
 cases h:ops[i]? with
 |none=>rw [Bt h]; rfl
 | some o=>
  rw [Br h]
  simp only [Option.map_some,Option.getD_some]
  rw [←Cl]
  simp only [gd]
theorem C6:Region.ready md ops l=C9 (rtab md ops).2 l.toList:=by
 unfold Region.ready C9
 rw [Bf]
 refine List.filter_congr (fun i _=> ?_)
 rw [DI]
theorem DX:Region.free md ops l i=D6 (rtab md ops).2 l.toList i:=by
 unfold Region.free D6
 cases h:ops[i]? with
 |none=>rw [Bt h]
 | some oi=>
  rw [Br h]
  simp only [Cq]
  rw [List.all_filter]
  congr 1
  funext j
  rw [gd]
  cases hj:ops[j]? with
  |none=>cases (j==i)<;>cases (l.toList.getD j true)<;>simp
  | some oj=>
   cases (j==i)<;>cases (l.toList.getD j true)<;>cases (oj.after.any (fun e=>Region.binds md e&&e.on==i)||oi.apart ops oj)<;>simp_all
theorem Di:Region.closedB md ops l=CI (rtab md ops).2 l.toList:=by
 unfold Region.closedB CI
 rw [Bf]
 congr 1
 funext j
 rw [gd]
 cases h:ops[j]? with
 |none=>rw [Bt h]
 | some o=>
  rw [Br h]
  simp only
  rw [←Cl]
  simp only [gd]
theorem D3:∀(fuel d:Nat),Region.reachB md ops i fuel d=CA (rtab md ops).2 i fuel d
 |0,_=>rfl
 | fuel+1,d=>by
  unfold Region.reachB CA
  cases h:ops[d]? with
  |none=>rw [Bt h]
  | some o=>
   rw [Br h]
   simp only
   rw [←Dg]
   congr 1
   funext e
   rw [D3 fuel]
theorem last_eq:Region.lastB md ops l ds i=DW (rtab md ops).2 l.toList ds i:=by
 unfold Region.lastB DW
 rw [Bf]
 congr 1
 funext d
 rw [gd,D3]
theorem CE (h:Bg T.2 l.toList i=true) (hT:rtab md ops=T):(Region.ready md ops l).contains i=true:=by
 subst hT
 rw [C6]
 unfold C9
 rw [List.contains_iff_mem,List.mem_filter,List.mem_range]
 refine ⟨?_,h⟩
 unfold Bg at h
 rw [Bool.and_eq_true] at h
 cases hq:(rtab md ops).2[i]? with
 |none=>rw [hq] at h; simp at h
 |some r=>exact (List.getElem?_eq_some_iff.1 hq).1
theorem CN (h:(l.toList.set i true==l'.toList)=true):(l.setIfInBounds i true==l')=true:=by
 rw [beq_iff_eq] at h ⊢
 apply Array.ext'
 rw [Array.toList_setIfInBounds]
 exact h
def anyT (T:Bool×List (List Nat×List Nat)) (l l':List Bool) (i:Nat):Bool:=T.1&&D6 T.2 l i&&Bg T.2 l i&&(l.set i true==l')
theorem AK (hT:rtab md ops=T) (h:anyT T l.toList l'.toList i=true):anyB md ops l l' i=true:=by
 simp only [anyT,Bool.and_eq_true] at h
 obtain ⟨⟨⟨h1,h2⟩,h3⟩,h4⟩:=h
 have h5:=CE h3 hT
 have h6:=CN h4
 subst hT
 simp only [anyB,Bool.and_eq_true]
 exact ⟨⟨⟨h1,by rw [DX]; exact h2⟩,h5⟩,h6⟩
def Dn (T:Bool×List (List Nat×List Nat)) (ds:List Nat) (l l':List Bool) (i:Nat):Bool:=T.1&&D6 T.2 l i&&Bg T.2 l i&&CI T.2 l&&DW T.2 l ds i&&(l.set i true==l')
theorem take_of (hT:rtab md ops=T) (h:Dn T ds l.toList l'.toList i=true):Cw md ops ds l l' i=true:=by
 simp only [Dn,Bool.and_eq_true] at h
 obtain ⟨⟨⟨⟨⟨h1,h2⟩,h3⟩,h4⟩,h5⟩,h6⟩:=h
 have h7:=CE h3 hT
 have h8:=CN h6
 subst hT
 simp only [Cw,Bool.and_eq_true]
 exact ⟨⟨⟨⟨⟨h1,by rw [DX]; exact h2⟩,h7⟩,by rw [Di]; exact h4⟩,by rw [last_eq]; exact h5⟩,h8⟩
theorem B7 (hT:rtab md ops=T) (h:(C9 T.2 l.toList==[i]&&l.toList.set i true==l'.toList)=true):Co md ops l l' i=true:=by
 simp only [Bool.and_eq_true] at h
 obtain ⟨h1,h2⟩:=h
 subst hT
 simp only [Co,Bool.and_eq_true]
 exact ⟨by rw [C6]; exact h1,CN h2⟩
theorem Dm (hT:rtab md ops=T) (h:(C9 T.2 l.toList==[i,j]&&l.toList.set i true==li.toList&&l.toList.set j true==lj.toList)=true):(Region.ready md ops l==[i,j]&&l.setIfInBounds i true==li&&l.setIfInBounds j true==lj)=true:=by
 simp only [Bool.and_eq_true] at h ⊢
 obtain ⟨⟨h1,h2⟩,h3⟩:=h
 subst hT
 exact ⟨⟨by rw [C6]; exact h1,CN h2⟩,CN h3⟩
theorem BA (hT:rtab md ops=T) (h:(C9 T.2 l.toList==[])=true):(Region.ready md ops l==[])=true:=by
 subst hT
 rw [C6]
 exact h
def upM (B:List Nat) (d:Nat):List Nat→Nat
 |[]=>0
 |n::r=>(2^n|||(if n<d then B.getD n 0 else 0))|||upM B d r
def Be (T:List (List Nat×List Nat)) (B:List Nat):Bool:=(List.range T.length).all fun d=>match T[d]? with
 |some r=>(B.getD d 0|||upM B d r.1)==upM B d r.1
 |none=>false
theorem DR {B:List Nat} {d i:Nat} :∀ {ns:List Nat},(upM B d ns).testBit i=true→∃n∈ns,n=i∨(n<d∧(B.getD n 0).testBit i=true)
  |[],h=>by simp [upM] at h
  | n ::r,h=>by
    unfold upM at h
    rw [Nat.testBit_or,Nat.testBit_or,Bool.or_eq_true,Bool.or_eq_true] at h
    rcases h with (h|h)|h
    · rw [Nat.testBit_two_pow] at h
      exact ⟨n,List.mem_cons_self,.inl (by simpa using h)⟩
    · by_cases hn:n<d
      · rw [if_pos hn] at h
        exact ⟨n,List.mem_cons_self,.inr ⟨hn,h⟩⟩
      · rw [if_neg hn] at h
        simp at h
    · obtain ⟨m,hm,h2⟩:=DR h
      exact ⟨m,List.mem_cons_of_mem _ hm,h2⟩
theorem Ci {T:List (List Nat×List Nat)} {B:List Nat} (hB:Be T B=true):∀(fuel d:Nat),d<fuel→d<T.length→(B.getD d 0).testBit i=true→CA T i fuel d=true
 |0,d,h,_,_=>by omega
 | fuel+1,d,h,hd,hb=>by
  have h1:=List.all_eq_true.1 hB d (List.mem_range.2 hd)
  cases hr:T[d]? with
  |none=>rw [hr] at h1; simp at h1
  | some r=>
   rw [hr] at h1
   simp only [beq_iff_eq] at h1
   have h2:(upM B d r.1).testBit i=true:=by rw [←h1,Nat.testBit_or,hb,Bool.true_or]
   obtain ⟨n,hn,h3⟩:=DR h2
   unfold CA
   rw [hr]
   simp only
   rw [List.any_eq_true]
   refine ⟨n,hn,?_⟩
   rcases h3 with rfl|⟨h4,h5⟩
   ·simp
   ·rw [Ci hB fuel n (by omega) (by omega) h5,Bool.or_true]
def lastW (T:List (List Nat×List Nat)) (B:List Nat) (l:List Bool) (ds:List Nat) (i:Nat):Bool:=ds.all fun d=>l.getD d true||(decide (d<T.length)&&(B.getD d 0).testBit i)
def takeW (T:Bool×List (List Nat×List Nat)) (B:List Nat) (ds:List Nat) (l l':List Bool) (i:Nat):Bool:=T.1&&D6 T.2 l i&&Bg T.2 l i&&CI T.2 l&&lastW T.2 B l ds i&&(l.set i true==l')
theorem Ak {B:List Nat} (hT:rtab md ops=T) (hB:Be T.2 B=true) (h:takeW T B ds l.toList l'.toList i=true):Cw md ops ds l l' i=true:=by
 refine take_of hT ?_
 simp only [takeW,Dn,Bool.and_eq_true] at h ⊢
 obtain ⟨⟨⟨⟨⟨h1,h2⟩,h3⟩,h4⟩,h5⟩,h6⟩:=h
 refine ⟨⟨⟨⟨⟨h1,h2⟩,h3⟩,h4⟩,?_⟩,h6⟩
 unfold lastW at h5
 unfold DW
 rw [List.all_eq_true] at h5 ⊢
 intro d hd
 have h7:=h5 d hd
 rw [Bool.or_eq_true,Bool.and_eq_true,decide_eq_true_eq] at h7
 rcases h7 with h7|⟨h8,h9⟩
 ·rw [h7,Bool.true_or]
 ·rw [Ci hB _ d h8 h8 h9,Bool.or_true]
theorem B4 {P:Program} {Q:Exit→Act→World→Prop} {S:World→Prop} {n:Nat} {a:Act} {w:World} {B:List Nat} (hT:rtab md ops=T) (hB:Be T.2 B=true) (h:Aside0 (rtab md ops=T)→Aside0 (Be T.2 B=true)→Au P md ops Q S ds n l a w):Au P md ops Q S ds n l a w:=h ⟨hT⟩ ⟨hB⟩
end
def Bo:Code→Nat→Option (Array Oper)
 | .region id ops _,k=>if id==k then some ops else none
 | .seq a b,k=>match Bo a k with
  |some o=>some o
  |none=>Bo b k
 | .cond _ a b,k=>match Bo a k with
  |some o=>some o
  |none=>Bo b k
 | .block _ c,k=>Bo c k
 | .loop c,k=>Bo c k
 | .scope c,k=>Bo c k
 | .rangeFunc _ _ a b,k=>match Bo a k with
  |some o=>some o
  |none=>Bo b k
 |_,_=>none
def Ck (f:Func) (k:Nat):Array Oper:=((f.body.bind fun c=>Bo c k)).getD #[]
end Go.Proofs.YtgfjidlckocflaaDoorW.PrintLast
end
section
namespace Go.Proofs.YtgfjidlckocflaaDoorW.PrintWords
set_option maxRecDepth 100000
open Go.RowKit
namespace Kd
def tag {α:Type} (f:Nat→Nat) (d:Kd α):Kd (α×Nat) where
 sz:=d.sz
 E:=d.E
 K:=fun w x cs=>d.K w x.1 cs
 M:=fun w base ok x cs=>d.M w base (fun k=>ok k∧f k=x.2) x.1 cs
 K_len:=fun h=>d.K_len h
 K_one:=fun h=>d.K_one h
 K_below:=fun hb h=>d.K_below hb h
 K_of_M:=fun h=>d.K_of_M h
 M_mono:=fun hok h=>d.M_mono (fun k hk=>⟨hok k hk.1,hk.2⟩) h
 M_bound:=fun h=>d.M_mono (fun _ hk=>⟨⟨hk.1.1,hk.2⟩,hk.1.2⟩) (d.M_bound h)
 M_move:=fun hm h=>d.M_move (fun k hk=>hm k hk.1) h
 M_lower:=fun hb h=>d.M_lower hb h
def raw (sz:Nat):Kd (List Value) where
 sz:=sz
 E:=[]
 K:=fun _ x cs=>cs=x∧cs.length=sz∧∀u∈cs,u.oneCell'=true
 M:=fun _ _ _ x cs=>cs=x∧cs.length=sz∧∀u∈cs,u.oneCell'=true
 K_len:=fun h=>h.2.1
 K_one:=fun h=>h.2.2
 K_below:=fun _ h=>h
 K_of_M:=fun h=>h
 M_mono:=fun _ h=>h
 M_bound:=fun h=>h
 M_move:=fun _ h=>h
 M_lower:=fun _ h=>h
def S {α:Type} (d:Kd α) (e:Nat) (w:World) (base:Nat) (ok:Nat→Prop) (v:Value) (xs:List α):Prop:=∃f,(tag f d).R e w base ok v xs.zipIdx
section
variable {α β:Type} {d:Kd α} {d':Kd β} {e e':Nat} {w w1 W:World} {base b:Nat} {ok ok' okv oku:Nat→Prop} {u v:Value} {xs:List α} {ys:List β}
theorem S_nil (d:Kd α) (e:Nat) (w:World) (base:Nat) (ok:Nat→Prop):S d e w base ok (.slice none 0 0) []:=⟨fun _=>0,R_nil _ _ _ _ _⟩
end
section
variable {α β:Type} {d:Kd α} {d':Kd β} {e e' g:Nat} {w w1 W:World} {base b:Nat} {ok ok' okv oku:Nat→Prop} {u v:Value} {xs:List α} {ys:List β}
end
section
variable {P:Program} {ops:Array Oper} {rest:List Oper} {o:Oper} {a:Act} {Q:Exit→Act→World→Prop} {Kc:Act→World→Prop} {α:Type}
end
def gap {α:Type} (f:Nat→Nat) (d:Kd α) (i:Nat) (c:List Value):Kd (α×Nat) where
 sz:=d.sz
 E:=d.E
 K:=fun w x cs=>(x.2=i→cs=c∧cs.length=d.sz∧∀u∈cs,u.oneCell'=true)∧(x.2≠i→d.K w x.1 cs)
 M:=fun w base ok x cs=>(x.2=i→cs=c∧cs.length=d.sz∧∀u∈cs,u.oneCell'=true)∧(x.2≠i→d.M w base (fun k=>ok k∧f k=x.2) x.1 cs)
 K_len:=fun {w x cs} h=>by
  by_cases hx:x.2=i
  ·exact (h.1 hx).2.1
  ·exact d.K_len (h.2 hx)
 K_one:=fun {w x cs} h=>by
  by_cases hx:x.2=i
  ·exact (h.1 hx).2.2
  ·exact d.K_one (h.2 hx)
 K_below:=fun hb h=>⟨h.1,fun hx=>d.K_below hb (h.2 hx)⟩
 K_of_M:=fun h=>⟨h.1,fun hx=>d.K_of_M (h.2 hx)⟩
 M_mono:=fun hok h=>⟨h.1,fun hx=>d.M_mono (fun k hk=>⟨hok k hk.1,hk.2⟩) (h.2 hx)⟩
 M_bound:=fun h=>⟨h.1,fun hx=>d.M_mono (fun _ hk=>⟨⟨hk.1.1,hk.2⟩,hk.1.2⟩) (d.M_bound (h.2 hx))⟩
 M_move:=fun hm h=>⟨h.1,fun hx=>d.M_move (fun k hk=>hm k hk.1) (h.2 hx)⟩
 M_lower:=fun hb h=>⟨h.1,fun hx=>d.M_lower hb (h.2 hx)⟩
def H {α:Type} (d:Kd α) (e:Nat) (w:World) (base:Nat) (ok:Nat→Prop) (v:Value) (xs:List α) (i:Int) (oki:Nat→Prop) (c:List Value):Prop:=
 (∀k,oki k→ok k)∧∃f,(gap f d i.toNat c).R e w base (fun k=>ok k∧¬oki k) v xs.zipIdx
section
variable {α β:Type} {d:Kd α} {e e' g n cap:Nat} {w w1 W:World} {base:Nat} {ok ok' oki okp:Nat→Prop} {u v:Value} {xs:List α} {i:Int} {c:List Value}
end
section
variable {P:Program} {ops:Array Oper} {rest:List Oper} {o:Oper} {a:Act} {Q:Exit→Act→World→Prop} {α:Type}
end
end Kd
end Go.Proofs.YtgfjidlckocflaaDoorW.PrintWords
end
section
namespace Go.Proofs.YtgfjidlckocflaaDoorW.PrintWords
set_option maxRecDepth 100000
open Go.RowKit
namespace Kd
structure Heap {α:Type} (d:Kd α):Prop where
 K:∀ {w w1:World} {x:α} {cs:List Value},(∀k,k<w.heap.size→w1.heap[k]? =w.heap[k]?)→d.K w x cs→d.K w1 x cs
section
variable {α:Type} {d:Kd α} {e base g n c:Nat} {ok:Nat→Prop} {w w0 W:World} {A:Option Addr} {xs:List α}
end
end Kd
end Go.Proofs.YtgfjidlckocflaaDoorW.PrintWords
end
section
namespace Go.Proofs.YtgfjidlckocflaaDoorW.PrintWords
set_option maxRecDepth 100000
open Go.RowKit
def Foot (P:World→Prop) (W:World) (ok:Nat→Prop):Prop:=∀W':World,(∀k,ok k→k<W.heap.size→W'.heap[k]? =W.heap[k]?)→P W'
theorem heap_lt {W W1:World} {k:Nat} (h:W1.heap[k]? =W.heap[k]?) (hlt:k<W.heap.size):k<W1.heap.size:=by
 rw [Array.getElem?_eq_getElem hlt] at h
 exact (Array.getElem?_eq_some_iff.1 h).1
namespace Foot
variable {P Q:World→Prop} {W W1:World} {ok ok':Nat→Prop}
theorem now (h:Foot P W ok):P W:=h W (fun _ _ _=>rfl)
theorem mono (h:Foot P W ok) (hok:∀k,ok k→ok' k):Foot P W ok':=fun W' hW=>h W' (fun k hk hlt=>hW k (hok k hk) hlt)
theorem step (h:Foot P W ok) (hm:∀k,ok k→k<W.heap.size→W1.heap[k]? =W.heap[k]?):Foot P W1 ok:=fun W' hW=>h W' (fun k hk hlt=>(hW k hk (heap_lt (hm k hk hlt) hlt)).trans (hm k hk hlt))
theorem imp (h:Foot P W ok) (hi:∀W',P W'→Q W'):Foot Q W ok:=fun W' hW=>hi W' (h W' hW)
end Foot
namespace Kd
def F {α:Type} (d:Kd α) (W:World) (ok:Nat→Prop) (A:Option Addr) (n:Nat) (xs:List α):Prop:=Foot (fun W=>d.C W A n xs) W ok
def FK {α:Type} (d:Kd α) (W:World) (ok:Nat→Prop) (x:α) (c:List Value):Prop:=Foot (fun W=>d.K W x c) W ok
section
variable {α β:Type} {d:Kd α} {e base n n' cc g N:Nat} {ok ok' okp S:Nat→Prop} {w w0 w1 W W1:World} {A A':Option Addr} {u v v1:Value} {xs:List α} {xs':List β} {d':Kd β} {x:α} {c:List Value}
theorem F_nil (d:Kd α) (W:World) (ok:Nat→Prop):F d W ok none ([]:List α).length []:=fun W' _=>C_nil d W'
theorem FK_of_M (h:d.M W base ok x c):FK d W ok x c:=fun _ hW=>d.K_of_M (EE h hW)
end
end Kd
end Go.Proofs.YtgfjidlckocflaaDoorW.PrintWords
end
section
namespace Go.Proofs.YtgfjidlckocflaaDoorW.PrintWords
set_option maxRecDepth 100000
open Go.RowKit
namespace Kd
def chunks (sz:Nat) (n:Nat) (inner:List Value):List (List Value):=(List.range n).map fun j=>(inner.drop (j*sz)).take sz
theorem BS (sz n:Nat) (inner:List Value):(chunks sz n inner).length=n:=by simp [chunks]
theorem Dj {sz n:Nat} {inner:List Value} {j:Nat} (hj:j<n):(chunks sz n inner)[j]? =some ((inner.drop (j*sz)).take sz):=by simp [chunks,hj]
theorem CX {sz n:Nat} {inner:List Value} {j:Nat} {c:List Value} (h:(chunks sz n inner)[j]? =some c):c=(inner.drop (j*sz)).take sz:=by
 have hj:j<n:=by have:=(List.getElem?_eq_some_iff.1 h).1; rwa [BS] at this
 rw [Dj hj] at h
 injection h with h
 exact h.symm
theorem Dt {α:Type} {Rr:α→List Value→Prop} {sz:Nat} {xs:List α} {inner:List Value} (h:Reps Rr sz xs inner) (hR:∀x c,Rr x c→c.length=sz∧∀u∈c,u.oneCell'=true):Reps (fun x cs=>cs=x∧cs.length=sz∧∀u∈cs,u.oneCell'=true) sz (chunks sz xs.length inner) inner:=by
 refine ⟨by rw [BS]; exact h.1,fun j p hj=> ?_⟩
 have hjl:j<xs.length:=by have:=(List.getElem?_eq_some_iff.1 hj).1; rwa [BS] at this
 have hp:=CX hj
 exact ⟨hp.symm,hR _ _ (h.2 j _ (List.getElem?_eq_getElem hjl))⟩
section
variable {α:Type} {d:Kd α} {e base n cc g:Nat} {ok ok' okp S:Nat→Prop} {w w1 W W1:World} {A:Option Addr} {u v v1:Value} {xs:List α} {x:α} {c:List Value}
def N {α:Type} (d:Kd α) (e:Nat) (w:World) (base:Nat) (ok:Nat→Prop) (v:Value) (xs:List α):Prop:=
 (∀k,v.ownBlock=some k→ok k)∧∃rows:List (List Value),rows.length=xs.length∧(raw d.sz).R e w base (fun k=>some k=v.ownBlock) v rows∧∀(j:Nat) (x:α) (c:List Value),xs[j]? =some x→rows[j]? =some c→FK d w (fun k=>ok k∧some k≠v.ownBlock) x c
theorem R_N (h:d.R e w base ok v xs):N d e w base ok v xs:=by
 obtain ⟨h0,inner,ho,hr⟩:=h
 refine ⟨h0,chunks d.sz xs.length inner,BS _ _ _,⟨fun k hk=>hk.symm,inner,by rw [BS]; exact ho,Dt hr (fun x c hp=>⟨d.K_len (d.K_of_M hp),d.K_one (d.K_of_M hp)⟩)⟩,fun j x c hx hc=> ?_⟩
 rw [CX hc]
 exact FK_of_M (hr.2 j x hx)
theorem N_nil (d:Kd α) (e:Nat) (w:World) (base:Nat) (ok:Nat→Prop):N d e w base ok (.slice none 0 0) []:=R_N (R_nil _ _ _ _ _)
end
end Kd
end Go.Proofs.YtgfjidlckocflaaDoorW.PrintWords
end
section
namespace Go.Proofs.YtgfjidlckocflaaDoorW.PrintWords
set_option maxRecDepth 100000
theorem Reps.one {α:Type} {R:α→List Value→Prop} {ps:List α} {cs:List Value} {p:α} {v:Value} (hp:R p [v]) (h:Reps R 1 ps cs):Reps R 1 (p::ps) (v::cs):=by
 refine ⟨by simp [h.1],fun j q hq=> ?_⟩
 cases j with
 | zero=>
  simp only [List.getElem?_cons_zero,Option.some.injEq] at hq
  subst hq
  simpa using hp
 | succ j=>
  simp only [List.getElem?_cons_succ] at hq
  have h1:=h.2 j q hq
  simpa [Nat.mul_one] using h1
end Go.Proofs.YtgfjidlckocflaaDoorW.PrintWords
end
section
namespace Go.Proofs.YtgfjidlckocflaaDoorW.PrintLast
set_option maxRecDepth 100000
def up (b:Nat→Bool) (i:Nat):Nat→Bool:=fun j=>if j=i then true else b j
section
variable {P:Program} {ops:Array Oper} {Q:Exit→Act→World→Prop} {md:Region.Mode} {T:Bool×List (List Nat×List Nat)} {B:List Nat} {O:List Nat} {b:Nat→Bool} {i j n:Nat}
end
end Go.Proofs.YtgfjidlckocflaaDoorW.PrintLast
end
section
namespace Go.Proofs.YtgfjidlckocflaaDoorW.PrintWords
set_option maxRecDepth 100000
open Go.RowKit
section
variable {P:Program} {ops:Array Oper} {rest:List Oper} {o:Oper} {a:Act} {Q:Exit→Act→World→Prop} {W:World}
theorem BF (hw:Region.wanted o (yielded ops a.tmps)=true) (h:wpList P ops Q ({o with guard:=none} ::rest) a W):wpList P ops Q (o::rest) a W:=by
 have h1:Region.wanted {o with guard:=none} (yielded ops a.tmps)=true:=rfl
 unfold wpList at h ⊢
 rw [if_pos h1] at h
 rw [if_pos hw]
 exact h
end
end Go.Proofs.YtgfjidlckocflaaDoorW.PrintWords
end
section
namespace Go.Proofs.YtgfjidlckocflaaDoorW.PrintMore
set_option maxRecDepth 100000
open Go.RowKit Go.Proofs.YtgfjidlckocflaaDoorW.PrintWords
namespace Kd
open Go.Proofs.YtgfjidlckocflaaDoorW.PrintWords.Kd
end Kd
namespace Kd
open Go.Proofs.YtgfjidlckocflaaDoorW.PrintWords.Kd
section
variable {α:Type} {d:Kd α} {e base g N:Nat} {ok:Nat→Prop} {W w1:World} {u v:Value} {xs:List α}
end
end Kd
theorem BM (k k':IntKind) (x y:Int):Builtin.max2 (.int k x) (.int k' y)=pure (.int k (if x<y then y else x)):=by simp only [Builtin.max2,gt_iff_lt]
theorem BK (k k':IntKind) (x y:Int):Builtin.min2 (.int k x) (.int k' y)=pure (.int k (if y<x then y else x)):=by simp only [Builtin.min2]
theorem BV (ats:Array TypeId) (ty:TypeId) (a b:Value):Builtin.max_ ats ty #[a,b]=(Builtin.max2 a b>>=fun s=>pure s):=by simp only [Builtin.max_,List.foldlM_cons,List.foldlM_nil]
theorem BU (ats:Array TypeId) (ty:TypeId) (a b:Value):Builtin.min_ ats ty #[a,b]=(Builtin.min2 a b>>=fun s=>pure s):=by simp only [Builtin.min_,List.foldlM_cons,List.foldlM_nil]
theorem BD (ats:Array TypeId) (ty:TypeId) (a b c:Value):Builtin.max_ ats ty #[a,b,c]=(Builtin.max2 a b>>=fun s=>Builtin.max2 s c>>=fun s=>pure s):=by simp only [Builtin.max_,List.foldlM_cons,List.foldlM_nil]
theorem BC (ats:Array TypeId) (ty:TypeId) (a b c:Value):Builtin.min_ ats ty #[a,b,c]=(Builtin.min2 a b>>=fun s=>Builtin.min2 s c>>=fun s=>pure s):=by simp only [Builtin.min_,List.foldlM_cons,List.foldlM_nil]
theorem BL (ats:Array TypeId) (ty:TypeId) (a b c d:Value):Builtin.max_ ats ty #[a,b,c,d]=(Builtin.max2 a b>>=fun s=>Builtin.max2 s c>>=fun s=>Builtin.max2 s d>>=fun s=>pure s):=by simp only [Builtin.max_,List.foldlM_cons,List.foldlM_nil]
theorem BJ (ats:Array TypeId) (ty:TypeId) (a b c d:Value):Builtin.min_ ats ty #[a,b,c,d]=(Builtin.min2 a b>>=fun s=>Builtin.min2 s c>>=fun s=>Builtin.min2 s d>>=fun s=>pure s):=by simp only [Builtin.min_,List.foldlM_cons,List.foldlM_nil]
end Go.Proofs.YtgfjidlckocflaaDoorW.PrintMore
namespace Go.Proofs.YtgfjidlckocflaaDoorW.PrintWords
set_option maxRecDepth 100000
open Go.RowKit
section
variable {P:Program} {ops:Array Oper} {rest:List Oper} {o:Oper} {a:Act} {Q:Exit→Act→World→Prop} {W:World}
theorem AQ {f:FuncId} {azz:Array Operand} {ts:Array TypeId} (_ho:o.op= .call {callee:= .value (.func f),args:=azz,argTypes:=ts}) (h:wpList P ops Q (o::rest) a W):wpList P ops Q (o::rest) a W:=h
theorem Bh {b:Builtin} {xs:Array Operand} {ts:Array TypeId} (_ho:o.op= .call {callee:= .builtin b,args:=xs,argTypes:=ts}) (h:wpList P ops Q (o::rest) a W):wpList P ops Q (o::rest) a W:=h
end
def mx (a b:Int):Int:=if a<b then b else a
namespace Kd
section
variable {α:Type} {d:Kd α} {e base:Nat} {ok:Nat→Prop} {W w1:World} {v:Value} {xs:List α}
end
section
variable {α:Type} {d:Kd α} {e base g n cap:Nat} {ok oki okp:Nat→Prop} {W:World} {xs:List α} {i:Int} {c:List Value}
end
section
variable {α:Type} {d:Kd α} {e base b b' g N:Nat} {ok ok1:Nat→Prop} {W W2 w1:World} {u v:Value} {xs ys:List α} {S:Nat→Prop}
end
end Kd
end Go.Proofs.YtgfjidlckocflaaDoorW.PrintWords
namespace Go.Proofs.YtgfjidlckocflaaDoorW.PrintWords
set_option maxRecDepth 100000
open Go.RowKit
namespace Kd
def V {α:Type} (d:Kd α) (_e:Nat) (W:World) (_base:Nat) (ok:Nat→Prop) (v:Value) (xs:List α):Prop:=∃A c,v= .slice A xs.length c∧xs.length≤c∧F d W ok A xs.length xs
section
variable {α β:Type} {d:Kd α} {e base base' n m c g N' lo hi:Nat} {ok ok' S:Nat→Prop} {w W w1:World} {A:Option Addr} {ad:Addr} {u v v1:Value} {xs:List α}
theorem V_nil (d:Kd α) (e:Nat) (W:World) (base:Nat) (ok:Nat→Prop):V d e W base ok (.slice none 0 0) []:=⟨none,0,rfl,Nat.le_refl _,F_nil d W ok⟩
end
end Kd
end Go.Proofs.YtgfjidlckocflaaDoorW.PrintWords
end
section
namespace Go.Proofs.YtgfjidlckocflaaDoor.PAll
set_option maxRecDepth 100000
open Go.RowKit Go.Proofs.YtgfjidlckocflaaDoorW.PrintWords Go.Proofs.YtgfjidlckocflaaDoorW.PrintLast Go.Proofs.YtgfjidlckocflaaDoorW.PrintMore
attribute [local go_sem] BM BK BV BU BD BC BL BJ
def errW:Option Int→Value
 |none=> .nilIface
 |some c=> .iface 0 (.int .i64 c)
theorem AS:errW none= .nilIface:=rfl
theorem AR (c:Int):errW (some c)= .iface 0 (.int .i64 c):=rfl
theorem info9:(Tryd.prog.info? 9).map (fun i=>(i.zero,i.size,i.bytes))=some (some (.string ⟨#[]⟩),1,16):=by kernel_rfl
theorem info33:(Tryd.prog.info? 33).map (fun i=>(i.zero,i.size,i.bytes))=some (some (.agg #[(.int .i64 0),(.int .i64 0),(.int .i64 0)]),3,24):=by kernel_rfl
structure S33 where
 f0:Int
 f1:Int
 f2:Int
def z33:S33:=⟨(0:Int),(0:Int),(0:Int)⟩
def k33:Kd S33:=Kd.iso (Kd.pair (Kd.int .i64) (Kd.pair (Kd.int .i64) (Kd.int .i64))) (fun x:S33=>(x.f0,x.f1,x.f2))
theorem E6 {w:World} {x:S33} {cs:List Value} (h:k33.K w x cs):cs=[.int .i64 x.f0,.int .i64 x.f1,.int .i64 x.f2]:=by
 obtain ⟨_,_,rfl,rfl,⟨_,_,rfl,rfl,rfl⟩⟩:=h
 exact rfl
theorem Dh {w:World} {base:Nat} {ok:Nat→Prop} {x:S33} {cs:List Value} (h:k33.M w base ok x cs):cs=[.int .i64 x.f0,.int .i64 x.f1,.int .i64 x.f2]:=by
 obtain ⟨_,_,rfl,rfl,⟨_,_,rfl,rfl,rfl⟩⟩:=h
 exact rfl
theorem E7 (w:World) (x:S33):k33.K w x [.int .i64 x.f0,.int .i64 x.f1,.int .i64 x.f2]:=⟨[.int .i64 x.f0],[.int .i64 x.f1,.int .i64 x.f2],rfl,rfl,⟨[.int .i64 x.f1],[.int .i64 x.f2],rfl,rfl,rfl⟩⟩
theorem k33_mkM (w:World) (base:Nat) (ok:Nat→Prop) (x:S33):k33.M w base ok x [.int .i64 x.f0,.int .i64 x.f1,.int .i64 x.f2]:=⟨[.int .i64 x.f0],[.int .i64 x.f1,.int .i64 x.f2],rfl,rfl,⟨[.int .i64 x.f1],[.int .i64 x.f2],rfl,rfl,rfl⟩⟩
def AW (xs:List S33) (i:Int):S33:=xs.getD i.toNat z33
theorem BG {w:World} {A:Option Addr} {n:Nat} {xs:List S33} (h:Kd.C k33 w A n xs) (i:Int) (h0:0≤i) (h1:i<n):∃ad,A=some ad∧w.cell? (ad.add (i.toNat*3))=some (.int .i64 (AW xs i).f0)∧w.cell? ⟨(ad.add (i.toNat*3)).block,(ad.add (i.toNat*3)).off+1,none⟩=some (.int .i64 (AW xs i).f1)∧w.cell? ⟨(ad.add (i.toNat*3)).block,(ad.add (i.toNat*3)).off+2,none⟩=some (.int .i64 (AW xs i).f2):=by
 obtain ⟨ad,c,e,_,hK,hc0⟩:=Kd.C_get h z33 i h0 h1
 have hc:∀j u,c[j]? =some u→w.cell? (ad.add (i.toNat*3+j))=some u:=hc0
 obtain rfl:=E6 hK
 exact ⟨ad,e,hc 0 _ rfl,by rw [←Cm _ _ 1 (by omega)]; exact hc 1 _ rfl,by rw [←Cm _ _ 2 (by omega)]; exact hc 2 _ rfl⟩
end Go.Proofs.YtgfjidlckocflaaDoor.PAll
end
section
namespace Go.Proofs.YtgfjidlckocflaaDoor.PAll
set_option maxRecDepth 100000
open Go.RowKit Go.Proofs.YtgfjidlckocflaaDoorW.PrintWords Go.Proofs.YtgfjidlckocflaaDoorW.PrintLast Go.Proofs.YtgfjidlckocflaaDoorW.PrintMore
attribute [local go_sem] BM BK BV BU BD BC BL BJ
def Aq.f (a0:Int):Option (Bool):=if a0≥1 then (some (decide (a0≤200))) else (some false)
set_option maxHeartbeats 8000000 in
theorem Aq.calls (a0:Int) (r:Bool) (w:World) (h:Aq.f a0=some r):
  Calls Tryd.prog 34 #[.int .i64 a0] w fun e w'=>e= .returned (.bool r)∧Drawn0 w w':=by
 have H:(if a0≥1 then (some (decide (a0≤200))) else (some false))=some r:=h
 clear h
 by_cases c2:a0≥1
 ·rw [if_pos c2] at H
  have c2b0:decide (1≤a0)=true:=decide_eq_true c2
  clear c2
  obtain rfl:=Option.some.inj H
  go_enter Tryd.func34,Tryd.ntmps34
  go_wp2
  go_ret
  exact ⟨by first|rfl|(simp; done)|(simp [*]; done),by repeat (first|exact Drawn0.refl _|apply Drawn0.step)⟩
 ·rw [if_neg c2] at H
  have c2b0:decide (1≤a0)=false:=decide_eq_false c2
  clear c2
  obtain rfl:=Option.some.inj H
  go_enter Tryd.func34,Tryd.ntmps34
  go_wp2
  go_ret
  exact ⟨by first|rfl|(simp; done)|(simp [*]; done),by repeat (first|exact Drawn0.refl _|apply Drawn0.step)⟩
def BH.f (a0:Int):Option (Int):=if (Int.tmod a0 24)<0 then (some (wrap64 ((Int.tmod a0 24)+24))) else (some (Int.tmod a0 24))
set_option maxHeartbeats 8000000 in
theorem BH.calls (a0:Int) (r:Int) (w:World) (h:BH.f a0=some r):
  Calls Tryd.prog 35 #[.int .i64 a0] w fun e w'=>e= .returned (.int .i64 r)∧Drawn0 w w':=by
 have H:(if (Int.tmod a0 24)<0 then (some (wrap64 ((Int.tmod a0 24)+24))) else (some (Int.tmod a0 24)))=some r:=h
 clear h
 by_cases c2:(Int.tmod a0 24)<0
 ·rw [if_pos c2] at H
  have c2b0:decide ((Int.tmod a0 24)<0)=true:=decide_eq_true c2
  clear c2
  obtain rfl:=Option.some.inj H
  go_enter Tryd.func35,Tryd.ntmps35
  go_wp2
  go_ret
  exact ⟨by first|rfl|(simp; done)|(simp [*]; done),by repeat (first|exact Drawn0.refl _|apply Drawn0.step)⟩
 ·rw [if_neg c2] at H
  have c2b0:decide ((Int.tmod a0 24)<0)=false:=decide_eq_false c2
  clear c2
  obtain rfl:=Option.some.inj H
  go_enter Tryd.func35,Tryd.ntmps35
  go_wp2
  go_ret
  exact ⟨by first|rfl|(simp; done)|(simp [*]; done),by repeat (first|exact Drawn0.refl _|apply Drawn0.step)⟩
def Ad.f (a0:Int) (a1:Int):Option (Int×Int×Int):=(Aq.f a1).bind fun t101=>(if t101=true then ((BH.f a0).bind fun t102=>(if (wrap64 (Int.tdiv (wrap64 (t102*a1)) 24))=0 then (some (a1,Int.tmod (wrap64 (t102*a1)) 24,0)) else (some (wrap64 (Int.tdiv (wrap64 (t102*a1)) 24),Int.tmod (wrap64 (t102*a1)) 24,0)))) else (some (0,0,2)))
set_option maxHeartbeats 8000000 in
theorem Ad.calls (a0:Int) (a1:Int) (r1:Int) (r2:Int) (r3:Int) (w:World) (h:Ad.f a0 a1=some (r1,r2,r3)):
  Calls Tryd.prog 11 #[.int .i64 a0,.int .i64 a1] w fun e w'=>e= .returned (.tuple #[.int .i64 r1,.int .i64 r2,.int .i64 r3])∧Drawn0 w w':=by
 have H:((Aq.f a1).bind fun t101=>(if t101=true then ((BH.f a0).bind fun t102=>(if (wrap64 (Int.tdiv (wrap64 (t102*a1)) 24))=0 then (some (a1,Int.tmod (wrap64 (t102*a1)) 24,0)) else (some (wrap64 (Int.tdiv (wrap64 (t102*a1)) 24),Int.tmod (wrap64 (t102*a1)) 24,0)))) else (some (0,0,2))))=some (r1,r2,r3):=h
 clear h
 replace H:=Option.bind_eq_some_iff.mp H
 obtain ⟨t101,A30,H⟩:=H
 replace H:(if t101=true then ((BH.f a0).bind fun t102=>(if (wrap64 (Int.tdiv (wrap64 (t102*a1)) 24))=0 then (some (a1,Int.tmod (wrap64 (t102*a1)) 24,0)) else (some (wrap64 (Int.tdiv (wrap64 (t102*a1)) 24),Int.tmod (wrap64 (t102*a1)) 24,0)))) else (some (0,0,2)))=some (r1,r2,r3):=H
 have A3:=Aside0.mk A30
 clear A30
 by_cases c4:t101=true
 ·subst c4
  have H1:((BH.f a0).bind fun t102=>(if (wrap64 (Int.tdiv (wrap64 (t102*a1)) 24))=0 then (some (a1,Int.tmod (wrap64 (t102*a1)) 24,0)) else (some (wrap64 (Int.tdiv (wrap64 (t102*a1)) 24),Int.tmod (wrap64 (t102*a1)) 24,0))))=some (r1,r2,r3):=by rw [if_pos rfl] at H; exact H
  clear H
  have H:=H1
  clear H1
  replace H:=Option.bind_eq_some_iff.mp H
  obtain ⟨t102,A50,H⟩:=H
  replace H:(if (wrap64 (Int.tdiv (wrap64 (t102*a1)) 24))=0 then (some (a1,Int.tmod (wrap64 (t102*a1)) 24,0)) else (some (wrap64 (Int.tdiv (wrap64 (t102*a1)) 24),Int.tmod (wrap64 (t102*a1)) 24,0)))=some (r1,r2,r3):=H
  have A5:=Aside0.mk A50
  clear A50
  by_cases c6:(wrap64 (Int.tdiv (wrap64 (t102*a1)) 24))=0
  ·rw [if_pos c6] at H
   have c6b0:((wrap64 (Int.tdiv (wrap64 (t102*a1)) 24))==0)=true:=beq_iff_eq.mpr c6
   have c6b1:((wrap64 (Int.tdiv (wrap64 (t102*a1)) 24)) !=0)=false:=bne_eq_false_iff_eq.mpr c6
   clear c6
   simp only [Option.some.injEq,Prod.mk.injEq] at H
   obtain ⟨rfl,rfl,rfl⟩:=H
   go_enter Tryd.func11,Tryd.ntmps11
   go_wp2_with (first|((with_reducible refine AQ (f:=34) rfl ?_); refine Ag (some 9) rfl rfl Tryd.func34 (by kernel_rfl) rfl #[.int .i64 a1] rfl (by (try simp only [List.map_toArray,List.map_cons,List.map_nil]); first|done|rfl|(simp only [List.length_drop,List.length_take]; rfl)) ?_; (with_reducible refine (Aq.calls a1 true _ A3.out).mono ?_); rintro e w' ⟨rfl,⟨nd,rfl⟩⟩; refine ⟨_,rfl,?_⟩)|((with_reducible refine AQ (f:=35) rfl ?_); refine Ag (some 12) rfl rfl Tryd.func35 (by kernel_rfl) rfl #[.int .i64 a0] rfl (by (try simp only [List.map_toArray,List.map_cons,List.map_nil]); first|done|rfl|(simp only [List.length_drop,List.length_take]; rfl)) ?_; (with_reducible refine (BH.calls a0 t102 _ A5.out).mono ?_); rintro e w' ⟨rfl,⟨nd,rfl⟩⟩; refine ⟨_,rfl,?_⟩))
   go_ret3
   exact ⟨by first|rfl|(simp; done)|(simp [*]; done),by repeat (first|exact Drawn0.refl _|apply Drawn0.step)⟩
  ·rw [if_neg c6] at H
   have c6b0:((wrap64 (Int.tdiv (wrap64 (t102*a1)) 24))==0)=false:=beq_eq_false_iff_ne.mpr c6
   have c6b1:((wrap64 (Int.tdiv (wrap64 (t102*a1)) 24)) !=0)=true:=bne_iff_ne.mpr c6
   simp only [Option.some.injEq,Prod.mk.injEq] at H
   obtain ⟨rfl,rfl,rfl⟩:=H
   go_enter Tryd.func11,Tryd.ntmps11
   go_wp2_with (first|((with_reducible refine AQ (f:=34) rfl ?_); refine Ag (some 9) rfl rfl Tryd.func34 (by kernel_rfl) rfl #[.int .i64 a1] rfl (by (try simp only [List.map_toArray,List.map_cons,List.map_nil]); first|done|rfl|(simp only [List.length_drop,List.length_take]; rfl)) ?_; (with_reducible refine (Aq.calls a1 true _ A3.out).mono ?_); rintro e w' ⟨rfl,⟨nd,rfl⟩⟩; refine ⟨_,rfl,?_⟩)|((with_reducible refine AQ (f:=35) rfl ?_); refine Ag (some 12) rfl rfl Tryd.func35 (by kernel_rfl) rfl #[.int .i64 a0] rfl (by (try simp only [List.map_toArray,List.map_cons,List.map_nil]); first|done|rfl|(simp only [List.length_drop,List.length_take]; rfl)) ?_; (with_reducible refine (BH.calls a0 t102 _ A5.out).mono ?_); rintro e w' ⟨rfl,⟨nd,rfl⟩⟩; refine ⟨_,rfl,?_⟩))
   go_ret3
   exact ⟨by first|rfl|(simp; done)|(simp [*]; done),by repeat (first|exact Drawn0.refl _|apply Drawn0.step)⟩
 ·replace c4:=Bool.eq_false_iff.mpr c4
  subst c4
  have H1:(some (0,0,2))=some (r1,r2,r3):=by rw [if_neg (show ¬(false=true) by decide)] at H; exact H
  clear H
  have H:=H1
  clear H1
  simp only [Option.some.injEq,Prod.mk.injEq] at H
  obtain ⟨rfl,rfl,rfl⟩:=H
  go_enter Tryd.func11,Tryd.ntmps11
  go_wp2_with (first|((with_reducible refine AQ (f:=34) rfl ?_); refine Ag (some 9) rfl rfl Tryd.func34 (by kernel_rfl) rfl #[.int .i64 a1] rfl (by (try simp only [List.map_toArray,List.map_cons,List.map_nil]); first|done|rfl|(simp only [List.length_drop,List.length_take]; rfl)) ?_; (with_reducible refine (Aq.calls a1 false _ A3.out).mono ?_); rintro e w' ⟨rfl,⟨nd,rfl⟩⟩; refine ⟨_,rfl,?_⟩))
  go_ret3
  exact ⟨by first|rfl|(simp; done)|(simp [*]; done),by repeat (first|exact Drawn0.refl _|apply Drawn0.step)⟩
mutual
def AU.j0:Nat→Int→Int→Int→Bool→Option (Int×Int)
 |0,_,_,_,_=>none
 |k+1,x0,x1,x2,x31=>if x31=true then (some (0,2)) else (AU.l0 k x0 x1 x2 0)
def AU.l0:Nat→Int→Int→Int→Int→Option (Int×Int)
 |0,_,_,_,_=>none
 |k+1,x0,x1,x2,x32=>if x32<24 then ((Ad.f x32 x2).bind fun bt104=>(if bt104.1=x0 then (if bt104.2.1=x1 then (some (x32,0)) else (AU.l0 k x0 x1 x2 (wrap64 (x32+1)))) else (AU.l0 k x0 x1 x2 (wrap64 (x32+1))))) else (some (0,7))
end
def AU.f (k:Nat) (a0:Int) (a1:Int) (a2:Int):Option (Int×Int):=(Aq.f a2).bind fun t103=>(if t103=true then (if a0<1 then (AU.j0 k a0 a1 a2 true) else (if a0>a2 then (AU.j0 k a0 a1 a2 true) else (if a1<0 then (AU.j0 k a0 a1 a2 true) else (AU.j0 k a0 a1 a2 (decide (a1≥24)))))) else (AU.j0 k a0 a1 a2 true))
theorem AU.mono_l:∀k,(∀y0 y1 y2 y3,LeO (AU.j0 k y0 y1 y2 y3) (AU.j0 (k+1) y0 y1 y2 y3))∧(∀y0 y1 y2 y3,LeO (AU.l0 k y0 y1 y2 y3) (AU.l0 (k+1) y0 y1 y2 y3))
 |0=>⟨fun _ _ _ _ r h=>by simp [AU.j0] at h,fun _ _ _ _ r h=>by simp [AU.l0] at h⟩
 | k +1=>by
  obtain ⟨ih0,ih1⟩:=AU.mono_l k
  refine ⟨?_,?_⟩
  ·intro y0 y1 y2 y3
   unfold AU.j0
   repeat' first
   |(with_reducible exact ih0 _ _ _ _)
   |(with_reducible exact ih1 _ _ _ _)
   |(with_reducible exact LeO.refl _)
   |(with_reducible exact LeO.none _)
   |(with_reducible refine LeO.ite ?_ ?_)
   |(with_reducible refine LeO.bind ?_ (fun _=> ?_))
   |exact ih0 _ _ _ _
   |exact ih1 _ _ _ _
   |exact LeO.none _
   |refine LeO.ite ?_ ?_
   |refine LeO.bind ?_ (fun _=> ?_)
  ·intro y0 y1 y2 y3
   unfold AU.l0
   repeat' first
   |(with_reducible exact ih0 _ _ _ _)
   |(with_reducible exact ih1 _ _ _ _)
   |(with_reducible exact LeO.refl _)
   |(with_reducible exact LeO.none _)
   |(with_reducible refine LeO.ite ?_ ?_)
   |(with_reducible refine LeO.bind ?_ (fun _=> ?_))
   |exact ih0 _ _ _ _
   |exact ih1 _ _ _ _
   |exact LeO.none _
   |refine LeO.ite ?_ ?_
   |refine LeO.bind ?_ (fun _=> ?_)
theorem AU.mono:∀a0 a1 a2 k,LeO (AU.f k a0 a1 a2) (AU.f (k+1) a0 a1 a2):=by
 intro a0 a1 a2 k
 obtain ⟨ih0,ih1⟩:=AU.mono_l k
 unfold AU.f
 repeat' first
  |(with_reducible exact ih0 _ _ _ _)
  |(with_reducible exact ih1 _ _ _ _)
  |(with_reducible exact LeO.refl _)
  |(with_reducible exact LeO.none _)
  |(with_reducible refine LeO.ite ?_ ?_)
  |(with_reducible refine LeO.bind ?_ (fun _=> ?_))
  |exact ih0 _ _ _ _
  |exact ih1 _ _ _ _
  |exact LeO.none _
  |refine LeO.ite ?_ ?_
  |refine LeO.bind ?_ (fun _=> ?_)
set_option maxHeartbeats 8000000 in
theorem AU.calls (k:Nat) (a0:Int) (a1:Int) (a2:Int) (r1:Int) (r2:Int) (w:World) (h:AU.f k a0 a1 a2=some (r1,r2)):
    Calls Tryd.prog 13 #[.int .i64 a0,.int .i64 a1,.int .i64 a2] w fun e w'=>e= .returned (.tuple #[.int .i64 r1,.int .i64 r2])∧Drawn0 w w':=by
  have H:((Aq.f a2).bind fun t103=>(if t103=true then (if a0<1 then (AU.j0 k a0 a1 a2 true) else (if a0>a2 then (AU.j0 k a0 a1 a2 true) else (if a1<0 then (AU.j0 k a0 a1 a2 true) else (AU.j0 k a0 a1 a2 (decide (a1≥24)))))) else (AU.j0 k a0 a1 a2 true)))=some (r1,r2):=h
  clear h
  have HC4:=Aside0.mk H
  clear H
  go_enter Tryd.func13,Tryd.ntmps13
  go_upto_region 1 with (fail)
  go_cut [31] (fun v31 wc=>∃(kq:Nat) (x31_3:Bool),v31= .bool x31_3∧Aside0 (AU.j0 kq a0 a1 a2 x31_3=some (r1,r2))∧Aside0 (kq≤k)∧Drawn0 w wc)
  case first=>
    have H:=HC4.out
    clear HC4
    replace H:=Option.bind_eq_some_iff.mp H
    obtain ⟨t103,A50,H⟩:=H
    replace H:(if t103=true then (if a0<1 then (AU.j0 k a0 a1 a2 true) else (if a0>a2 then (AU.j0 k a0 a1 a2 true) else (if a1<0 then (AU.j0 k a0 a1 a2 true) else (AU.j0 k a0 a1 a2 (decide (a1≥24)))))) else (AU.j0 k a0 a1 a2 true))=some (r1,r2):=H
    have A5:=Aside0.mk A50
    clear A50
    by_cases c6:t103=true
    · subst c6
      have H1:(if a0<1 then (AU.j0 k a0 a1 a2 true) else (if a0>a2 then (AU.j0 k a0 a1 a2 true) else (if a1<0 then (AU.j0 k a0 a1 a2 true) else (AU.j0 k a0 a1 a2 (decide (a1≥24))))))=some (r1,r2):=by rw [if_pos rfl] at H; exact H
      clear H
      have H:=H1
      clear H1
      by_cases c7:a0<1
      · rw [if_pos c7] at H
        have c7b0:decide (a0<1)=true:=decide_eq_true c7
        clear c7
        (first|rw [c7b0]|(simp only [AL,AM]; rw [c7b0])|skip)
        have H':=Aside0.mk H
        clear H
        go_wp2_with (first|((with_reducible refine AQ (f:=34) rfl ?_); refine Ag (some 13) rfl rfl Tryd.func34 (by kernel_rfl) rfl #[.int .i64 a2] rfl (by (try simp only [List.map_toArray,List.map_cons,List.map_nil]); first|done|rfl|(simp only [List.length_drop,List.length_take]; rfl)) ?_; (with_reducible refine (Aq.calls a2 true _ A5.out).mono ?_); rintro e w' ⟨rfl,⟨nd,rfl⟩⟩; refine ⟨_,rfl,?_⟩))
        go_meet
        case rel=>exact ⟨_,(true),(by first|rfl|(simp; done)|(simp [*]; done)),H',⟨by first|omega|exact Nat.le_refl _⟩,by repeat (first|exact Drawn0.refl _|apply Drawn0.step)⟩
      · rw [if_neg c7] at H
        have c7b0:decide (a0<1)=false:=decide_eq_false c7
        clear c7
        (first|rw [c7b0]|(simp only [AL,AM]; rw [c7b0])|skip)
        by_cases c8:a0>a2
        · rw [if_pos c8] at H
          have c8b0:decide (a2<a0)=true:=decide_eq_true c8
          clear c8
          have H':=Aside0.mk H
          clear H
          go_wp2_with (first|((with_reducible refine AQ (f:=34) rfl ?_); refine Ag (some 13) rfl rfl Tryd.func34 (by kernel_rfl) rfl #[.int .i64 a2] rfl (by (try simp only [List.map_toArray,List.map_cons,List.map_nil]); first|done|rfl|(simp only [List.length_drop,List.length_take]; rfl)) ?_; (with_reducible refine (Aq.calls a2 true _ A5.out).mono ?_); rintro e w' ⟨rfl,⟨nd,rfl⟩⟩; refine ⟨_,rfl,?_⟩))
          go_meet
          case rel=>exact ⟨_,(true),(by first|rfl|(simp; done)|(simp [*]; done)),H',⟨by first|omega|exact Nat.le_refl _⟩,by repeat (first|exact Drawn0.refl _|apply Drawn0.step)⟩
        · rw [if_neg c8] at H
          have c8b0:decide (a2<a0)=false:=decide_eq_false c8
          clear c8
          by_cases c9:a1<0
          · rw [if_pos c9] at H
            have c9b0:decide (a1<0)=true:=decide_eq_true c9
            clear c9
            have H':=Aside0.mk H
            clear H
            go_wp2_with (first|((with_reducible refine AQ (f:=34) rfl ?_); refine Ag (some 13) rfl rfl Tryd.func34 (by kernel_rfl) rfl #[.int .i64 a2] rfl (by (try simp only [List.map_toArray,List.map_cons,List.map_nil]); first|done|rfl|(simp only [List.length_drop,List.length_take]; rfl)) ?_; (with_reducible refine (Aq.calls a2 true _ A5.out).mono ?_); rintro e w' ⟨rfl,⟨nd,rfl⟩⟩; refine ⟨_,rfl,?_⟩))
            go_meet
            case rel=>exact ⟨_,(true),(by first|rfl|(simp; done)|(simp [*]; done)),H',⟨by first|omega|exact Nat.le_refl _⟩,by repeat (first|exact Drawn0.refl _|apply Drawn0.step)⟩
          · rw [if_neg c9] at H
            have c9b0:decide (a1<0)=false:=decide_eq_false c9
            clear c9
            have H':=Aside0.mk H
            clear H
            go_wp2_with (first|((with_reducible refine AQ (f:=34) rfl ?_); refine Ag (some 13) rfl rfl Tryd.func34 (by kernel_rfl) rfl #[.int .i64 a2] rfl (by (try simp only [List.map_toArray,List.map_cons,List.map_nil]); first|done|rfl|(simp only [List.length_drop,List.length_take]; rfl)) ?_; (with_reducible refine (Aq.calls a2 true _ A5.out).mono ?_); rintro e w' ⟨rfl,⟨nd,rfl⟩⟩; refine ⟨_,rfl,?_⟩))
            go_meet
            case rel=>exact ⟨_,(decide (a1≥24)),(by first|rfl|(simp; done)|(simp [*]; done)),H',⟨by first|omega|exact Nat.le_refl _⟩,by repeat (first|exact Drawn0.refl _|apply Drawn0.step)⟩
    · replace c6:=Bool.eq_false_iff.mpr c6
      subst c6
      have H1:(AU.j0 k a0 a1 a2 true)=some (r1,r2):=by rw [if_neg (show ¬(false=true) by decide)] at H; exact H
      clear H
      have H:=H1
      clear H1
      have H':=Aside0.mk H
      clear H
      go_wp2_with (first|((with_reducible refine AQ (f:=34) rfl ?_); refine Ag (some 13) rfl rfl Tryd.func34 (by kernel_rfl) rfl #[.int .i64 a2] rfl (by (try simp only [List.map_toArray,List.map_cons,List.map_nil]); first|done|rfl|(simp only [List.length_drop,List.length_take]; rfl)) ?_; (with_reducible refine (Aq.calls a2 false _ A5.out).mono ?_); rintro e w' ⟨rfl,⟨nd,rfl⟩⟩; refine ⟨_,rfl,?_⟩))
      go_meet
      case rel=>exact ⟨_,(true),(by first|rfl|(simp; done)|(simp [*]; done)),H',⟨by first|omega|exact Nat.le_refl _⟩,by repeat (first|exact Drawn0.refl _|apply Drawn0.step)⟩
  case rest =>
    clear HC4
    try clear c1
    try clear p2
    try clear c3
    try clear c6
    try clear c7
    try clear c7b0
    try clear c8
    try clear c8b0
    try clear c9
    try clear c9b0
    obtain ⟨kq,x31_3,rfl,HA,HJ3,⟨mc3,rfl⟩⟩:=hcut
    cases kq with
    |zero=>exact absurd HA.out (by simp [AU.j0])
    | succ kj3=>
      have H:=HA.out
      clear HA
      simp only [AU.j0] at H
      by_cases c10:x31_3=true
      · subst c10
        have H1:(some (0,2))=some (r1,r2):=by rw [if_pos rfl] at H; exact H
        clear H
        have H:=H1
        clear H1
        simp only [Option.some.injEq,Prod.mk.injEq] at H
        obtain ⟨rfl,rfl⟩:=H
        go_wp2
        go_ret2
        exact ⟨by first|rfl|(simp; done)|(simp [*]; done),by repeat (first|exact Drawn0.refl _|apply Drawn0.step)⟩
      · replace c10:=Bool.eq_false_iff.mpr c10
        subst c10
        have H1:(AU.l0 kj3 a0 a1 a2 0)=some (r1,r2):=by rw [if_neg (show ¬(false=true) by decide)] at H; exact H
        clear H
        have H:=H1
        clear H1
        have H':=Aside0.mk H
        clear H
        go_wp2
        go_loopg [32] kj3 (fun kq v32 w'=>∃(x32_2:Int),v32= .int .i64 x32_2∧Aside0 (AU.l0 kq a0 a1 a2 x32_2=some (r1,r2))∧Aside0 (kq≤kj3)∧Drawn0 w w')
        case atStart=>exact ⟨(0),(by first|rfl|(simp; done)|(simp [*]; done)),H',⟨Nat.le_refl _⟩,by repeat (first|exact Drawn0.refl _|apply Drawn0.step)⟩
        case round=>
          clear H'
          try clear c1
          try clear p2
          try clear c3
          try clear c6
          try clear c7
          try clear c7b0
          try clear c8
          try clear c8b0
          try clear c9
          try clear c9b0
          try clear c10
          try clear p2
          obtain ⟨x32_2,rfl,HA,HK2,⟨m2,rfl⟩⟩:=hrel
          cases gk with
          |zero=>exact absurd HA.out (by simp [AU.l0])
          | succ k2=>
            have H:=HA.out
            clear HA
            simp only [AU.l0] at H
            by_cases c11:x32_2<24
            · rw [if_pos c11] at H
              have c11b0:decide (x32_2<24)=true:=decide_eq_true c11
              clear c11
              replace H:=Option.bind_eq_some_iff.mp H
              obtain ⟨⟨t104,t105,t106⟩,A120,H⟩:=H
              replace H:(if t104=a0 then (if t105=a1 then (some (x32_2,0)) else (AU.l0 k2 a0 a1 a2 (wrap64 (x32_2+1)))) else (AU.l0 k2 a0 a1 a2 (wrap64 (x32_2+1))))=some (r1,r2):=H
              have A12:=Aside0.mk A120
              clear A120
              by_cases c13:t104=a0
              · rw [if_pos c13] at H
                have c13b0:(t104==a0)=true:=beq_iff_eq.mpr c13
                have c13b1:(t104 !=a0)=false:=bne_eq_false_iff_eq.mpr c13
                clear c13
                by_cases c14:t105=a1
                · rw [if_pos c14] at H
                  have c14b0:(t105==a1)=true:=beq_iff_eq.mpr c14
                  have c14b1:(t105 !=a1)=false:=bne_eq_false_iff_eq.mpr c14
                  clear c14
                  simp only [Option.some.injEq,Prod.mk.injEq] at H
                  obtain ⟨rfl,rfl⟩:=H
                  go_wp2_with (first|((with_reducible refine AQ (f:=11) rfl ?_); refine Ag (some 38) rfl rfl Tryd.func11 (by kernel_rfl) rfl #[.int .i64 x32_2,.int .i64 a2] rfl (by (try simp only [List.map_toArray,List.map_cons,List.map_nil]); first|done|rfl|(simp only [List.length_drop,List.length_take]; rfl)) ?_; (with_reducible refine (Ad.calls x32_2 a2 t104 t105 t106 _ A12.out).mono ?_); rintro e w' ⟨rfl,⟨nd,rfl⟩⟩; refine ⟨_,rfl,?_⟩))
                  go_ret2
                  exact ⟨by first|rfl|(simp; done)|(simp [*]; done),by repeat (first|exact Drawn0.refl _|apply Drawn0.step)⟩
                · rw [if_neg c14] at H
                  have c14b0:(t105==a1)=false:=beq_eq_false_iff_ne.mpr c14
                  have c14b1:(t105 !=a1)=true:=bne_iff_ne.mpr c14
                  have H':=Aside0.mk H
                  clear H
                  go_wp2_with (first|((with_reducible refine AQ (f:=11) rfl ?_); refine Ag (some 38) rfl rfl Tryd.func11 (by kernel_rfl) rfl #[.int .i64 x32_2,.int .i64 a2] rfl (by (try simp only [List.map_toArray,List.map_cons,List.map_nil]); first|done|rfl|(simp only [List.length_drop,List.length_take]; rfl)) ?_; (with_reducible refine (Ad.calls x32_2 a2 t104 t105 t106 _ A12.out).mono ?_); rintro e w' ⟨rfl,⟨nd,rfl⟩⟩; refine ⟨_,rfl,?_⟩))
                  go_roundg k2
                  case measure=>have:=HJ3.out; have:=HK2.out; omega
                  case rel=>exact ⟨(wrap64 (x32_2+1)),(by first|rfl|(simp; done)|(simp [*]; done)),H',⟨by have:=HJ3.out; have:=HK2.out; omega⟩,by repeat (first|exact Drawn0.refl _|apply Drawn0.step)⟩
              · rw [if_neg c13] at H
                have c13b0:(t104==a0)=false:=beq_eq_false_iff_ne.mpr c13
                have c13b1:(t104 !=a0)=true:=bne_iff_ne.mpr c13
                have H':=Aside0.mk H
                clear H
                go_wp2_with (first|((with_reducible refine AQ (f:=11) rfl ?_); refine Ag (some 38) rfl rfl Tryd.func11 (by kernel_rfl) rfl #[.int .i64 x32_2,.int .i64 a2] rfl (by (try simp only [List.map_toArray,List.map_cons,List.map_nil]); first|done|rfl|(simp only [List.length_drop,List.length_take]; rfl)) ?_; (with_reducible refine (Ad.calls x32_2 a2 t104 t105 t106 _ A12.out).mono ?_); rintro e w' ⟨rfl,⟨nd,rfl⟩⟩; refine ⟨_,rfl,?_⟩))
                go_roundg k2
                case measure=>have:=HJ3.out; have:=HK2.out; omega
                case rel=>exact ⟨(wrap64 (x32_2+1)),(by first|rfl|(simp; done)|(simp [*]; done)),H',⟨by have:=HJ3.out; have:=HK2.out; omega⟩,by repeat (first|exact Drawn0.refl _|apply Drawn0.step)⟩
            · rw [if_neg c11] at H
              have c11b0:decide (x32_2<24)=false:=decide_eq_false c11
              clear c11
              simp only [Option.some.injEq,Prod.mk.injEq] at H
              obtain ⟨rfl,rfl⟩:=H
              go_wp2
              go_ret2
              exact ⟨by first|rfl|(simp; done)|(simp [*]; done),by repeat (first|exact Drawn0.refl _|apply Drawn0.step)⟩
def B0.f (a0:Int):Option (Bool):=(Aq.f a0).bind fun t107=>(if t107=true then (some ((Int.tmod a0 24)==0)) else (some false))
set_option maxHeartbeats 8000000 in
theorem B0.calls (a0:Int) (r:Bool) (w:World) (h:B0.f a0=some r):
  Calls Tryd.prog 15 #[.int .i64 a0] w fun e w'=>e= .returned (.bool r)∧Drawn0 w w':=by
 have H:((Aq.f a0).bind fun t107=>(if t107=true then (some ((Int.tmod a0 24)==0)) else (some false)))=some r:=h
 clear h
 replace H:=Option.bind_eq_some_iff.mp H
 obtain ⟨t107,A20,H⟩:=H
 replace H:(if t107=true then (some ((Int.tmod a0 24)==0)) else (some false))=some r:=H
 have A2:=Aside0.mk A20
 clear A20
 by_cases c3:t107=true
 ·subst c3
  have H1:(some ((Int.tmod a0 24)==0))=some r:=by rw [if_pos rfl] at H; exact H
  clear H
  have H:=H1
  clear H1
  obtain rfl:=Option.some.inj H
  go_enter Tryd.func15,Tryd.ntmps15
  go_wp2_with (first|((with_reducible refine AQ (f:=34) rfl ?_); refine Ag (some 4) rfl rfl Tryd.func34 (by kernel_rfl) rfl #[.int .i64 a0] rfl (by (try simp only [List.map_toArray,List.map_cons,List.map_nil]); first|done|rfl|(simp only [List.length_drop,List.length_take]; rfl)) ?_; (with_reducible refine (Aq.calls a0 true _ A2.out).mono ?_); rintro e w' ⟨rfl,⟨nd,rfl⟩⟩; refine ⟨_,rfl,?_⟩))
  go_ret
  exact ⟨by first|rfl|(simp; done)|(simp [*]; done),by repeat (first|exact Drawn0.refl _|apply Drawn0.step)⟩
 ·replace c3:=Bool.eq_false_iff.mpr c3
  subst c3
  have H1:(some false)=some r:=by rw [if_neg (show ¬(false=true) by decide)] at H; exact H
  clear H
  have H:=H1
  clear H1
  obtain rfl:=Option.some.inj H
  go_enter Tryd.func15,Tryd.ntmps15
  go_wp2_with (first|((with_reducible refine AQ (f:=34) rfl ?_); refine Ag (some 4) rfl rfl Tryd.func34 (by kernel_rfl) rfl #[.int .i64 a0] rfl (by (try simp only [List.map_toArray,List.map_cons,List.map_nil]); first|done|rfl|(simp only [List.length_drop,List.length_take]; rfl)) ?_; (with_reducible refine (Aq.calls a0 false _ A2.out).mono ?_); rintro e w' ⟨rfl,⟨nd,rfl⟩⟩; refine ⟨_,rfl,?_⟩))
  go_ret
  exact ⟨by first|rfl|(simp; done)|(simp [*]; done),by repeat (first|exact Drawn0.refl _|apply Drawn0.step)⟩
def Ay.l0:Nat→Int→Int→Option (Int)
 |0,_,_=>none
 |k+1,x0,x1=>if x1=0 then (some x0) else (Ay.l0 k x1 (Int.tmod x0 x1))
def Ay.f (k:Nat) (a0:Int) (a1:Int):Option (Int):=Ay.l0 k a0 a1
set_option maxHeartbeats 8000000 in
theorem Ay.calls (k:Nat) (a0:Int) (a1:Int) (r:Int) (w:World) (h:Ay.f k a0 a1=some r):
  Calls Tryd.prog 48 #[.int .i64 a0,.int .i64 a1] w fun e w'=>e= .returned (.int .i64 r)∧Drawn0 w w':=by
 have H:(Ay.l0 k a0 a1)=some r:=h
 clear h
 have H':=Aside0.mk H
 clear H
 go_enter Tryd.func48,Tryd.ntmps48
 go_wp2
 repeat (go_quiet (fail); try go_wp2)
 go_loopg [0,1] k (fun kq v0 v1 w'=>∃(x0_1:Int) (x1_1:Int),v0= .int .i64 x0_1∧v1= .int .i64 x1_1∧Aside0 (Ay.l0 kq x0_1 x1_1=some r)∧Aside0 (kq≤k)∧Drawn0 w w')
 case atStart=>exact ⟨(a0),(a1),(by first|rfl|(simp; done)|(simp [*]; done)),(by first|rfl|(simp; done)|(simp [*]; done)),H',⟨Nat.le_refl _⟩,by repeat (first|exact Drawn0.refl _|apply Drawn0.step)⟩
 case round=>
  clear H'
  try clear p2
  obtain ⟨x0_1,x1_1,rfl,rfl,HA,HK1,⟨m1,rfl⟩⟩:=hrel
  cases gk with
  |zero=>exact absurd HA.out (by simp [Ay.l0])
  | succ k1=>
   have H:=HA.out
   clear HA
   simp only [Ay.l0] at H
   by_cases c3:x1_1=0
   ·rw [if_pos c3] at H
    have c3b0:(x1_1==0)=true:=beq_iff_eq.mpr c3
    have c3b1:(x1_1 !=0)=false:=bne_eq_false_iff_eq.mpr c3
    clear c3
    obtain rfl:=Option.some.inj H
    go_wp2
    repeat (go_quiet (fail); try go_wp2)
    go_ret
    exact ⟨by first|rfl|(simp; done)|(simp [*]; done),by repeat (first|exact Drawn0.refl _|apply Drawn0.step)⟩
   ·rw [if_neg c3] at H
    have c3b0:(x1_1==0)=false:=beq_eq_false_iff_ne.mpr c3
    have c3b1:(x1_1 !=0)=true:=bne_iff_ne.mpr c3
    have H':=Aside0.mk H
    clear H
    go_wp2
    repeat (go_quiet (fail); try go_wp2)
    go_roundg k1
    case measure=>have:=HK1.out; omega
    case rel=>exact ⟨(x1_1),(Int.tmod x0_1 x1_1),(by first|rfl|(simp; done)|(simp [*]; done)),(by first|rfl|(simp; done)|(simp [*]; done)),H',⟨by have:=HK1.out; omega⟩,by repeat (first|exact Drawn0.refl _|apply Drawn0.step)⟩
def B5.f (k:Nat) (AB:Int) (AA:Int) (AC:Int):Option (Bool):=if AB<0 then (some false) else (if AB>1000 then (some false) else (if AA<(-1000) then (some false) else (if AA>1000 then (some false) else ((Ay.f k AB (mx AA (wrap64 (-AA)))).bind fun t109=>(if t109=1 then (if AC≥0 then (if AC<24 then (if AB=0 then (some (AC==0)) else (some true)) else (some false)) else (some false)) else (some false))))))
set_option maxHeartbeats 8000000 in
theorem B5.calls (k:Nat) (AB:Int) (AA:Int) (AC:Int) (r:Bool) (w:World) (h:B5.f k AB AA AC=some r):
  Calls Tryd.prog 40 #[.agg #[.int .i64 AB,.int .i64 AA,.int .i64 AC]] w fun e w'=>e= .returned (.bool r)∧Below w.heap.size w w':=by
 have hu33:=Tryd.underlying33
 have HB:=Aside0.mk (Below.refl w.heap.size w)
 have H:(if AB<0 then (some false) else (if AB>1000 then (some false) else (if AA<(-1000) then (some false) else (if AA>1000 then (some false) else ((Ay.f k AB (mx AA (wrap64 (-AA)))).bind fun t109=>(if t109=1 then (if AC≥0 then (if AC<24 then (if AB=0 then (some (AC==0)) else (some true)) else (some false)) else (some false)) else (some false)))))))=some r:=h
 clear h
 by_cases c2:AB<0
 ·rw [if_pos c2] at H
  have c2b0:decide (AB<0)=true:=decide_eq_true c2
  clear c2
  obtain rfl:=Option.some.inj H
  go_enter Tryd.func40,Tryd.ntmps40
  go_wp2_with (first|((with_reducible refine Ar (N:=1) rfl ?_); (try (refine BF (by rfl) ?_; dsimp only)); refine Am ?hg (N:=1) ?hd (cs:= #[.int .i64 AB,.int .i64 AA,.int .i64 AC]) (t:=33) ?hr ?_; (case hd=>rfl); (case hg=>rfl); (case hr=>first|(go_simp; done)|(go_simp; rfl)); intro gb108 hg w3 hbox hb; have n0_:=Aside0.mk (AP (by repeat (first|(with_reducible first|exact HB.out|apply AI|apply AG|apply AH)|exact HB.out)) hb); have n1_:=Aside0.mk (hbox); have n2_:=Aside0.mk ((by rw [hg]; exact (AT (by repeat (first|(with_reducible first|exact HB.out|apply AI|apply AG|apply AH)|exact HB.out))):w.heap.size≤gb108)); have n3_:=Aside0.mk ((by rw [hg]; exact (AT (by repeat (first|(with_reducible first|exact HB.out|apply AI|apply AG|apply AH)|exact HB.out))):w.heap.size≤gb108)); clear HB; have HB:=n0_; have BK108:=n1_; have GW108:=n2_; have GE108:=n3_; clear n0_ n1_ n2_ n3_; clear hb hbox hg; have hcz4_0:w3.cell? ⟨gb108,0,none⟩=some (.int .i64 AB):=(AJ BK108.out 0).trans rfl; have hcz4_1:w3.cell? ⟨gb108,1,none⟩=some (.int .i64 AA):=(AJ BK108.out 1).trans rfl; have hcz4_2:w3.cell? ⟨gb108,2,none⟩=some (.int .i64 AC):=(AJ BK108.out 2).trans rfl; have hfz4_0:=AN BK108.out 0; have hfz4_1:=AN BK108.out 1; have hfz4_2:=AN BK108.out 2))
  go_ret
  exact ⟨by first|rfl|(simp [AS,AR]<;>rfl)|(simp [*,AS,AR]<;>rfl),by repeat (first|(with_reducible first|exact HB.out|apply AI|apply AG|apply AH|refine AV ?_ GE108.out)|exact HB.out)⟩
 ·rw [if_neg c2] at H
  have c2b0:decide (AB<0)=false:=decide_eq_false c2
  clear c2
  by_cases c5:AB>1000
  ·rw [if_pos c5] at H
   have c5b0:decide (1000<AB)=true:=decide_eq_true c5
   clear c5
   obtain rfl:=Option.some.inj H
   go_enter Tryd.func40,Tryd.ntmps40
   go_wp2_with (first|((with_reducible refine Ar (N:=1) rfl ?_); (try (refine BF (by rfl) ?_; dsimp only)); refine Am ?hg (N:=1) ?hd (cs:= #[.int .i64 AB,.int .i64 AA,.int .i64 AC]) (t:=33) ?hr ?_; (case hd=>rfl); (case hg=>rfl); (case hr=>first|(go_simp; done)|(go_simp; rfl)); intro gb108 hg w6 hbox hb; have n0_:=Aside0.mk (AP (by repeat (first|(with_reducible first|exact HB.out|apply AI|apply AG|apply AH)|exact HB.out)) hb); have n1_:=Aside0.mk (hbox); have n2_:=Aside0.mk ((by rw [hg]; exact (AT (by repeat (first|(with_reducible first|exact HB.out|apply AI|apply AG|apply AH)|exact HB.out))):w.heap.size≤gb108)); have n3_:=Aside0.mk ((by rw [hg]; exact (AT (by repeat (first|(with_reducible first|exact HB.out|apply AI|apply AG|apply AH)|exact HB.out))):w.heap.size≤gb108)); clear HB; have HB:=n0_; have BK108:=n1_; have GW108:=n2_; have GE108:=n3_; clear n0_ n1_ n2_ n3_; clear hb hbox hg; have hcz7_0:w6.cell? ⟨gb108,0,none⟩=some (.int .i64 AB):=(AJ BK108.out 0).trans rfl; have hcz7_1:w6.cell? ⟨gb108,1,none⟩=some (.int .i64 AA):=(AJ BK108.out 1).trans rfl; have hcz7_2:w6.cell? ⟨gb108,2,none⟩=some (.int .i64 AC):=(AJ BK108.out 2).trans rfl; have hfz7_0:=AN BK108.out 0; have hfz7_1:=AN BK108.out 1; have hfz7_2:=AN BK108.out 2))
   go_ret
   exact ⟨by first|rfl|(simp [AS,AR]<;>rfl)|(simp [*,AS,AR]<;>rfl),by repeat (first|(with_reducible first|exact HB.out|apply AI|apply AG|apply AH|refine AV ?_ GE108.out)|exact HB.out)⟩
  ·rw [if_neg c5] at H
   have c5b0:decide (1000<AB)=false:=decide_eq_false c5
   clear c5
   by_cases c8:AA<(-1000)
   ·rw [if_pos c8] at H
    have c8b0:decide (AA<(-1000))=true:=decide_eq_true c8
    clear c8
    obtain rfl:=Option.some.inj H
    go_enter Tryd.func40,Tryd.ntmps40
    go_wp2_with (first|((with_reducible refine Ar (N:=1) rfl ?_); (try (refine BF (by rfl) ?_; dsimp only)); refine Am ?hg (N:=1) ?hd (cs:= #[.int .i64 AB,.int .i64 AA,.int .i64 AC]) (t:=33) ?hr ?_; (case hd=>rfl); (case hg=>rfl); (case hr=>first|(go_simp; done)|(go_simp; rfl)); intro gb108 hg w9 hbox hb; have n0_:=Aside0.mk (AP (by repeat (first|(with_reducible first|exact HB.out|apply AI|apply AG|apply AH)|exact HB.out)) hb); have n1_:=Aside0.mk (hbox); have n2_:=Aside0.mk ((by rw [hg]; exact (AT (by repeat (first|(with_reducible first|exact HB.out|apply AI|apply AG|apply AH)|exact HB.out))):w.heap.size≤gb108)); have n3_:=Aside0.mk ((by rw [hg]; exact (AT (by repeat (first|(with_reducible first|exact HB.out|apply AI|apply AG|apply AH)|exact HB.out))):w.heap.size≤gb108)); clear HB; have HB:=n0_; have BK108:=n1_; have GW108:=n2_; have GE108:=n3_; clear n0_ n1_ n2_ n3_; clear hb hbox hg; have hcz10_0:w9.cell? ⟨gb108,0,none⟩=some (.int .i64 AB):=(AJ BK108.out 0).trans rfl; have hcz10_1:w9.cell? ⟨gb108,1,none⟩=some (.int .i64 AA):=(AJ BK108.out 1).trans rfl; have hcz10_2:w9.cell? ⟨gb108,2,none⟩=some (.int .i64 AC):=(AJ BK108.out 2).trans rfl; have hfz10_0:=AN BK108.out 0; have hfz10_1:=AN BK108.out 1; have hfz10_2:=AN BK108.out 2))
    go_ret
    exact ⟨by first|rfl|(simp [AS,AR]<;>rfl)|(simp [*,AS,AR]<;>rfl),by repeat (first|(with_reducible first|exact HB.out|apply AI|apply AG|apply AH|refine AV ?_ GE108.out)|exact HB.out)⟩
   ·rw [if_neg c8] at H
    have c8b0:decide (AA<(-1000))=false:=decide_eq_false c8
    clear c8
    by_cases c11:AA>1000
    ·rw [if_pos c11] at H
     have c11b0:decide (1000<AA)=true:=decide_eq_true c11
     clear c11
     obtain rfl:=Option.some.inj H
     go_enter Tryd.func40,Tryd.ntmps40
     go_wp2_with (first|((with_reducible refine Ar (N:=1) rfl ?_); (try (refine BF (by rfl) ?_; dsimp only)); refine Am ?hg (N:=1) ?hd (cs:= #[.int .i64 AB,.int .i64 AA,.int .i64 AC]) (t:=33) ?hr ?_; (case hd=>rfl); (case hg=>rfl); (case hr=>first|(go_simp; done)|(go_simp; rfl)); intro gb108 hg w12 hbox hb; have n0_:=Aside0.mk (AP (by repeat (first|(with_reducible first|exact HB.out|apply AI|apply AG|apply AH)|exact HB.out)) hb); have n1_:=Aside0.mk (hbox); have n2_:=Aside0.mk ((by rw [hg]; exact (AT (by repeat (first|(with_reducible first|exact HB.out|apply AI|apply AG|apply AH)|exact HB.out))):w.heap.size≤gb108)); have n3_:=Aside0.mk ((by rw [hg]; exact (AT (by repeat (first|(with_reducible first|exact HB.out|apply AI|apply AG|apply AH)|exact HB.out))):w.heap.size≤gb108)); clear HB; have HB:=n0_; have BK108:=n1_; have GW108:=n2_; have GE108:=n3_; clear n0_ n1_ n2_ n3_; clear hb hbox hg; have hcz13_0:w12.cell? ⟨gb108,0,none⟩=some (.int .i64 AB):=(AJ BK108.out 0).trans rfl; have hcz13_1:w12.cell? ⟨gb108,1,none⟩=some (.int .i64 AA):=(AJ BK108.out 1).trans rfl; have hcz13_2:w12.cell? ⟨gb108,2,none⟩=some (.int .i64 AC):=(AJ BK108.out 2).trans rfl; have hfz13_0:=AN BK108.out 0; have hfz13_1:=AN BK108.out 1; have hfz13_2:=AN BK108.out 2))
     go_ret
     exact ⟨by first|rfl|(simp [AS,AR]<;>rfl)|(simp [*,AS,AR]<;>rfl),by repeat (first|(with_reducible first|exact HB.out|apply AI|apply AG|apply AH|refine AV ?_ GE108.out)|exact HB.out)⟩
    ·rw [if_neg c11] at H
     have c11b0:decide (1000<AA)=false:=decide_eq_false c11
     clear c11
     obtain ⟨ji14,hji14⟩:∃j_:Int,(mx AA (wrap64 (-AA)))=j_:=⟨_,rfl⟩
     replace H:((Ay.f k AB (ji14)).bind fun t109=>(if t109=1 then (if AC≥0 then (if AC<24 then (if AB=0 then (some (AC==0)) else (some true)) else (some false)) else (some false)) else (some false)))=some r:=by first|(rw [hji14] at H; exact H)|(simp only [hji14] at H ⊢; exact H)
     have hji14_:(if AA<(wrap64 (-AA)) then (wrap64 (-AA)) else AA)=ji14:=hji14
     replace H:=Option.bind_eq_some_iff.mp H
     obtain ⟨t109,A150,H⟩:=H
     replace H:(if t109=1 then (if AC≥0 then (if AC<24 then (if AB=0 then (some (AC==0)) else (some true)) else (some false)) else (some false)) else (some false))=some r:=H
     have A15:=Aside0.mk A150
     clear A150
     by_cases c16:t109=1
     ·rw [if_pos c16] at H
      have c16b0:(t109==1)=true:=beq_iff_eq.mpr c16
      have c16b1:(t109 !=1)=false:=bne_eq_false_iff_eq.mpr c16
      clear c16
      by_cases c17:AC≥0
      ·rw [if_pos c17] at H
       have c17b0:decide (0≤AC)=true:=decide_eq_true c17
       clear c17
       by_cases c18:AC<24
       ·rw [if_pos c18] at H
        have c18b0:decide (AC<24)=true:=decide_eq_true c18
        clear c18
        by_cases c19:AB=0
        ·rw [if_pos c19] at H
         have c19b0:(AB==0)=true:=beq_iff_eq.mpr c19
         have c19b1:(AB !=0)=false:=bne_eq_false_iff_eq.mpr c19
         clear c19
         obtain rfl:=Option.some.inj H
         go_enter Tryd.func40,Tryd.ntmps40
         go_wp2_with (first|((with_reducible refine Ar (N:=1) rfl ?_); (try (refine BF (by rfl) ?_; dsimp only)); refine Am ?hg (N:=1) ?hd (cs:= #[.int .i64 AB,.int .i64 AA,.int .i64 AC]) (t:=33) ?hr ?_; (case hd=>rfl); (case hg=>rfl); (case hr=>first|(go_simp; done)|(go_simp; rfl)); intro gb108 hg w20 hbox hb; have n0_:=Aside0.mk (AP (by repeat (first|(with_reducible first|exact HB.out|apply AI|apply AG|apply AH)|exact HB.out)) hb); have n1_:=Aside0.mk (hbox); have n2_:=Aside0.mk ((by rw [hg]; exact (AT (by repeat (first|(with_reducible first|exact HB.out|apply AI|apply AG|apply AH)|exact HB.out))):w.heap.size≤gb108)); have n3_:=Aside0.mk ((by rw [hg]; exact (AT (by repeat (first|(with_reducible first|exact HB.out|apply AI|apply AG|apply AH)|exact HB.out))):w.heap.size≤gb108)); clear HB; have HB:=n0_; have BK108:=n1_; have GW108:=n2_; have GE108:=n3_; clear n0_ n1_ n2_ n3_; clear hb hbox hg; have hcz21_0:w20.cell? ⟨gb108,0,none⟩=some (.int .i64 AB):=(AJ BK108.out 0).trans rfl; have hcz21_1:w20.cell? ⟨gb108,1,none⟩=some (.int .i64 AA):=(AJ BK108.out 1).trans rfl; have hcz21_2:w20.cell? ⟨gb108,2,none⟩=some (.int .i64 AC):=(AJ BK108.out 2).trans rfl; have hfz21_0:=AN BK108.out 0; have hfz21_1:=AN BK108.out 1; have hfz21_2:=AN BK108.out 2)|(go_at_call 48; (with_reducible refine (Ay.calls k AB ji14 t109 _ A15.out).mono ?_); rintro e w' ⟨rfl,⟨nd,rfl⟩⟩))
         go_ret
         exact ⟨by first|rfl|(simp [AS,AR]<;>rfl)|(simp only [←hji14]; first|rfl|(simp [AS,AR]<;>rfl))|(simp [*,AS,AR]<;>rfl),by repeat (first|(with_reducible first|exact HB.out|apply AI|apply AG|apply AH|refine AV ?_ GE108.out)|exact HB.out)⟩
        ·rw [if_neg c19] at H
         have c19b0:(AB==0)=false:=beq_eq_false_iff_ne.mpr c19
         have c19b1:(AB !=0)=true:=bne_iff_ne.mpr c19
         obtain rfl:=Option.some.inj H
         go_enter Tryd.func40,Tryd.ntmps40
         go_wp2_with (first|((with_reducible refine Ar (N:=1) rfl ?_); (try (refine BF (by rfl) ?_; dsimp only)); refine Am ?hg (N:=1) ?hd (cs:= #[.int .i64 AB,.int .i64 AA,.int .i64 AC]) (t:=33) ?hr ?_; (case hd=>rfl); (case hg=>rfl); (case hr=>first|(go_simp; done)|(go_simp; rfl)); intro gb108 hg w22 hbox hb; have n0_:=Aside0.mk (AP (by repeat (first|(with_reducible first|exact HB.out|apply AI|apply AG|apply AH)|exact HB.out)) hb); have n1_:=Aside0.mk (hbox); have n2_:=Aside0.mk ((by rw [hg]; exact (AT (by repeat (first|(with_reducible first|exact HB.out|apply AI|apply AG|apply AH)|exact HB.out))):w.heap.size≤gb108)); have n3_:=Aside0.mk ((by rw [hg]; exact (AT (by repeat (first|(with_reducible first|exact HB.out|apply AI|apply AG|apply AH)|exact HB.out))):w.heap.size≤gb108)); clear HB; have HB:=n0_; have BK108:=n1_; have GW108:=n2_; have GE108:=n3_; clear n0_ n1_ n2_ n3_; clear hb hbox hg; have hcz23_0:w22.cell? ⟨gb108,0,none⟩=some (.int .i64 AB):=(AJ BK108.out 0).trans rfl; have hcz23_1:w22.cell? ⟨gb108,1,none⟩=some (.int .i64 AA):=(AJ BK108.out 1).trans rfl; have hcz23_2:w22.cell? ⟨gb108,2,none⟩=some (.int .i64 AC):=(AJ BK108.out 2).trans rfl; have hfz23_0:=AN BK108.out 0; have hfz23_1:=AN BK108.out 1; have hfz23_2:=AN BK108.out 2)|(go_at_call 48; (with_reducible refine (Ay.calls k AB ji14 t109 _ A15.out).mono ?_); rintro e w' ⟨rfl,⟨nd,rfl⟩⟩))
         go_ret
         exact ⟨by first|rfl|(simp [AS,AR]<;>rfl)|(simp only [←hji14]; first|rfl|(simp [AS,AR]<;>rfl))|(simp [*,AS,AR]<;>rfl),by repeat (first|(with_reducible first|exact HB.out|apply AI|apply AG|apply AH|refine AV ?_ GE108.out)|exact HB.out)⟩
       ·rw [if_neg c18] at H
        have c18b0:decide (AC<24)=false:=decide_eq_false c18
        clear c18
        obtain rfl:=Option.some.inj H
        go_enter Tryd.func40,Tryd.ntmps40
        go_wp2_with (first|((with_reducible refine Ar (N:=1) rfl ?_); (try (refine BF (by rfl) ?_; dsimp only)); refine Am ?hg (N:=1) ?hd (cs:= #[.int .i64 AB,.int .i64 AA,.int .i64 AC]) (t:=33) ?hr ?_; (case hd=>rfl); (case hg=>rfl); (case hr=>first|(go_simp; done)|(go_simp; rfl)); intro gb108 hg w24 hbox hb; have n0_:=Aside0.mk (AP (by repeat (first|(with_reducible first|exact HB.out|apply AI|apply AG|apply AH)|exact HB.out)) hb); have n1_:=Aside0.mk (hbox); have n2_:=Aside0.mk ((by rw [hg]; exact (AT (by repeat (first|(with_reducible first|exact HB.out|apply AI|apply AG|apply AH)|exact HB.out))):w.heap.size≤gb108)); have n3_:=Aside0.mk ((by rw [hg]; exact (AT (by repeat (first|(with_reducible first|exact HB.out|apply AI|apply AG|apply AH)|exact HB.out))):w.heap.size≤gb108)); clear HB; have HB:=n0_; have BK108:=n1_; have GW108:=n2_; have GE108:=n3_; clear n0_ n1_ n2_ n3_; clear hb hbox hg; have hcz25_0:w24.cell? ⟨gb108,0,none⟩=some (.int .i64 AB):=(AJ BK108.out 0).trans rfl; have hcz25_1:w24.cell? ⟨gb108,1,none⟩=some (.int .i64 AA):=(AJ BK108.out 1).trans rfl; have hcz25_2:w24.cell? ⟨gb108,2,none⟩=some (.int .i64 AC):=(AJ BK108.out 2).trans rfl; have hfz25_0:=AN BK108.out 0; have hfz25_1:=AN BK108.out 1; have hfz25_2:=AN BK108.out 2)|(go_at_call 48; (with_reducible refine (Ay.calls k AB ji14 t109 _ A15.out).mono ?_); rintro e w' ⟨rfl,⟨nd,rfl⟩⟩))
        go_ret
        exact ⟨by first|rfl|(simp [AS,AR]<;>rfl)|(simp only [←hji14]; first|rfl|(simp [AS,AR]<;>rfl))|(simp [*,AS,AR]<;>rfl),by repeat (first|(with_reducible first|exact HB.out|apply AI|apply AG|apply AH|refine AV ?_ GE108.out)|exact HB.out)⟩
      ·rw [if_neg c17] at H
       have c17b0:decide (0≤AC)=false:=decide_eq_false c17
       clear c17
       obtain rfl:=Option.some.inj H
       go_enter Tryd.func40,Tryd.ntmps40
       go_wp2_with (first|((with_reducible refine Ar (N:=1) rfl ?_); (try (refine BF (by rfl) ?_; dsimp only)); refine Am ?hg (N:=1) ?hd (cs:= #[.int .i64 AB,.int .i64 AA,.int .i64 AC]) (t:=33) ?hr ?_; (case hd=>rfl); (case hg=>rfl); (case hr=>first|(go_simp; done)|(go_simp; rfl)); intro gb108 hg w26 hbox hb; have n0_:=Aside0.mk (AP (by repeat (first|(with_reducible first|exact HB.out|apply AI|apply AG|apply AH)|exact HB.out)) hb); have n1_:=Aside0.mk (hbox); have n2_:=Aside0.mk ((by rw [hg]; exact (AT (by repeat (first|(with_reducible first|exact HB.out|apply AI|apply AG|apply AH)|exact HB.out))):w.heap.size≤gb108)); have n3_:=Aside0.mk ((by rw [hg]; exact (AT (by repeat (first|(with_reducible first|exact HB.out|apply AI|apply AG|apply AH)|exact HB.out))):w.heap.size≤gb108)); clear HB; have HB:=n0_; have BK108:=n1_; have GW108:=n2_; have GE108:=n3_; clear n0_ n1_ n2_ n3_; clear hb hbox hg; have hcz27_0:w26.cell? ⟨gb108,0,none⟩=some (.int .i64 AB):=(AJ BK108.out 0).trans rfl; have hcz27_1:w26.cell? ⟨gb108,1,none⟩=some (.int .i64 AA):=(AJ BK108.out 1).trans rfl; have hcz27_2:w26.cell? ⟨gb108,2,none⟩=some (.int .i64 AC):=(AJ BK108.out 2).trans rfl; have hfz27_0:=AN BK108.out 0; have hfz27_1:=AN BK108.out 1; have hfz27_2:=AN BK108.out 2)|(go_at_call 48; (with_reducible refine (Ay.calls k AB ji14 t109 _ A15.out).mono ?_); rintro e w' ⟨rfl,⟨nd,rfl⟩⟩))
       go_ret
       exact ⟨by first|rfl|(simp [AS,AR]<;>rfl)|(simp only [←hji14]; first|rfl|(simp [AS,AR]<;>rfl))|(simp [*,AS,AR]<;>rfl),by repeat (first|(with_reducible first|exact HB.out|apply AI|apply AG|apply AH|refine AV ?_ GE108.out)|exact HB.out)⟩
     ·rw [if_neg c16] at H
      have c16b0:(t109==1)=false:=beq_eq_false_iff_ne.mpr c16
      have c16b1:(t109 !=1)=true:=bne_iff_ne.mpr c16
      obtain rfl:=Option.some.inj H
      go_enter Tryd.func40,Tryd.ntmps40
      go_wp2_with (first|((with_reducible refine Ar (N:=1) rfl ?_); (try (refine BF (by rfl) ?_; dsimp only)); refine Am ?hg (N:=1) ?hd (cs:= #[.int .i64 AB,.int .i64 AA,.int .i64 AC]) (t:=33) ?hr ?_; (case hd=>rfl); (case hg=>rfl); (case hr=>first|(go_simp; done)|(go_simp; rfl)); intro gb108 hg w28 hbox hb; have n0_:=Aside0.mk (AP (by repeat (first|(with_reducible first|exact HB.out|apply AI|apply AG|apply AH)|exact HB.out)) hb); have n1_:=Aside0.mk (hbox); have n2_:=Aside0.mk ((by rw [hg]; exact (AT (by repeat (first|(with_reducible first|exact HB.out|apply AI|apply AG|apply AH)|exact HB.out))):w.heap.size≤gb108)); have n3_:=Aside0.mk ((by rw [hg]; exact (AT (by repeat (first|(with_reducible first|exact HB.out|apply AI|apply AG|apply AH)|exact HB.out))):w.heap.size≤gb108)); clear HB; have HB:=n0_; have BK108:=n1_; have GW108:=n2_; have GE108:=n3_; clear n0_ n1_ n2_ n3_; clear hb hbox hg; have hcz29_0:w28.cell? ⟨gb108,0,none⟩=some (.int .i64 AB):=(AJ BK108.out 0).trans rfl; have hcz29_1:w28.cell? ⟨gb108,1,none⟩=some (.int .i64 AA):=(AJ BK108.out 1).trans rfl; have hcz29_2:w28.cell? ⟨gb108,2,none⟩=some (.int .i64 AC):=(AJ BK108.out 2).trans rfl; have hfz29_0:=AN BK108.out 0; have hfz29_1:=AN BK108.out 1; have hfz29_2:=AN BK108.out 2)|(go_at_call 48; (with_reducible refine (Ay.calls k AB ji14 t109 _ A15.out).mono ?_); rintro e w' ⟨rfl,⟨nd,rfl⟩⟩))
      go_ret
      exact ⟨by first|rfl|(simp [AS,AR]<;>rfl)|(simp only [←hji14]; first|rfl|(simp [AS,AR]<;>rfl))|(simp [*,AS,AR]<;>rfl),by repeat (first|(with_reducible first|exact HB.out|apply AI|apply AG|apply AH|refine AV ?_ GE108.out)|exact HB.out)⟩
def Al.f (k:Nat) (AB:Int) (AA:Int) (AC:Int):Option (Bool):=(B5.f k AB AA AC).bind fun t111=>(some t111)
set_option maxHeartbeats 8000000 in
theorem Al.calls (k:Nat) (AB:Int) (AA:Int) (AC:Int) (r:Bool) (w:World) (h:Al.f k AB AA AC=some r):
  Calls Tryd.prog 20 #[.agg #[.int .i64 AB,.int .i64 AA,.int .i64 AC]] w fun e w'=>e= .returned (.bool r)∧Below w.heap.size w w':=by
 have hu33:=Tryd.underlying33
 have HB:=Aside0.mk (Below.refl w.heap.size w)
 have H:((B5.f k AB AA AC).bind fun t111=>(some t111))=some r:=h
 clear h
 replace H:=Option.bind_eq_some_iff.mp H
 obtain ⟨t111,A20,H⟩:=H
 replace H:(some t111)=some r:=H
 have A2:=Aside0.mk A20
 clear A20
 obtain rfl:=Option.some.inj H
 go_enter Tryd.func20,Tryd.ntmps20
 go_wp2_with (first|((with_reducible refine Ar (N:=1) rfl ?_); refine Am ?hg (N:=1) ?hd (cs:= #[.int .i64 AB,.int .i64 AA,.int .i64 AC]) (t:=33) ?hr ?_; (case hd=>rfl); (case hg=>rfl); (case hr=>first|(go_simp; done)|(go_simp; rfl)); intro gb110 hg w3 hbox hb; have n0_:=Aside0.mk (AP (by repeat (first|(with_reducible first|exact HB.out|apply AI|apply AG|apply AH)|exact HB.out)) hb); have n1_:=Aside0.mk (hbox); have n2_:=Aside0.mk ((by rw [hg]; exact (AT (by repeat (first|(with_reducible first|exact HB.out|apply AI|apply AG|apply AH)|exact HB.out))):w.heap.size≤gb110)); have n3_:=Aside0.mk ((by rw [hg]; exact (AT (by repeat (first|(with_reducible first|exact HB.out|apply AI|apply AG|apply AH)|exact HB.out))):w.heap.size≤gb110)); clear HB; have HB:=n0_; have BK110:=n1_; have GW110:=n2_; have GE110:=n3_; clear n0_ n1_ n2_ n3_; clear hb hbox hg; have hcz4_0:w3.cell? ⟨gb110,0,none⟩=some (.int .i64 AB):=(AJ BK110.out 0).trans rfl; have hcz4_1:w3.cell? ⟨gb110,1,none⟩=some (.int .i64 AA):=(AJ BK110.out 1).trans rfl; have hcz4_2:w3.cell? ⟨gb110,2,none⟩=some (.int .i64 AC):=(AJ BK110.out 2).trans rfl; have hfz4_0:=AN BK110.out 0; have hfz4_1:=AN BK110.out 1; have hfz4_2:=AN BK110.out 2)|((with_reducible refine AQ (f:=40) rfl ?_); refine Ag (some 4) rfl rfl Tryd.func40 (by kernel_rfl) rfl #[.agg #[.int .i64 AB,.int .i64 AA,.int .i64 AC]] rfl (by (try simp only [List.map_toArray,List.map_cons,List.map_nil]); first|done|rfl|(simp only [List.length_drop,List.length_take]; rfl)) ?_; (with_reducible refine (B5.calls k AB AA AC t111 _ A2.out).mono ?_); rintro e w5 ⟨rfl,hb⟩; refine ⟨_,rfl,?_⟩; have n0_:=Aside0.mk (Ai (g:=gb110) (o:= .cells #[.int .i64 AB,.int .i64 AA,.int .i64 AC] 33 (0,0)) (by (with_reducible repeat (first|refine Ab ?_ _|refine AZ ?_|refine Ac ?_ _)); exact BK110.out) hb); have n1_:=Aside0.mk (AP (by repeat (first|(with_reducible first|exact HB.out|apply AI|apply AG|apply AH|refine AV ?_ GE110.out)|exact HB.out)) hb); clear BK110; clear HB; have BK110:=n0_; have HB:=n1_; clear n0_ n1_; (try clear hb); (try clear hb2); (try clear hk); (try clear hi)))
 go_ret
 exact ⟨by first|rfl|(simp [AS,AR]<;>rfl)|(simp [*,AS,AR]<;>rfl),by repeat (first|(with_reducible first|exact HB.out|apply AI|apply AG|apply AH|refine AV ?_ GE110.out)|exact HB.out)⟩
def Az.f (a0:Int):Option (Int):=some (mx a0 (wrap64 (-a0)))
set_option maxHeartbeats 8000000 in
theorem Az.calls (a0:Int) (r:Int) (w:World) (h:Az.f a0=some r):
  Calls Tryd.prog 38 #[.int .i64 a0] w fun e w'=>e= .returned (.int .i64 r)∧Below w.heap.size w w':=by
 have HB:=Aside0.mk (Below.refl w.heap.size w)
 have H:(some (mx a0 (wrap64 (-a0))))=some r:=h
 clear h
 obtain ⟨ji2,hji2⟩:∃j_:Int,(mx a0 (wrap64 (-a0)))=j_:=⟨_,rfl⟩
 replace H:(some ji2)=some r:=by first|(rw [hji2] at H; exact H)|(simp only [hji2] at H ⊢; exact H)
 have hji2_:(if a0<(wrap64 (-a0)) then (wrap64 (-a0)) else a0)=ji2:=hji2
 obtain rfl:=Option.some.inj H
 go_enter Tryd.func38,Tryd.ntmps38
 go_wp2
 go_ret
 exact ⟨by first|rfl|(simp [AS,AR]<;>rfl)|(simp only [←hji2]; first|rfl|(simp [AS,AR]<;>rfl))|(simp [*,AS,AR]<;>rfl),by repeat (first|(with_reducible first|exact HB.out|apply AI|apply AG|apply AH)|exact HB.out)⟩
def B6.f (k:Nat) (AB:Int) (AA:Int) (AC:Int):Option (Int×Bool×Int):=(Al.f k AB AA AC).bind fun t113=>(if t113=true then (if AA=0 then (some (0,false,15)) else ((Az.f AA).bind fun t114=>(if t114=0 then (none) else (some (wrap64 (Int.tdiv (wrap64 (1000*AB)) t114),((Int.tmod (wrap64 (1000*AB)) t114)==0),0))))) else (some (0,false,1)))
set_option maxHeartbeats 8000000 in
theorem B6.calls (k:Nat) (AB:Int) (AA:Int) (AC:Int) (r1:Int) (r2:Bool) (r3:Int) (w:World) (h:B6.f k AB AA AC=some (r1,r2,r3)):
  Calls Tryd.prog 18 #[.agg #[.int .i64 AB,.int .i64 AA,.int .i64 AC]] w fun e w'=>e= .returned (.tuple #[.int .i64 r1,.bool r2,.int .i64 r3])∧Below w.heap.size w w':=by
 have hu33:=Tryd.underlying33
 have HB:=Aside0.mk (Below.refl w.heap.size w)
 have H:((Al.f k AB AA AC).bind fun t113=>(if t113=true then (if AA=0 then (some (0,false,15)) else ((Az.f AA).bind fun t114=>(if t114=0 then (none) else (some (wrap64 (Int.tdiv (wrap64 (1000*AB)) t114),((Int.tmod (wrap64 (1000*AB)) t114)==0),0))))) else (some (0,false,1))))=some (r1,r2,r3):=h
 clear h
 replace H:=Option.bind_eq_some_iff.mp H
 obtain ⟨t113,A20,H⟩:=H
 replace H:(if t113=true then (if AA=0 then (some (0,false,15)) else ((Az.f AA).bind fun t114=>(if t114=0 then (none) else (some (wrap64 (Int.tdiv (wrap64 (1000*AB)) t114),((Int.tmod (wrap64 (1000*AB)) t114)==0),0))))) else (some (0,false,1)))=some (r1,r2,r3):=H
 have A2:=Aside0.mk A20
 clear A20
 by_cases c3:t113=true
 ·subst c3
  have H1:(if AA=0 then (some (0,false,15)) else ((Az.f AA).bind fun t114=>(if t114=0 then (none) else (some (wrap64 (Int.tdiv (wrap64 (1000*AB)) t114),((Int.tmod (wrap64 (1000*AB)) t114)==0),0)))))=some (r1,r2,r3):=by rw [if_pos rfl] at H; exact H
  clear H
  have H:=H1
  clear H1
  by_cases c4:AA=0
  ·rw [if_pos c4] at H
   have c4b0:(AA==0)=true:=beq_iff_eq.mpr c4
   have c4b1:(AA !=0)=false:=bne_eq_false_iff_eq.mpr c4
   clear c4
   simp only [Option.some.injEq,Prod.mk.injEq] at H
   obtain ⟨rfl,rfl,rfl⟩:=H
   go_enter Tryd.func18,Tryd.ntmps18
   go_wp2_with (first|((with_reducible refine Ar (N:=1) rfl ?_); refine Am ?hg (N:=1) ?hd (cs:= #[.int .i64 AB,.int .i64 AA,.int .i64 AC]) (t:=33) ?hr ?_; (case hd=>rfl); (case hg=>rfl); (case hr=>first|(go_simp; done)|(go_simp; rfl)); intro gb112 hg w5 hbox hb; have n0_:=Aside0.mk (AP (by repeat (first|(with_reducible first|exact HB.out|apply AI|apply AG|apply AH)|exact HB.out)) hb); have n1_:=Aside0.mk (hbox); have n2_:=Aside0.mk ((by rw [hg]; exact (AT (by repeat (first|(with_reducible first|exact HB.out|apply AI|apply AG|apply AH)|exact HB.out))):w.heap.size≤gb112)); have n3_:=Aside0.mk ((by rw [hg]; exact (AT (by repeat (first|(with_reducible first|exact HB.out|apply AI|apply AG|apply AH)|exact HB.out))):w.heap.size≤gb112)); clear HB; have HB:=n0_; have BK112:=n1_; have GW112:=n2_; have GE112:=n3_; clear n0_ n1_ n2_ n3_; clear hb hbox hg; have hcz6_0:w5.cell? ⟨gb112,0,none⟩=some (.int .i64 AB):=(AJ BK112.out 0).trans rfl; have hcz6_1:w5.cell? ⟨gb112,1,none⟩=some (.int .i64 AA):=(AJ BK112.out 1).trans rfl; have hcz6_2:w5.cell? ⟨gb112,2,none⟩=some (.int .i64 AC):=(AJ BK112.out 2).trans rfl; have hfz6_0:=AN BK112.out 0; have hfz6_1:=AN BK112.out 1; have hfz6_2:=AN BK112.out 2)|(go_at_call 20; (with_reducible refine (Al.calls k AB AA AC true _ A2.out).mono ?_); rintro e w7 ⟨rfl,hb⟩; have n0_:=Aside0.mk (Ai (g:=gb112) (o:= .cells #[.int .i64 AB,.int .i64 AA,.int .i64 AC] 33 (0,0)) (by (with_reducible repeat (first|refine Ab ?_ _|refine AZ ?_|refine Ac ?_ _)); exact BK112.out) hb); have n1_:=Aside0.mk (AP (by repeat (first|(with_reducible first|exact HB.out|apply AI|apply AG|apply AH|refine AV ?_ GE112.out)|exact HB.out)) hb); clear BK112; clear HB; have BK112:=n0_; have HB:=n1_; clear n0_ n1_; (try clear hb); (try clear hb2); (try clear hk); (try clear hi); have hcz8_0:w7.cell? ⟨gb112,0,none⟩=some (.int .i64 AB):=(AJ BK112.out 0).trans rfl; have hcz8_1:w7.cell? ⟨gb112,1,none⟩=some (.int .i64 AA):=(AJ BK112.out 1).trans rfl; have hcz8_2:w7.cell? ⟨gb112,2,none⟩=some (.int .i64 AC):=(AJ BK112.out 2).trans rfl; have hfz8_0:=AN BK112.out 0; have hfz8_1:=AN BK112.out 1; have hfz8_2:=AN BK112.out 2))
   repeat (go_quiet (first|((with_reducible refine Ar (N:=1) rfl ?_); refine Am ?hg (N:=1) ?hd (cs:= #[.int .i64 AB,.int .i64 AA,.int .i64 AC]) (t:=33) ?hr ?_; (case hd=>rfl); (case hg=>rfl); (case hr=>first|(go_simp; done)|(go_simp; rfl)); intro gb112 hg w5 hbox hb; have n0_:=Aside0.mk (AP (by repeat (first|(with_reducible first|exact HB.out|apply AI|apply AG|apply AH)|exact HB.out)) hb); have n1_:=Aside0.mk (hbox); have n2_:=Aside0.mk ((by rw [hg]; exact (AT (by repeat (first|(with_reducible first|exact HB.out|apply AI|apply AG|apply AH)|exact HB.out))):w.heap.size≤gb112)); have n3_:=Aside0.mk ((by rw [hg]; exact (AT (by repeat (first|(with_reducible first|exact HB.out|apply AI|apply AG|apply AH)|exact HB.out))):w.heap.size≤gb112)); clear HB; have HB:=n0_; have BK112:=n1_; have GW112:=n2_; have GE112:=n3_; clear n0_ n1_ n2_ n3_; clear hb hbox hg; have hcz6_0:w5.cell? ⟨gb112,0,none⟩=some (.int .i64 AB):=(AJ BK112.out 0).trans rfl; have hcz6_1:w5.cell? ⟨gb112,1,none⟩=some (.int .i64 AA):=(AJ BK112.out 1).trans rfl; have hcz6_2:w5.cell? ⟨gb112,2,none⟩=some (.int .i64 AC):=(AJ BK112.out 2).trans rfl; have hfz6_0:=AN BK112.out 0; have hfz6_1:=AN BK112.out 1; have hfz6_2:=AN BK112.out 2)|(go_at_call 20; (with_reducible refine (Al.calls k AB AA AC true _ A2.out).mono ?_); rintro e w7 ⟨rfl,hb⟩; have n0_:=Aside0.mk (Ai (g:=gb112) (o:= .cells #[.int .i64 AB,.int .i64 AA,.int .i64 AC] 33 (0,0)) (by (with_reducible repeat (first|refine Ab ?_ _|refine AZ ?_|refine Ac ?_ _)); exact BK112.out) hb); have n1_:=Aside0.mk (AP (by repeat (first|(with_reducible first|exact HB.out|apply AI|apply AG|apply AH|refine AV ?_ GE112.out)|exact HB.out)) hb); clear BK112; clear HB; have BK112:=n0_; have HB:=n1_; clear n0_ n1_; (try clear hb); (try clear hb2); (try clear hk); (try clear hi); have hcz8_0:w7.cell? ⟨gb112,0,none⟩=some (.int .i64 AB):=(AJ BK112.out 0).trans rfl; have hcz8_1:w7.cell? ⟨gb112,1,none⟩=some (.int .i64 AA):=(AJ BK112.out 1).trans rfl; have hcz8_2:w7.cell? ⟨gb112,2,none⟩=some (.int .i64 AC):=(AJ BK112.out 2).trans rfl; have hfz8_0:=AN BK112.out 0; have hfz8_1:=AN BK112.out 1; have hfz8_2:=AN BK112.out 2; clear A2)); try go_wp2_with (first|((with_reducible refine Ar (N:=1) rfl ?_); refine Am ?hg (N:=1) ?hd (cs:= #[.int .i64 AB,.int .i64 AA,.int .i64 AC]) (t:=33) ?hr ?_; (case hd=>rfl); (case hg=>rfl); (case hr=>first|(go_simp; done)|(go_simp; rfl)); intro gb112 hg w5 hbox hb; have n0_:=Aside0.mk (AP (by repeat (first|(with_reducible first|exact HB.out|apply AI|apply AG|apply AH)|exact HB.out)) hb); have n1_:=Aside0.mk (hbox); have n2_:=Aside0.mk ((by rw [hg]; exact (AT (by repeat (first|(with_reducible first|exact HB.out|apply AI|apply AG|apply AH)|exact HB.out))):w.heap.size≤gb112)); have n3_:=Aside0.mk ((by rw [hg]; exact (AT (by repeat (first|(with_reducible first|exact HB.out|apply AI|apply AG|apply AH)|exact HB.out))):w.heap.size≤gb112)); clear HB; have HB:=n0_; have BK112:=n1_; have GW112:=n2_; have GE112:=n3_; clear n0_ n1_ n2_ n3_; clear hb hbox hg; have hcz6_0:w5.cell? ⟨gb112,0,none⟩=some (.int .i64 AB):=(AJ BK112.out 0).trans rfl; have hcz6_1:w5.cell? ⟨gb112,1,none⟩=some (.int .i64 AA):=(AJ BK112.out 1).trans rfl; have hcz6_2:w5.cell? ⟨gb112,2,none⟩=some (.int .i64 AC):=(AJ BK112.out 2).trans rfl; have hfz6_0:=AN BK112.out 0; have hfz6_1:=AN BK112.out 1; have hfz6_2:=AN BK112.out 2)|(go_at_call 20; (with_reducible refine (Al.calls k AB AA AC true _ A2.out).mono ?_); rintro e w7 ⟨rfl,hb⟩; have n0_:=Aside0.mk (Ai (g:=gb112) (o:= .cells #[.int .i64 AB,.int .i64 AA,.int .i64 AC] 33 (0,0)) (by (with_reducible repeat (first|refine Ab ?_ _|refine AZ ?_|refine Ac ?_ _)); exact BK112.out) hb); have n1_:=Aside0.mk (AP (by repeat (first|(with_reducible first|exact HB.out|apply AI|apply AG|apply AH|refine AV ?_ GE112.out)|exact HB.out)) hb); clear BK112; clear HB; have BK112:=n0_; have HB:=n1_; clear n0_ n1_; (try clear hb); (try clear hb2); (try clear hk); (try clear hi); have hcz8_0:w7.cell? ⟨gb112,0,none⟩=some (.int .i64 AB):=(AJ BK112.out 0).trans rfl; have hcz8_1:w7.cell? ⟨gb112,1,none⟩=some (.int .i64 AA):=(AJ BK112.out 1).trans rfl; have hcz8_2:w7.cell? ⟨gb112,2,none⟩=some (.int .i64 AC):=(AJ BK112.out 2).trans rfl; have hfz8_0:=AN BK112.out 0; have hfz8_1:=AN BK112.out 1; have hfz8_2:=AN BK112.out 2; clear A2)))
   go_ret3
   exact ⟨by first|rfl|(simp [AS,AR]<;>rfl)|(simp [*,AS,AR]<;>rfl),by repeat (first|(with_reducible first|exact HB.out|apply AI|apply AG|apply AH|refine AV ?_ GE112.out)|exact HB.out)⟩
  ·rw [if_neg c4] at H
   have c4b0:(AA==0)=false:=beq_eq_false_iff_ne.mpr c4
   have c4b1:(AA !=0)=true:=bne_iff_ne.mpr c4
   replace H:=Option.bind_eq_some_iff.mp H
   obtain ⟨t114,A90,H⟩:=H
   replace H:(if t114=0 then (none) else (some (wrap64 (Int.tdiv (wrap64 (1000*AB)) t114),((Int.tmod (wrap64 (1000*AB)) t114)==0),0)))=some (r1,r2,r3):=H
   have A9:=Aside0.mk A90
   clear A90
   by_cases c10:t114=0
   ·rw [if_pos c10] at H
    exact absurd H (by simp)
   ·rw [if_neg c10] at H
    have c10b0:(t114==0)=false:=beq_eq_false_iff_ne.mpr c10
    have c10b1:(t114 !=0)=true:=bne_iff_ne.mpr c10
    simp only [Option.some.injEq,Prod.mk.injEq] at H
    obtain ⟨rfl,rfl,rfl⟩:=H
    go_enter Tryd.func18,Tryd.ntmps18
    go_wp2_with (first|((with_reducible refine Ar (N:=1) rfl ?_); refine Am ?hg (N:=1) ?hd (cs:= #[.int .i64 AB,.int .i64 AA,.int .i64 AC]) (t:=33) ?hr ?_; (case hd=>rfl); (case hg=>rfl); (case hr=>first|(go_simp; done)|(go_simp; rfl)); intro gb112 hg w11 hbox hb; have n0_:=Aside0.mk (AP (by repeat (first|(with_reducible first|exact HB.out|apply AI|apply AG|apply AH)|exact HB.out)) hb); have n1_:=Aside0.mk (hbox); have n2_:=Aside0.mk ((by rw [hg]; exact (AT (by repeat (first|(with_reducible first|exact HB.out|apply AI|apply AG|apply AH)|exact HB.out))):w.heap.size≤gb112)); have n3_:=Aside0.mk ((by rw [hg]; exact (AT (by repeat (first|(with_reducible first|exact HB.out|apply AI|apply AG|apply AH)|exact HB.out))):w.heap.size≤gb112)); clear HB; have HB:=n0_; have BK112:=n1_; have GW112:=n2_; have GE112:=n3_; clear n0_ n1_ n2_ n3_; clear hb hbox hg; have hcz12_0:w11.cell? ⟨gb112,0,none⟩=some (.int .i64 AB):=(AJ BK112.out 0).trans rfl; have hcz12_1:w11.cell? ⟨gb112,1,none⟩=some (.int .i64 AA):=(AJ BK112.out 1).trans rfl; have hcz12_2:w11.cell? ⟨gb112,2,none⟩=some (.int .i64 AC):=(AJ BK112.out 2).trans rfl; have hfz12_0:=AN BK112.out 0; have hfz12_1:=AN BK112.out 1; have hfz12_2:=AN BK112.out 2)|(go_at_call 20; (with_reducible refine (Al.calls k AB AA AC true _ A2.out).mono ?_); rintro e w13 ⟨rfl,hb⟩; have n0_:=Aside0.mk (Ai (g:=gb112) (o:= .cells #[.int .i64 AB,.int .i64 AA,.int .i64 AC] 33 (0,0)) (by (with_reducible repeat (first|refine Ab ?_ _|refine AZ ?_|refine Ac ?_ _)); exact BK112.out) hb); have n1_:=Aside0.mk (AP (by repeat (first|(with_reducible first|exact HB.out|apply AI|apply AG|apply AH|refine AV ?_ GE112.out)|exact HB.out)) hb); clear BK112; clear HB; have BK112:=n0_; have HB:=n1_; clear n0_ n1_; (try clear hb); (try clear hb2); (try clear hk); (try clear hi); have hcz14_0:w13.cell? ⟨gb112,0,none⟩=some (.int .i64 AB):=(AJ BK112.out 0).trans rfl; have hcz14_1:w13.cell? ⟨gb112,1,none⟩=some (.int .i64 AA):=(AJ BK112.out 1).trans rfl; have hcz14_2:w13.cell? ⟨gb112,2,none⟩=some (.int .i64 AC):=(AJ BK112.out 2).trans rfl; have hfz14_0:=AN BK112.out 0; have hfz14_1:=AN BK112.out 1; have hfz14_2:=AN BK112.out 2)|(go_at_call 38; (with_reducible refine (Az.calls AA t114 _ A9.out).mono ?_); rintro e w15 ⟨rfl,hb⟩; have n0_:=Aside0.mk (Ai (g:=gb112) (o:= .cells #[.int .i64 AB,.int .i64 AA,.int .i64 AC] 33 (0,0)) (by (with_reducible repeat (first|refine Ab ?_ _|refine AZ ?_|refine Ac ?_ _)); exact BK112.out) hb); have n1_:=Aside0.mk (AP (by repeat (first|(with_reducible first|exact HB.out|apply AI|apply AG|apply AH|refine AV ?_ GE112.out)|exact HB.out)) hb); clear BK112; clear HB; have BK112:=n0_; have HB:=n1_; clear n0_ n1_; (try clear hb); (try clear hb2); (try clear hk); (try clear hi); have hcz16_0:w15.cell? ⟨gb112,0,none⟩=some (.int .i64 AB):=(AJ BK112.out 0).trans rfl; have hcz16_1:w15.cell? ⟨gb112,1,none⟩=some (.int .i64 AA):=(AJ BK112.out 1).trans rfl; have hcz16_2:w15.cell? ⟨gb112,2,none⟩=some (.int .i64 AC):=(AJ BK112.out 2).trans rfl; have hfz16_0:=AN BK112.out 0; have hfz16_1:=AN BK112.out 1; have hfz16_2:=AN BK112.out 2))
    repeat (go_quiet (first|((with_reducible refine Ar (N:=1) rfl ?_); refine Am ?hg (N:=1) ?hd (cs:= #[.int .i64 AB,.int .i64 AA,.int .i64 AC]) (t:=33) ?hr ?_; (case hd=>rfl); (case hg=>rfl); (case hr=>first|(go_simp; done)|(go_simp; rfl)); intro gb112 hg w11 hbox hb; have n0_:=Aside0.mk (AP (by repeat (first|(with_reducible first|exact HB.out|apply AI|apply AG|apply AH)|exact HB.out)) hb); have n1_:=Aside0.mk (hbox); have n2_:=Aside0.mk ((by rw [hg]; exact (AT (by repeat (first|(with_reducible first|exact HB.out|apply AI|apply AG|apply AH)|exact HB.out))):w.heap.size≤gb112)); have n3_:=Aside0.mk ((by rw [hg]; exact (AT (by repeat (first|(with_reducible first|exact HB.out|apply AI|apply AG|apply AH)|exact HB.out))):w.heap.size≤gb112)); clear HB; have HB:=n0_; have BK112:=n1_; have GW112:=n2_; have GE112:=n3_; clear n0_ n1_ n2_ n3_; clear hb hbox hg; have hcz12_0:w11.cell? ⟨gb112,0,none⟩=some (.int .i64 AB):=(AJ BK112.out 0).trans rfl; have hcz12_1:w11.cell? ⟨gb112,1,none⟩=some (.int .i64 AA):=(AJ BK112.out 1).trans rfl; have hcz12_2:w11.cell? ⟨gb112,2,none⟩=some (.int .i64 AC):=(AJ BK112.out 2).trans rfl; have hfz12_0:=AN BK112.out 0; have hfz12_1:=AN BK112.out 1; have hfz12_2:=AN BK112.out 2)|(go_at_call 20; (with_reducible refine (Al.calls k AB AA AC true _ A2.out).mono ?_); rintro e w13 ⟨rfl,hb⟩; have n0_:=Aside0.mk (Ai (g:=gb112) (o:= .cells #[.int .i64 AB,.int .i64 AA,.int .i64 AC] 33 (0,0)) (by (with_reducible repeat (first|refine Ab ?_ _|refine AZ ?_|refine Ac ?_ _)); exact BK112.out) hb); have n1_:=Aside0.mk (AP (by repeat (first|(with_reducible first|exact HB.out|apply AI|apply AG|apply AH|refine AV ?_ GE112.out)|exact HB.out)) hb); clear BK112; clear HB; have BK112:=n0_; have HB:=n1_; clear n0_ n1_; (try clear hb); (try clear hb2); (try clear hk); (try clear hi); have hcz14_0:w13.cell? ⟨gb112,0,none⟩=some (.int .i64 AB):=(AJ BK112.out 0).trans rfl; have hcz14_1:w13.cell? ⟨gb112,1,none⟩=some (.int .i64 AA):=(AJ BK112.out 1).trans rfl; have hcz14_2:w13.cell? ⟨gb112,2,none⟩=some (.int .i64 AC):=(AJ BK112.out 2).trans rfl; have hfz14_0:=AN BK112.out 0; have hfz14_1:=AN BK112.out 1; have hfz14_2:=AN BK112.out 2; clear A2)|(go_at_call 38; (with_reducible refine (Az.calls AA t114 _ A9.out).mono ?_); rintro e w15 ⟨rfl,hb⟩; have n0_:=Aside0.mk (Ai (g:=gb112) (o:= .cells #[.int .i64 AB,.int .i64 AA,.int .i64 AC] 33 (0,0)) (by (with_reducible repeat (first|refine Ab ?_ _|refine AZ ?_|refine Ac ?_ _)); exact BK112.out) hb); have n1_:=Aside0.mk (AP (by repeat (first|(with_reducible first|exact HB.out|apply AI|apply AG|apply AH|refine AV ?_ GE112.out)|exact HB.out)) hb); clear BK112; clear HB; have BK112:=n0_; have HB:=n1_; clear n0_ n1_; (try clear hb); (try clear hb2); (try clear hk); (try clear hi); have hcz16_0:w15.cell? ⟨gb112,0,none⟩=some (.int .i64 AB):=(AJ BK112.out 0).trans rfl; have hcz16_1:w15.cell? ⟨gb112,1,none⟩=some (.int .i64 AA):=(AJ BK112.out 1).trans rfl; have hcz16_2:w15.cell? ⟨gb112,2,none⟩=some (.int .i64 AC):=(AJ BK112.out 2).trans rfl; have hfz16_0:=AN BK112.out 0; have hfz16_1:=AN BK112.out 1; have hfz16_2:=AN BK112.out 2; clear A9)); try go_wp2_with (first|((with_reducible refine Ar (N:=1) rfl ?_); refine Am ?hg (N:=1) ?hd (cs:= #[.int .i64 AB,.int .i64 AA,.int .i64 AC]) (t:=33) ?hr ?_; (case hd=>rfl); (case hg=>rfl); (case hr=>first|(go_simp; done)|(go_simp; rfl)); intro gb112 hg w11 hbox hb; have n0_:=Aside0.mk (AP (by repeat (first|(with_reducible first|exact HB.out|apply AI|apply AG|apply AH)|exact HB.out)) hb); have n1_:=Aside0.mk (hbox); have n2_:=Aside0.mk ((by rw [hg]; exact (AT (by repeat (first|(with_reducible first|exact HB.out|apply AI|apply AG|apply AH)|exact HB.out))):w.heap.size≤gb112)); have n3_:=Aside0.mk ((by rw [hg]; exact (AT (by repeat (first|(with_reducible first|exact HB.out|apply AI|apply AG|apply AH)|exact HB.out))):w.heap.size≤gb112)); clear HB; have HB:=n0_; have BK112:=n1_; have GW112:=n2_; have GE112:=n3_; clear n0_ n1_ n2_ n3_; clear hb hbox hg; have hcz12_0:w11.cell? ⟨gb112,0,none⟩=some (.int .i64 AB):=(AJ BK112.out 0).trans rfl; have hcz12_1:w11.cell? ⟨gb112,1,none⟩=some (.int .i64 AA):=(AJ BK112.out 1).trans rfl; have hcz12_2:w11.cell? ⟨gb112,2,none⟩=some (.int .i64 AC):=(AJ BK112.out 2).trans rfl; have hfz12_0:=AN BK112.out 0; have hfz12_1:=AN BK112.out 1; have hfz12_2:=AN BK112.out 2)|(go_at_call 20; (with_reducible refine (Al.calls k AB AA AC true _ A2.out).mono ?_); rintro e w13 ⟨rfl,hb⟩; have n0_:=Aside0.mk (Ai (g:=gb112) (o:= .cells #[.int .i64 AB,.int .i64 AA,.int .i64 AC] 33 (0,0)) (by (with_reducible repeat (first|refine Ab ?_ _|refine AZ ?_|refine Ac ?_ _)); exact BK112.out) hb); have n1_:=Aside0.mk (AP (by repeat (first|(with_reducible first|exact HB.out|apply AI|apply AG|apply AH|refine AV ?_ GE112.out)|exact HB.out)) hb); clear BK112; clear HB; have BK112:=n0_; have HB:=n1_; clear n0_ n1_; (try clear hb); (try clear hb2); (try clear hk); (try clear hi); have hcz14_0:w13.cell? ⟨gb112,0,none⟩=some (.int .i64 AB):=(AJ BK112.out 0).trans rfl; have hcz14_1:w13.cell? ⟨gb112,1,none⟩=some (.int .i64 AA):=(AJ BK112.out 1).trans rfl; have hcz14_2:w13.cell? ⟨gb112,2,none⟩=some (.int .i64 AC):=(AJ BK112.out 2).trans rfl; have hfz14_0:=AN BK112.out 0; have hfz14_1:=AN BK112.out 1; have hfz14_2:=AN BK112.out 2; clear A2)|(go_at_call 38; (with_reducible refine (Az.calls AA t114 _ A9.out).mono ?_); rintro e w15 ⟨rfl,hb⟩; have n0_:=Aside0.mk (Ai (g:=gb112) (o:= .cells #[.int .i64 AB,.int .i64 AA,.int .i64 AC] 33 (0,0)) (by (with_reducible repeat (first|refine Ab ?_ _|refine AZ ?_|refine Ac ?_ _)); exact BK112.out) hb); have n1_:=Aside0.mk (AP (by repeat (first|(with_reducible first|exact HB.out|apply AI|apply AG|apply AH|refine AV ?_ GE112.out)|exact HB.out)) hb); clear BK112; clear HB; have BK112:=n0_; have HB:=n1_; clear n0_ n1_; (try clear hb); (try clear hb2); (try clear hk); (try clear hi); have hcz16_0:w15.cell? ⟨gb112,0,none⟩=some (.int .i64 AB):=(AJ BK112.out 0).trans rfl; have hcz16_1:w15.cell? ⟨gb112,1,none⟩=some (.int .i64 AA):=(AJ BK112.out 1).trans rfl; have hcz16_2:w15.cell? ⟨gb112,2,none⟩=some (.int .i64 AC):=(AJ BK112.out 2).trans rfl; have hfz16_0:=AN BK112.out 0; have hfz16_1:=AN BK112.out 1; have hfz16_2:=AN BK112.out 2; clear A9)))
    go_ret3
    exact ⟨by first|rfl|(simp [AS,AR]<;>rfl)|(simp [*,AS,AR]<;>rfl),by repeat (first|(with_reducible first|exact HB.out|apply AI|apply AG|apply AH|refine AV ?_ GE112.out)|exact HB.out)⟩
 ·replace c3:=Bool.eq_false_iff.mpr c3
  subst c3
  have H1:(some (0,false,1))=some (r1,r2,r3):=by rw [if_neg (show ¬(false=true) by decide)] at H; exact H
  clear H
  have H:=H1
  clear H1
  simp only [Option.some.injEq,Prod.mk.injEq] at H
  obtain ⟨rfl,rfl,rfl⟩:=H
  go_enter Tryd.func18,Tryd.ntmps18
  go_wp2_with (first|((with_reducible refine Ar (N:=1) rfl ?_); refine Am ?hg (N:=1) ?hd (cs:= #[.int .i64 AB,.int .i64 AA,.int .i64 AC]) (t:=33) ?hr ?_; (case hd=>rfl); (case hg=>rfl); (case hr=>first|(go_simp; done)|(go_simp; rfl)); intro gb112 hg w17 hbox hb; have n0_:=Aside0.mk (AP (by repeat (first|(with_reducible first|exact HB.out|apply AI|apply AG|apply AH)|exact HB.out)) hb); have n1_:=Aside0.mk (hbox); have n2_:=Aside0.mk ((by rw [hg]; exact (AT (by repeat (first|(with_reducible first|exact HB.out|apply AI|apply AG|apply AH)|exact HB.out))):w.heap.size≤gb112)); have n3_:=Aside0.mk ((by rw [hg]; exact (AT (by repeat (first|(with_reducible first|exact HB.out|apply AI|apply AG|apply AH)|exact HB.out))):w.heap.size≤gb112)); clear HB; have HB:=n0_; have BK112:=n1_; have GW112:=n2_; have GE112:=n3_; clear n0_ n1_ n2_ n3_; clear hb hbox hg; have hcz18_0:w17.cell? ⟨gb112,0,none⟩=some (.int .i64 AB):=(AJ BK112.out 0).trans rfl; have hcz18_1:w17.cell? ⟨gb112,1,none⟩=some (.int .i64 AA):=(AJ BK112.out 1).trans rfl; have hcz18_2:w17.cell? ⟨gb112,2,none⟩=some (.int .i64 AC):=(AJ BK112.out 2).trans rfl; have hfz18_0:=AN BK112.out 0; have hfz18_1:=AN BK112.out 1; have hfz18_2:=AN BK112.out 2)|(go_at_call 20; (with_reducible refine (Al.calls k AB AA AC false _ A2.out).mono ?_); rintro e w19 ⟨rfl,hb⟩; have n0_:=Aside0.mk (Ai (g:=gb112) (o:= .cells #[.int .i64 AB,.int .i64 AA,.int .i64 AC] 33 (0,0)) (by (with_reducible repeat (first|refine Ab ?_ _|refine AZ ?_|refine Ac ?_ _)); exact BK112.out) hb); have n1_:=Aside0.mk (AP (by repeat (first|(with_reducible first|exact HB.out|apply AI|apply AG|apply AH|refine AV ?_ GE112.out)|exact HB.out)) hb); clear BK112; clear HB; have BK112:=n0_; have HB:=n1_; clear n0_ n1_; (try clear hb); (try clear hb2); (try clear hk); (try clear hi)))
  repeat (go_quiet (first|((with_reducible refine Ar (N:=1) rfl ?_); refine Am ?hg (N:=1) ?hd (cs:= #[.int .i64 AB,.int .i64 AA,.int .i64 AC]) (t:=33) ?hr ?_; (case hd=>rfl); (case hg=>rfl); (case hr=>first|(go_simp; done)|(go_simp; rfl)); intro gb112 hg w17 hbox hb; have n0_:=Aside0.mk (AP (by repeat (first|(with_reducible first|exact HB.out|apply AI|apply AG|apply AH)|exact HB.out)) hb); have n1_:=Aside0.mk (hbox); have n2_:=Aside0.mk ((by rw [hg]; exact (AT (by repeat (first|(with_reducible first|exact HB.out|apply AI|apply AG|apply AH)|exact HB.out))):w.heap.size≤gb112)); have n3_:=Aside0.mk ((by rw [hg]; exact (AT (by repeat (first|(with_reducible first|exact HB.out|apply AI|apply AG|apply AH)|exact HB.out))):w.heap.size≤gb112)); clear HB; have HB:=n0_; have BK112:=n1_; have GW112:=n2_; have GE112:=n3_; clear n0_ n1_ n2_ n3_; clear hb hbox hg; have hcz18_0:w17.cell? ⟨gb112,0,none⟩=some (.int .i64 AB):=(AJ BK112.out 0).trans rfl; have hcz18_1:w17.cell? ⟨gb112,1,none⟩=some (.int .i64 AA):=(AJ BK112.out 1).trans rfl; have hcz18_2:w17.cell? ⟨gb112,2,none⟩=some (.int .i64 AC):=(AJ BK112.out 2).trans rfl; have hfz18_0:=AN BK112.out 0; have hfz18_1:=AN BK112.out 1; have hfz18_2:=AN BK112.out 2)|(go_at_call 20; (with_reducible refine (Al.calls k AB AA AC false _ A2.out).mono ?_); rintro e w19 ⟨rfl,hb⟩; have n0_:=Aside0.mk (Ai (g:=gb112) (o:= .cells #[.int .i64 AB,.int .i64 AA,.int .i64 AC] 33 (0,0)) (by (with_reducible repeat (first|refine Ab ?_ _|refine AZ ?_|refine Ac ?_ _)); exact BK112.out) hb); have n1_:=Aside0.mk (AP (by repeat (first|(with_reducible first|exact HB.out|apply AI|apply AG|apply AH|refine AV ?_ GE112.out)|exact HB.out)) hb); clear BK112; clear HB; have BK112:=n0_; have HB:=n1_; clear n0_ n1_; (try clear hb); (try clear hb2); (try clear hk); (try clear hi); clear A2)); try go_wp2_with (first|((with_reducible refine Ar (N:=1) rfl ?_); refine Am ?hg (N:=1) ?hd (cs:= #[.int .i64 AB,.int .i64 AA,.int .i64 AC]) (t:=33) ?hr ?_; (case hd=>rfl); (case hg=>rfl); (case hr=>first|(go_simp; done)|(go_simp; rfl)); intro gb112 hg w17 hbox hb; have n0_:=Aside0.mk (AP (by repeat (first|(with_reducible first|exact HB.out|apply AI|apply AG|apply AH)|exact HB.out)) hb); have n1_:=Aside0.mk (hbox); have n2_:=Aside0.mk ((by rw [hg]; exact (AT (by repeat (first|(with_reducible first|exact HB.out|apply AI|apply AG|apply AH)|exact HB.out))):w.heap.size≤gb112)); have n3_:=Aside0.mk ((by rw [hg]; exact (AT (by repeat (first|(with_reducible first|exact HB.out|apply AI|apply AG|apply AH)|exact HB.out))):w.heap.size≤gb112)); clear HB; have HB:=n0_; have BK112:=n1_; have GW112:=n2_; have GE112:=n3_; clear n0_ n1_ n2_ n3_; clear hb hbox hg; have hcz18_0:w17.cell? ⟨gb112,0,none⟩=some (.int .i64 AB):=(AJ BK112.out 0).trans rfl; have hcz18_1:w17.cell? ⟨gb112,1,none⟩=some (.int .i64 AA):=(AJ BK112.out 1).trans rfl; have hcz18_2:w17.cell? ⟨gb112,2,none⟩=some (.int .i64 AC):=(AJ BK112.out 2).trans rfl; have hfz18_0:=AN BK112.out 0; have hfz18_1:=AN BK112.out 1; have hfz18_2:=AN BK112.out 2)|(go_at_call 20; (with_reducible refine (Al.calls k AB AA AC false _ A2.out).mono ?_); rintro e w19 ⟨rfl,hb⟩; have n0_:=Aside0.mk (Ai (g:=gb112) (o:= .cells #[.int .i64 AB,.int .i64 AA,.int .i64 AC] 33 (0,0)) (by (with_reducible repeat (first|refine Ab ?_ _|refine AZ ?_|refine Ac ?_ _)); exact BK112.out) hb); have n1_:=Aside0.mk (AP (by repeat (first|(with_reducible first|exact HB.out|apply AI|apply AG|apply AH|refine AV ?_ GE112.out)|exact HB.out)) hb); clear BK112; clear HB; have BK112:=n0_; have HB:=n1_; clear n0_ n1_; (try clear hb); (try clear hb2); (try clear hk); (try clear hi); clear A2)))
  go_ret3
  exact ⟨by first|rfl|(simp [AS,AR]<;>rfl)|(simp [*,AS,AR]<;>rfl),by repeat (first|(with_reducible first|exact HB.out|apply AI|apply AG|apply AH|refine AV ?_ GE112.out)|exact HB.out)⟩
end Go.Proofs.YtgfjidlckocflaaDoor.PAll
end
section
namespace Go.Proofs.StSort
set_option maxRecDepth 100000
open Go.Sort
variable {α:Type} [Inhabited α] {key:α→Int} {idx:α→Nat}
def R (key:α→Int) (idx:α→Nat) (x y:α):Prop:=key x<key y∨(key x=key y∧idx x<idx y)
theorem R.trans {x y z:α} (h:R key idx x y) (g:R key idx y z):R key idx x z:=by unfold R at*; omega
def cfk (key:α→Int) (x y:α):Int:=key x-key y
def ltk (key:α→Int) (x y:α):Bool:=decide (cfk key x y<0)
theorem E4 {x y:α} :ltk key x y=true↔key x<key y:=by unfold ltk cfk; simp only [decide_eq_true_eq]; omega
theorem DT {x y:α} :ltk key x y=false↔key y≤key x:=by unfold ltk cfk; simp only [decide_eq_false_iff_not]; omega
def SR (key:α→Int) (idx:α→Nat) (a b:Nat) (d:Array α):Prop:=∀p q,a≤p→p<q→q<b→R key idx d[p]! d[q]!
def Cross (idx:α→Nat) (a m b:Nat) (d:Array α):Prop:=∀p q,a≤p→p<m→m≤q→q<b→idx d[p]! <idx d[q]!
structure Pre (key:α→Int) (idx:α→Nat) (a m b:Nat) (d:Array α):Prop where
 l:SR key idx a m d
 r:SR key idx m b d
 c:Cross idx a m b d
def Post (key:α→Int) (idx:α→Nat) (a b:Nat) (d d':Array α):Prop:=PermIn a b d d'∧SR key idx a b d'
structure Rot (d:Array α) (s m e:Nat) (d':Array α):Prop where
 size:d'.size=d.size
 lo:∀p,s≤p→p<s+(e-m)→d'[p]! =d[p+(m-s)]!
 hi:∀p,s+(e-m)≤p→p<e→d'[p]! =d[p-(e-m)]!
 out:∀p,p<s∨e≤p→d'[p]! =d[p]!
structure SwR (d:Array α) (a b n:Nat) (d':Array α):Prop where
 size:d'.size=d.size
 lo:∀p,a≤p→p<a+n→d'[p]! =d[p-a+b]!
 hi:∀p,b≤p→p<b+n→d'[p]! =d[p-b+a]!
 out:∀p,(p<a∨a+n≤p)→(p<b∨b+n≤p)→d'[p]! =d[p]!
theorem Rot.none {d:Array α} {s m e:Nat} (h:s=m∨m=e) (hs:s≤m) (he:m≤e):Rot d s m e d:=by
 refine ⟨rfl,fun p h1 h2=> ?_,fun p h1 h2=> ?_,fun _ _=>rfl⟩
 ·rcases h with rfl|rfl
  ·rw [show p+(s-s)=p by omega]
  ·omega
 ·rcases h with rfl|rfl
  ·omega
  ·rw [show p-(m-m)=p by omega]
theorem Rot.perm {d d':Array α} {s m e:Nat} (h:Rot d s m e d') (hs:s≤m) (he:m≤e) (hb:e≤d.size):PermIn s e d d':=by
 refine ⟨h.size,h.out,?_⟩
 rw [extract_toList d' s e (by rw [h.size]; exact hb),extract_toList d s e hb]
 have e1:(List.range' s (e-s)).map (fun i=>d'[i]!)=(List.range' m (e-m)).map (fun i=>d[i]!)++(List.range' s (m-s)).map (fun i=>d[i]!):=by
  apply List.ext_getElem
  ·simp; omega
  ·intro k h1 h2
   have hk:k<e-s:=by simpa using h1
   rw [List.getElem_append]
   simp only [List.getElem_map,List.getElem_range',Nat.one_mul,List.length_map,List.length_range']
   by_cases hc:k<e-m
   ·rw [dif_pos hc,h.lo (s+k) (by omega) (by omega),show s+k+(m-s)=m+k by omega]
   ·rw [dif_neg hc,h.hi (s+k) (by omega) (by omega),show s+k-(e-m)=s+(k-(e-m)) by omega]
 have e2:List.range' s (e-s)=List.range' s (m-s)++List.range' m (e-m):=by
  have:=List.range'_append_1 (s:=s) (m:=m-s) (n:=e-m)
  rw [show s+(m-s)=m by omega,show m-s+(e-m)=e-s by omega] at this
  exact this.symm
 rw [e1,e2,List.map_append]
 exact List.perm_append_comm
theorem SwR.rot {d d':Array α} {m i:Nat} (h:SwR d (m-i) m i d') (hi:i≤m):Rot d (m-i) m (m+i) d':=by
 refine ⟨h.size,fun p h1 h2=> ?_,fun p h1 h2=> ?_,fun p hp=>h.out p (by omega) (by omega)⟩
 ·rw [h.lo p h1 (by omega),show p-(m-i)+m=p+(m-(m-i)) by omega]
 ·rw [h.hi p (by omega) (by omega),show p-m+(m-i)=p-(m+i-m) by omega]
theorem SwR.step_i {d d' D:Array α} {m i j:Nat} (h:SwR d (m-i) m j d') (hi:i≤m) (hj:j<i) (hR:Rot d' (m-(i-j)) m (m+j) D):Rot d (m-i) m (m+j) D:=by
 refine ⟨hR.size.trans h.size,fun p h1 h2=> ?_,fun p h1 h2=> ?_,fun p hp=> ?_⟩
 ·rw [hR.out p (by omega),h.lo p h1 (by omega),show p-(m-i)+m=p+(m-(m-i)) by omega]
 ·by_cases hc:p<m-(i-j)+(m+j-m)
  ·rw [hR.lo p (by omega) hc,h.hi (p+(m-(m-(i-j)))) (by omega) (by omega)]; congr 1; omega
  ·rw [hR.hi p (by omega) h2,h.out (p-(m+j-m)) (by omega) (by omega)]
 ·rw [hR.out p (by omega),h.out p (by omega) (by omega)]
theorem SwR.step_j {d d' D:Array α} {m i j:Nat} (h:SwR d (m-i) (m+j-i) i d') (hi:i≤m) (hj:i<j) (hR:Rot d' (m-i) m (m+(j-i)) D):Rot d (m-i) m (m+j) D:=by
 refine ⟨hR.size.trans h.size,fun p h1 h2=> ?_,fun p h1 h2=> ?_,fun p hp=> ?_⟩
 ·by_cases hc:p<m-i+(m+(j-i)-m)
  ·rw [hR.lo p h1 hc,h.out (p+(m-(m-i))) (by omega) (by omega)]
  ·rw [hR.hi p (by omega) (by omega),h.lo (p-(m+(j-i)-m)) (by omega) (by omega)]; congr 1; omega
 ·rw [hR.out p (by omega),h.hi p (by omega) (by omega)]; congr 1; omega
 ·rw [hR.out p (by omega),h.out p (by omega) (by omega)]
theorem SwR.zero {d:Array α} {a b:Nat} :SwR d a b 0 d:=⟨rfl,fun p h1 h2=>by omega,fun p h1 h2=>by omega,fun _ _ _=>rfl⟩
theorem SwR.succ {d d':Array α} {a b n:Nat} (h:SwR d a b n d') (hab:a+n<b) (hb:b+n<d.size):SwR d a b (n+1) (swp d' (a+n) (b+n)):=by
 have g:=fun k=>swp_get d' (i:=a+n) (j:=b+n) (by rw [h.size]; omega) (by rw [h.size]; omega) k
 refine ⟨by rw [swp_size]; exact h.size,fun p h1 h2=> ?_,fun p h1 h2=> ?_,fun p h1 h2=> ?_⟩
 ·rw [g,if_neg (by omega)]
  by_cases hp:p=a+n
  ·rw [if_pos hp,h.out (b+n) (by omega) (by omega)]; congr 1; omega
  ·rw [if_neg hp,h.lo p h1 (by omega)]
 ·rw [g]
  by_cases hp:p=b+n
  ·rw [if_pos hp,h.out (a+n) (by omega) (by omega)]; congr 1; omega
  ·rw [if_neg hp,if_neg (by omega),h.hi p h1 (by omega)]
 ·rw [g,if_neg (by omega),if_neg (by omega),h.out p (by omega) (by omega)]
theorem Rot.up {d d':Array α} {a k:Nat} (h:Rot d a (a+1) (k+1) d') (hk:a≤k) (hb:k+1<d.size):Rot d a (a+1) (k+2) (swp d' k (k+1)):=by
 have g:=fun p=>swp_get d' (i:=k) (j:=k+1) (by rw [h.size]; omega) (by rw [h.size]; omega) p
 refine ⟨by rw [swp_size]; exact h.size,fun p h1 h2=> ?_,fun p h1 h2=> ?_,fun p hp=> ?_⟩
 ·rw [g,if_neg (by omega)]
  by_cases hp:p=k
  ·rw [if_pos hp,h.out (k+1) (by omega)]; congr 1; omega
  ·rw [if_neg hp,h.lo p h1 (by omega)]
 ·have hp:p=k+1:=by omega
  rw [g,if_pos hp,h.hi k (by omega) (by omega)]; congr 1; omega
 ·rw [g,if_neg (by omega),if_neg (by omega),h.out p (by omega)]
theorem Rot.down {d d':Array α} {m k:Nat} (h:Rot d (k+1) m (m+1) d') (hk:k+1≤m) (hb:m<d.size):Rot d k m (m+1) (swp d' (k+1) k):=by
 have g:=fun p=>swp_get d' (i:=k+1) (j:=k) (by rw [h.size]; omega) (by rw [h.size]; omega) p
 refine ⟨by rw [swp_size]; exact h.size,fun p h1 h2=> ?_,fun p h1 h2=> ?_,fun p hp=> ?_⟩
 ·have hp:p=k:=by omega
  rw [g,if_pos hp,h.lo (k+1) (by omega) (by omega)]; congr 1; omega
 ·rw [g,if_neg (by omega)]
  by_cases hp:p=k+1
  ·rw [if_pos hp,h.out k (by omega)]; congr 1; omega
  ·rw [if_neg hp,h.hi p (by omega) h2]
 ·rw [g,if_neg (by omega),if_neg (by omega),h.out p (by omega)]
theorem Cp {x y:α} (hi:idx x<idx y):ltk key y x=true↔R key idx y x:=by rw [E4]; unfold R; omega
theorem CT {x y:α} (hi:idx x<idx y):ltk key y x=false↔R key idx x y:=by rw [DT]; unfold R; omega
theorem Rot.from_lo {d d':Array α} {s m e:Nat} (h:Rot d s m e d') (hs:s≤m) (he:m≤e) {a p:Nat} (hp:a≤p) (hp2:p<s+(e-m)):
  (p<s∧d'[p]! =d[p]!)∨(s≤p∧m≤p+(m-s)∧p+(m-s)<e∧d'[p]! =d[p+(m-s)]!):=by
 by_cases hc:p<s
 ·exact .inl ⟨hc,h.out p (.inl hc)⟩
 ·exact .inr ⟨by omega,by omega,by omega,h.lo p (by omega) hp2⟩
theorem Rot.from_hi {d d':Array α} {s m e:Nat} (h:Rot d s m e d') (hs:s≤m) (he:m≤e) {p:Nat} (hp:s+(e-m)≤p):
  (p<e∧s≤p-(e-m)∧p-(e-m)<m∧d'[p]! =d[p-(e-m)]!)∨(e≤p∧d'[p]! =d[p]!):=by
 by_cases hc:p<e
 ·exact .inl ⟨hc,by omega,by omega,h.hi p hp hc⟩
 ·exact .inr ⟨by omega,h.out p (.inr (by omega))⟩
structure Cut (key:α→Int) (idx:α→Nat) (a m b s e:Nat) (d:Array α):Prop where
 ls:a≤s
 sm:s≤m
 me:m≤e
 eb:e≤b
 c1:∀p q,m≤p→p<e→s≤q→q<m→R key idx d[p]! d[q]!
 c2:∀p q,a≤p→p<s→e≤q→q<b→R key idx d[p]! d[q]!
theorem Cut.parts {a m b s e:Nat} {d d':Array α} (hP:Pre key idx a m b d) (hC:Cut key idx a m b s e d) (hR:Rot d s m e d'):
  Pre key idx a s (s+(e-m)) d'∧Pre key idx (s+(e-m)) e b d'∧(∀p q,a≤p→p<s+(e-m)→s+(e-m)≤q→q<b→R key idx d'[p]! d'[q]!):=by
 obtain ⟨ls,sm,me,eb,c1,c2⟩:=hC
 obtain ⟨pl,pr,pc⟩:=hP
 refine ⟨⟨fun p q h1 h2 h3=> ?_,fun p q h1 h2 h3=> ?_,fun p q h1 h2 h3 h4=> ?_⟩,⟨fun p q h1 h2 h3=> ?_,fun p q h1 h2 h3=> ?_,fun p q h1 h2 h3 h4=> ?_⟩,fun p q h1 h2 h3 h4=> ?_⟩
 ·rw [hR.out p (by omega),hR.out q (by omega)]; exact pl p q h1 h2 (by omega)
 ·rw [hR.lo p h1 (by omega),hR.lo q (by omega) h3]; exact pr _ _ (by omega) (by omega) (by omega)
 ·rw [hR.out p (by omega),hR.lo q h3 h4]; exact pc _ _ h1 (by omega) (by omega) (by omega)
 ·rw [hR.hi p h1 (by omega),hR.hi q (by omega) h3]; exact pl _ _ (by omega) (by omega) (by omega)
 ·rw [hR.out p (by omega),hR.out q (by omega)]; exact pr p q (by omega) h2 h3
 ·rw [hR.hi p h1 h2,hR.out q (by omega)]; exact pc _ _ (by omega) (by omega) (by omega) h4
 ·rcases hR.from_lo sm me h1 h2 with ⟨hp,ep⟩|⟨hp1,hp2,hp3,ep⟩<;>rcases hR.from_hi sm me h3 with ⟨hq1,hq2,hq3,eq⟩|⟨hq,eq⟩<;>rw [ep,eq]
  ·exact pl _ _ h1 (by omega) hq3
  ·exact c2 _ _ h1 hp hq h4
  ·exact c1 _ _ hp2 hp3 hq2 hq3
  ·exact pr _ _ hp2 (by omega) h4
theorem DN {a c b:Nat} {d1 d2 d3:Array α} (ac:a≤c) (cb:c≤b) (hb:b≤d1.size) (hx:∀p q,a≤p→p<c→c≤q→q<b→R key idx d1[p]! d1[q]!) (h2:Post key idx a c d1 d2) (h3:Post key idx c b d2 d3):Post key idx a b d1 d3:=by
  have P2:=permIn_mono d1 d2 a c a b (Nat.le_refl _) cb hb h2.1
  have s2:d2.size=d1.size:=h2.1.1
  have P3:=permIn_mono d2 d3 c b a b ac (Nat.le_refl _) (by rw [s2]; exact hb) h3.1
  refine ⟨permIn_trans _ _ _ _ _ P2 P3,fun p q h1 hpq hq=> ?_⟩
  by_cases hqc:q<c
  · rw [h3.1.2.1 p (by omega),h3.1.2.1 q (by omega)]; exact h2.2 p q h1 hpq hqc
  · by_cases hpc:p<c
    · rw [h3.1.2.1 p (by omega)]
      refine permIn_all d2 d3 c b (fun y=>R key idx d2[p]! y) (by rw [s2]; exact hb) h3.1 (fun k hk1 hk2=> ?_) q (by omega) hq
      rw [h2.1.2.1 k (by omega)]
      exact permIn_all d1 d2 a c (fun x=>R key idx x d1[k]!) (by omega) h2.1 (fun l hl1 hl2=>hx l k hl1 hl2 hk1 hk2) p h1 hpc
    · exact h3.2 p q (by omega) hpq hq
theorem Cut.one {a m b s e:Nat} {d d':Array α} (hb:b≤d.size) (hP:Pre key idx a m b d) (hC:Cut key idx a m b s e d) (hR:Rot d s m e d')
    (c3:∀p q,s≤p→p<m→e≤q→q<b→R key idx d[p]! d[q]!) (c4:∀p q,a≤p→p<s→m≤q→q<e→R key idx d[p]! d[q]!):Post key idx a b d d':=by
  have hp:=hR.perm hC.sm hC.me (by have:=hC.eb; omega)
  obtain ⟨g1,g2,g3⟩:=hC.parts hP hR
  obtain ⟨ls,sm,me,eb,c1,c2⟩:=hC
  refine ⟨permIn_mono _ _ _ _ _ _ ls eb hb hp,fun p q h1 h2 h3=> ?_⟩
  by_cases hq:q<s+(e-m)
  · by_cases hp:s≤p
    · exact g1.r p q hp h2 hq
    · by_cases hqs:q<s
      · exact g1.l p q h1 h2 hqs
      · rw [hR.out p (by omega),hR.lo q (by omega) hq]; exact c4 _ _ h1 (by omega) (by omega) (by omega)
  · by_cases hp:p<s+(e-m)
    · exact g3 p q h1 hp (by omega) h3
    · by_cases hqe:q<e
      · exact g2.l p q (by omega) h2 hqe
      · by_cases hpe:e≤p
        · exact g2.r p q hpe h2 h3
        · rw [hR.hi p (by omega) (by omega),hR.out q (by omega)]; exact c3 _ _ (by omega) (by omega) (by omega) h3
theorem Cut.found {a m b c:Nat} {d:Array α} {n s0 r0:Nat} (hP:Pre key idx a m b d) (am:a<m) (mb:m<b) (hn:n=(a+b)/2+m) (hs0:s0=if m>(a+b)/2 then n-b else a) (hr0:r0=if m>(a+b)/2 then (a+b)/2 else m)
  (h1:s0≤c) (h2:c≤r0) (hl:c=s0∨R key idx d[c-1]! d[n-1-(c-1)]!) (hr:c=r0∨R key idx d[n-1-c]! d[c]!):Cut key idx a m b c (n-c) d:=by
 have hs:a≤s0∧n-b≤s0∧(s0=a∨s0+b=n):=by subst hs0; split<;>omega
 have hrr:r0≤m∧r0+m≤n∧(r0=m∨r0+m=n):=by subst hr0; split<;>omega
 refine ⟨by omega,by omega,by omega,by omega,fun p q p1 p2 q1 q2=> ?_,fun p q p1 p2 q1 q2=> ?_⟩
 ·rcases hr with hr|hr
  ·omega
  ·have e1:R key idx d[p]! d[n-1-c]! ∨p=n-1-c:=by
    by_cases h:p=n-1-c
    ·exact .inr h
    ·exact .inl (hP.r p _ p1 (by omega) (by omega))
   have e2:R key idx d[c]! d[q]! ∨q=c:=by
    by_cases h:q=c
    ·exact .inr h
    ·exact .inl (hP.l c q (by omega) (by omega) q2)
   rcases e1 with e1|rfl<;>rcases e2 with e2|rfl
   ·exact (e1.trans hr).trans e2
   ·exact e1.trans hr
   ·exact hr.trans e2
   ·exact hr
 ·rcases hl with hl|hl
  ·omega
  ·have e1:R key idx d[p]! d[c-1]! ∨p=c-1:=by
    by_cases h:p=c-1
    ·exact .inr h
    ·exact .inl (hP.l p _ p1 (by omega) (by omega))
   have e2:R key idx d[n-1-(c-1)]! d[q]! ∨q=n-1-(c-1):=by
    by_cases h:q=n-1-(c-1)
    ·exact .inr h
    ·exact .inl (hP.r _ q (by omega) (by omega) q2)
   rcases e1 with e1|rfl<;>rcases e2 with e2|rfl
   ·exact (e1.trans hl).trans e2
   ·exact e1.trans hl
   ·exact hl.trans e2
   ·exact hl
def Stab (key:α→Int) (idx:α→Nat) (a b:Nat) (d:Array α):Prop:=∀p q,a≤p→p<q→q<b→key d[p]! =key d[q]! →idx d[p]! <idx d[q]!
theorem Stab.swp {a b j:Nat} {d:Array α} (h:Stab key idx a b d) (haj:a≤j) (hjb:j+1<b) (hb:b≤d.size) (hl:key d[j+1]! <key d[j]!):Stab key idx a b (swp d (j+1) j):=by
  have g:=fun p=>swp_get d (i:=j+1) (j:=j) (by omega) (by omega) p
  intro p q h1 h2 h3
  rw [g,g]
  by_cases p1:p=j
  · subst p1
    by_cases q1:q=p+1
    · subst q1; rw [if_pos rfl,if_neg (by omega),if_pos rfl]; omega
    · rw [if_pos rfl,if_neg (by omega),if_neg q1]; exact h (p+1) q (by omega) (by omega) h3
  · by_cases p2:p=j+1
    · subst p2; rw [if_neg (by omega),if_pos rfl,if_neg (by omega),if_neg (by omega)]; exact h j q haj (by omega) h3
    · rw [if_neg p1,if_neg p2]
      by_cases q1:q=j
      · subst q1; rw [if_pos rfl]; exact h p (q+1) h1 (by omega) hjb
      · by_cases q2:q=j+1
        · subst q2; rw [if_neg q1,if_pos rfl]; exact h p j h1 (by omega) (by omega)
        · rw [if_neg q1,if_neg q2]; exact h p q h1 h2 h3
theorem swo_cfk:SWO (ltk (α:=α) key) where
 irrefl x:=DT.mpr (by omega)
 trans x y z h1 h2:=by rw [E4] at*; omega
 ntrans x y z h1 h2:=by rw [DT] at*; omega
end Go.Proofs.StSort
namespace Go.Proofs.StSort
set_option maxRecDepth 100000
open Go.Sort
variable {α:Type} [Inhabited α] {key:α→Int} {idx:α→Nat}
structure InsO (key:α→Int) (idx:α→Nat) (a b i:Nat) (d dk:Array α):Prop where
 p:PermIn a b d dk
 s:Stab key idx a b dk
 o:SortedIn (ltk key) a i dk
structure InsI (key:α→Int) (idx:α→Nat) (a b j i:Nat) (d dk:Array α):Prop where
 p:PermIn a b d dk
 s:Stab key idx a b dk
 o:Ins (ltk key) a j i dk
theorem InsO.start {a b:Nat} {d:Array α} (h:Stab key idx a b d):InsO key idx a b (a+1) d d:=⟨permIn_refl _ _ _,h,fun p q h1 h2 h3=>by omega⟩
theorem InsO.post {a b i:Nat} {d dk:Array α} (h:InsO key idx a b i d dk) (hi:b≤i):Post key idx a b d dk:=by
 refine ⟨h.p,fun p q p1 p2 p3=> ?_⟩
 have e1:=h.o p q p1 p2 (by omega)
 have e2:=h.s p q p1 p2 p3
 rw [DT] at e1
 unfold R; omega
theorem InsO.enter {a b i:Nat} {d dk:Array α} (h:InsO key idx a b i d dk):InsI key idx a b i i d dk:=
 ⟨h.p,h.s,fun p q hap hpq hqi hp hq=>h.o p q hap hpq (by omega),fun q h1 h2=>by omega⟩
theorem InsI.stop {a b j i:Nat} {d dk:Array α} (h:InsI key idx a b j i d dk) (hs:j≤a∨ltk key dk[j]! dk[j-1]! =false):InsO key idx a b (i+1) d dk:=
 ⟨h.p,h.s,h.o.stop swo_cfk hs⟩
theorem InsI.step {a b j i:Nat} {d dk:Array α} (h:InsI key idx a b (j+1) i d dk) (haj:a≤j) (hjb:j+1<b) (hb:b≤dk.size) (hl:ltk key dk[j+1]! dk[j]! =true):InsI key idx a b j i d (swp dk (j+1) j):=
 ⟨permIn_trans _ _ _ _ _ h.p (swp_permIn dk a b (j+1) j (by omega) hjb haj (by omega) hb),h.s.swp haj hjb hb (E4.mp hl),h.o.step hl haj (by omega)⟩
end Go.Proofs.StSort
end
section
namespace Go.Proofs.StSort
set_option maxRecDepth 100000
open Go.Shelf Go.RowKit Go.Lib Go.Sort
variable {α:Type} [Inhabited α]
def cfs (key:α→Int) (x y:α):Int:=if key x<key y then -1 else if key y<key x then 1 else 0
theorem BB (key:α→Int) (x y:α):decide (cfs key x y<0)=ltk key x y:=by
 unfold ltk cfs cfk
 by_cases h:key x<key y
 ·rw [if_pos h,decide_eq_true (show (-1:Int)<0 by omega),decide_eq_true (by omega)]
 ·rw [if_neg h,decide_eq_false (show ¬key x-key y<0 by omega)]
  split<;>rfl
set_option maxHeartbeats 4000000 in
theorem C8 (enc:α→List Value) (kc:Nat) (zE:∀w,(Go.sizeOf 33).run Tryd.prog w= .ok kc w) (fv:Value) (blk off cap N a b n:Nat) (d0 d:Array α) (w0 w:World)
  (R1:RowK enc kc w0 blk off d0) (h0:d0.size=N) (hN:d.size=N) (S:SWK enc kc w0 blk off d w) (hab:a+n≤b) (hb:b+n≤N) (hsz:N<4611686018427387904):
  Calls Tryd.prog 59 #[.slice (some ⟨blk,off,none⟩) N cap,.int .i64 a,.int .i64 b,.int .i64 n,fv] w fun e w'=>e= .returned (.tuple #[])∧∃d',SwR d a b n d'∧d'.size=N∧SWK enc kc w0 blk off d' w':=by
 have mixed:Tryd.prog.follows .mixedOrders=true:=by kernel_rfl
 have hu26:=Tryd.underlying46
 have a3:=Tryd.isAgg33
 have z3:=zE
 have S0:Aside (SWK enc kc w0 blk off d w):=S
 clear S
 go_enter Tryd.func59,Tryd.ntmps59
 go_wp2
 go_loopg [10] n (fun kx s10 wr=>∃(i:Nat) (dk:Array α),s10= .int .i64 i∧i≤n∧n-i≤kx∧Aside (SwR d a b i dk)∧dk.size=N∧Aside (SWK enc kc w0 blk off dk wr))
 case atStart=>exact ⟨0,d,rfl,by omega,by omega,SwR.zero,hN,S0⟩
 case round=>
  clear S0
  obtain ⟨i,dk,rfl,hin,hkx,HR,hds,S1⟩:=hrel
  by_cases hlt:i<n
  ·have hltz:(i:Int)<(n:Int):=by omega
   go_wp2_with fail
   have ea:((a:Int)+(i:Int)).toNat=(a+i):=by omega
   have pa:(0:Int)≤(a:Int)+(i:Int):=by omega
   have ba:(a:Int)+(i:Int)<(N:Int):=by omega
   have ra:IntKind.i64.wrap ((a:Int)+(i:Int))=(a:Int)+(i:Int):=by rw [IntKind.wrap_i64]; omega
   have ec:((b:Int)+(i:Int)).toNat=(b+i):=by omega
   have pc:(0:Int)≤(b:Int)+(i:Int):=by omega
   have bc:(b:Int)+(i:Int)<(N:Int):=by omega
   have rc:IntKind.i64.wrap ((b:Int)+(i:Int))=(b:Int)+(i:Int):=by rw [IntKind.wrap_i64]; omega
   have S2:Aside (SWK enc kc w0 blk off (swp dk (a+i) (b+i)) ((wr.drew.setCells blk (off+(a+i)*kc) (enc dk[b+i]!)).setCells blk (off+(b+i)*kc) (enc dk[a+i]!))):=S1.out.swapped R1 (a+i) (b+i) (by omega) (by omega)
   have ca:=S1.out.ld1 R1 (by omega) Tryd.prog ((a+i)) (by omega)
   have cb:=S1.out.ld1 R1 (by omega) Tryd.prog ((b+i)) (by omega)
   have sa:=S1.out.st1 R1 (by omega) Tryd.prog (a+i) (by omega) dk[b+i]!
   have sb:=S1.out.st2 R1 (by omega) Tryd.prog (a+i) (b+i) (by omega) (by omega) dk[b+i]! dk[a+i]!
   have na:(enc dk[a+i]!).length=kc:=R1.hk _
   have nb:(enc dk[b+i]!).length=kc:=R1.hk _
   generalize enc dk[a+i]! =cI at S2 ca sb na
   generalize enc dk[b+i]! =cJ at S2 cb sa sb nb
   clear S1
   go_wp2_with fail
   go_big_region_o
   clear ca cb sa sb
   generalize (wr.drew.setCells blk (off+(a+i)*kc) cJ).setCells blk (off+(b+i)*kc) cI=w2 at S2 ⊢
   clear ea ec
   go_wp2
   go_roundg (n-(i+1))
   case measure=>omega
   case rel=>exact ⟨i+1,swp dk (a+i) (b+i),by go_num,by omega,by omega,HR.out.succ (by omega) (by omega),by rw [size_swp]; exact hds,S2⟩
  ·go_wp2
   go_end0
   obtain rfl:i=n:=by omega
   exact ⟨rfl,dk,HR.out,hds,S1.out⟩
set_option maxHeartbeats 4000000 in
theorem rotate (enc:α→List Value) (kc:Nat) (zE:∀w,(Go.sizeOf 33).run Tryd.prog w= .ok kc w) (fv:Value) (blk off cap N a m b:Nat) (d0 d:Array α) (w0 w:World)
  (R1:RowK enc kc w0 blk off d0) (h0:d0.size=N) (hN:d.size=N) (S:SWK enc kc w0 blk off d w) (ham:a<m) (hmb:m<b) (hb:b≤N) (hsz:N<4611686018427387904):
  Calls Tryd.prog 54 #[.slice (some ⟨blk,off,none⟩) N cap,.int .i64 a,.int .i64 m,.int .i64 b,fv] w fun e w'=>e= .returned (.tuple #[])∧∃d',Rot d a m b d'∧d'.size=N∧SWK enc kc w0 blk off d' w':=by
 have mixed:Tryd.prog.follows .mixedOrders=true:=by kernel_rfl
 have hu26:=Tryd.underlying46
 have S0:Aside (SWK enc kc w0 blk off d w):=S
 have HR1:Aside (RowK enc kc w0 blk off d0):=R1
 clear S R1
 go_enter Tryd.func54,Tryd.ntmps54
 go_wp2
 go_loopg [10,11] (m-a+(b-m)) (fun kx s10 s11 wr=>∃(i j:Nat) (dk:Array α),s10= .int .i64 i∧s11= .int .i64 j∧Aside (0<i∧i≤m∧0<j∧m+j≤b)∧i+j≤kx∧Aside (∀D,Rot dk (m-i) m (m+j) D→Rot d a m b D)∧dk.size=N∧Aside (SWK enc kc w0 blk off dk wr))
 case atStart=>exact ⟨m-a,b-m,d,by rw [show ((m-a:Nat):Int)=(m:Int)-a by omega],by rw [show ((b-m:Nat):Int)=(b:Int)-m by omega],⟨by omega,by omega,by omega,by omega⟩,by omega,(by rw [show m-(m-a)=a by omega,show m+(b-m)=b by omega]; exact fun D h=>h),hN,S0⟩
 case round=>
  clear S0
  obtain ⟨i,j,dk,rfl,rfl,HB,hkx,HR,hds,S1⟩:=hrel
  have hB:=HB.out
  by_cases hij:i=j
  ·subst hij
   have hcall:=C8 enc kc zE fv blk off cap N (m-i) m i d0 dk w0 wr HR1.out h0 hds S1.out (by omega) (by omega) hsz
   rw [show ((m-i:Nat):Int)=(m:Int)-i by omega] at hcall
   clear S1 HB
   go_wp2_with (go_at_call 59; refine hcall.mono ?_; rintro e w1 ⟨rfl,dk',hsw,hds',S3⟩)
   go_end0
   exact ⟨rfl,dk',HR.out _ (hsw.rot hB.2.1),hds',S3⟩
  ·have hijz:¬(i:Int)=(j:Int):=by omega
   by_cases hgt:j<i
   ·have hgtz:(j:Int)<(i:Int):=by omega
    have hcall:=C8 enc kc zE fv blk off cap N (m-i) m j d0 dk w0 wr HR1.out h0 hds S1.out (by omega) (by omega) hsz
    rw [show ((m-i:Nat):Int)=(m:Int)-i by omega] at hcall
    clear S1 HB
    go_wp2_with (go_at_call 59; refine hcall.mono ?_; rintro e w1 ⟨rfl,dk',hsw,hds',S3⟩)
    go_roundg (i-j+j)
    case measure=>omega
    case rel=>exact ⟨i-j,j,dk',by rw [show ((i-j:Nat):Int)=(i:Int)-j by omega],rfl,⟨by omega,by omega,by omega,by omega⟩,by omega,(fun D hD=>HR.out D (hsw.step_i hB.2.1 hgt hD)),hds',S3⟩
   ·have hgtz:¬(j:Int)<(i:Int):=by omega
    have hcall:=C8 enc kc zE fv blk off cap N (m-i) (m+j-i) i d0 dk w0 wr HR1.out h0 hds S1.out (by omega) (by omega) hsz
    rw [show ((m-i:Nat):Int)=(m:Int)-i by omega,show ((m+j-i:Nat):Int)=(m:Int)+j-i by omega] at hcall
    clear S1 HB
    go_wp2_with (go_at_call 59; refine hcall.mono ?_; rintro e w1 ⟨rfl,dk',hsw,hds',S3⟩)
    go_roundg (i+(j-i))
    case measure=>omega
    case rel=>exact ⟨i,j-i,dk',rfl,by rw [show ((j-i:Nat):Int)=(j:Int)-i by omega],⟨by omega,by omega,by omega,by omega⟩,by omega,(fun D hD=>HR.out D (hsw.step_j hB.2.1 (by omega) hD)),hds',S3⟩
end Go.Proofs.StSort
end
section
namespace Go.Proofs.StSort
set_option maxRecDepth 100000
open Go.Shelf Go.RowKit Go.Lib Go.Sort
variable {α:Type} [Inhabited α]
set_option maxHeartbeats 16000000 in
theorem insertion (enc:α→List Value) (kc:Nat) (zE:∀w,(Go.sizeOf 33).run Tryd.prog w= .ok kc w) (key:α→Int) (idx:α→Nat) (g:Nat) (cb:Array Value) (blk off cap N a b:Nat) (d0 d:Array α) (w0 w:World)
  (eg:∀args w,(callFunc g args).run Tryd.prog w= .ok (.enter g args) w) (hcmp:CmpLays Tryd.prog g cb enc kc (cfs key) blk off N w0)
  (R1:RowK enc kc w0 blk off d0) (h0:d0.size=N) (hN:d.size=N) (S:SWK enc kc w0 blk off d w) (hab:a≤b) (hb:b≤N) (hsz:N<4611686018427387904) (hS:Stab key idx a b d):
  Calls Tryd.prog 51 #[.slice (some ⟨blk,off,none⟩) N cap,.int .i64 a,.int .i64 b,.func (.func g) #[] cb] w fun e w'=>e= .returned (.tuple #[])∧∃d',Post key idx a b d d'∧d'.size=N∧SWK enc kc w0 blk off d' w':=by
 have mixed:Tryd.prog.follows .mixedOrders=true:=by kernel_rfl
 have hu26:=Tryd.underlying46
 have a3:=Tryd.isAgg33
 have z3:=zE
 have HC:Aside _:=hcmp
 have S0:Aside (SWK enc kc w0 blk off d w):=S
 have HI0:Aside _:=InsO.start hS
 clear S hcmp hS
 go_enter Tryd.func51,Tryd.ntmps51
 go_wp2
 go_loopg [8] (b-a) (fun kx s8 wr=>∃(i:Nat) (dk:Array α),s8= .int .i64 i∧a<i∧b+1-i≤kx+1∧i≤b+1∧dk.size=N∧Aside (SWK enc kc w0 blk off dk wr)∧Aside (InsO key idx a b i d dk))
 case atStart=>exact ⟨a+1,d,by go_num,by omega,by omega,by omega,hN,S0,HI0⟩
 case round=>
  clear S0 HI0
  obtain ⟨i,dk,rfl,hai,hkx,hib,hds,S1,HO⟩:=hrel
  by_cases hlt:i<b
  ·have hltz:(i:Int)<(b:Int):=by omega
   go_wp2
   go_loopg [9] i (fun kj s9 wr2=>∃(j:Nat) (dj:Array α),s9= .int .i64 j∧a≤j∧j≤i∧j≤kj∧dj.size=N∧Aside (SWK enc kc w0 blk off dj wr2)∧Aside (InsI key idx a b j i d dj))
   case atStart=>exact ⟨i,dk,rfl,by omega,Nat.le_refl _,Nat.le_refl _,hds,S1,HO.out.enter⟩
   case round=>
    clear S1 HO
    obtain ⟨j,dj,rfl,haj,hji,hkj,hdj,S1,HI⟩:=hrel
    by_cases hja:a<j
    ·obtain ⟨jp,rfl⟩:∃q,j=q+1:=⟨j-1,by omega⟩
     have zjp:((jp+1:Nat):Int)=(jp:Int)+1:=by omega
     rw [zjp]
     have hjad:decide ((jp:Int)+1>(a:Int))=true:=decide_eq_true (by omega)
     have hjaz':(a:Int)<(jp:Int)+1:=by omega
     obtain ⟨x,hx⟩:∃x,x=dj[jp+1]! :=⟨_,rfl⟩
     obtain ⟨y,hy⟩:∃x,x=dj[jp]! :=⟨_,rfl⟩
     have ea:((jp:Int)+1).toNat=(jp+1):=by omega
     have pa:(0:Int)≤(jp:Int)+1:=by omega
     have ba:(jp:Int)+1<(N:Int):=by omega
     have ra:IntKind.i64.wrap ((jp:Int)+1)=(jp:Int)+1:=by rw [IntKind.wrap_i64]; omega
     have ec:((jp:Int)).toNat=(jp):=by omega
     have pc:(0:Int)≤(jp:Int):=by omega
     have bc:(jp:Int)<(N:Int):=by omega
     have rc:IntKind.i64.wrap ((jp:Int))=(jp:Int):=by rw [IntKind.wrap_i64]; omega
     have la:=S1.out.ld R1 (by omega) Tryd.prog ((jp+1)) (by omega)
     have lb:=S1.out.ld R1 (by omega) Tryd.prog (jp) (by omega)
     rw [←hx] at la
     rw [←hy] at lb
     have hc:=S1.out.cmp HC.out (by omega) x y
     cases hlv:ltk key x y with
     | true=>
      have hv:cfs key x y<0:=of_decide_eq_true ((BB key x y).trans hlv)
      have hd:decide (cfs key x y<0)=true:=(BB key x y).trans hlv
      have HX:Aside (InsI key idx a b jp i d (swp dj (jp+1) jp)):=HI.out.step (by omega) (by omega) (by omega) (by rw [←hx,←hy]; exact hlv)
      have HS:Aside _:=S1.out.grown
      clear hlv S1 HI hx hy
      go_wp2_with fail
      go_quiet_grown (first|(go_at_fn g; refine Calls.grown_of (hc _ _)))
      have S2:Aside (SWK enc kc w0 blk off dj (grow (wr.drewN nq) osq)):=HS.out nq osq
      clear la lb hc HS
      generalize grow (wr.drewN nq) osq=w2 at S2 ⊢
      clear nq osq
      clear ea ec hd hv
      go_wp2_with fail
      have ea:((jp:Int)+1).toNat=(jp+1):=by omega
      have ec:((jp:Int)).toNat=(jp):=by omega
      have S3:Aside (SWK enc kc w0 blk off (swp dj (jp+1) (jp)) ((w2.drew.setCells blk (off+(jp+1)*kc) (enc dj[jp]!)).setCells blk (off+(jp)*kc) (enc dj[jp+1]!))):=S2.out.swapped R1 (jp+1) (jp) (by omega) (by omega)
      have ca:=S2.out.ld1 R1 (by omega) Tryd.prog ((jp+1)) (by omega)
      have cb':=S2.out.ld1 R1 (by omega) Tryd.prog (jp) (by omega)
      have sa:=S2.out.st1 R1 (by omega) Tryd.prog (jp+1) (by omega) dj[jp]!
      have sb:=S2.out.st2 R1 (by omega) Tryd.prog (jp+1) (jp) (by omega) (by omega) dj[jp]! dj[jp+1]!
      have na:(enc dj[jp+1]!).length=kc:=R1.hk _
      have nb:(enc dj[jp]!).length=kc:=R1.hk _
      generalize enc dj[jp+1]! =cI at S3 ca sb na
      generalize enc dj[jp]! =cJ at S3 cb' sa sb nb
      clear S2
      go_wp2_with fail
      go_big_region_o
      clear ca cb' sa sb
      generalize (w2.drew.setCells blk (off+(jp+1)*kc) cJ).setCells blk (off+(jp)*kc) cI=w3 at S3 ⊢
      clear ea ec
      go_wp2
      go_roundg jp
      case measure=>omega
      case rel=>exact ⟨jp,swp dj (jp+1) jp,by first|rfl|go_num|(congr 1; omega),by omega,by omega,Nat.le_refl _,by rw [size_swp]; exact hdj,S3,HX⟩
     | false=>
      have hv:¬cfs key x y<0:=of_decide_eq_false ((BB key x y).trans hlv)
      have hd:decide (cfs key x y<0)=false:=(BB key x y).trans hlv
      have HX:Aside (InsO key idx a b (i+1) d dj):=HI.out.stop (Or.inr (by rw [show jp+1-1=jp from rfl,←hx,←hy]; exact hlv))
      have HS:Aside _:=S1.out.grown
      clear hlv S1 HI hx hy
      go_wp2_with fail
      go_quiet_grown (first|(go_at_fn g; refine Calls.grown_of (hc _ _)))
      have S2:Aside (SWK enc kc w0 blk off dj (grow (wr.drewN nq) osq)):=HS.out nq osq
      clear la lb hc HS
      generalize grow (wr.drewN nq) osq=w2 at S2 ⊢
      clear nq osq
      clear ea ec
      go_wp2
      go_roundg (b-(i+1))
      case measure=>omega
      case rel=>exact ⟨i+1,dj,by go_num,by omega,by omega,by omega,hdj,S2,HX⟩
    ·have hjaz:decide ((j:Int)>(a:Int))=false:=decide_eq_false (by omega)
     have hjaz':¬(a:Int)<(j:Int):=by omega
     go_wp2_with fail
     go_big_region_o
     have S2:Aside (SWK enc kc w0 blk off dj wr.drew):=S1.out.drew
     clear S1
     generalize wr.drew=w2 at S2 ⊢
     go_wp2
     go_roundg (b-(i+1))
     case measure=>omega
     case rel=>exact ⟨i+1,dj,by go_num,by omega,by omega,by omega,hdj,S2,HI.out.stop (Or.inl (by omega))⟩
  ·have hltz:¬(i:Int)<(b:Int):=by omega
   go_wp2
   go_end0
   exact ⟨rfl,dk,HO.out.post (by omega),hds,S1.out⟩
end Go.Proofs.StSort
end
section
namespace Go.Proofs.StSort
set_option maxRecDepth 100000
open Go.Shelf Go.RowKit Go.Lib Go.Sort
variable {α:Type} [Inhabited α]
set_option maxHeartbeats 16000000 in
theorem DC (enc:α→List Value) (kc:Nat) (zE:∀w,(Go.sizeOf 33).run Tryd.prog w= .ok kc w) (key:α→Int) (idx:α→Nat) (g:Nat) (cb:Array Value) (blk off cap N a m b:Nat) (d0 d:Array α) (w0 w:World)
  (eg:∀args w,(callFunc g args).run Tryd.prog w= .ok (.enter g args) w) (hcmp:CmpLays Tryd.prog g cb enc kc (cfs key) blk off N w0)
  (R1:RowK enc kc w0 blk off d0) (h0:d0.size=N) (hN:d.size=N) (S:SWK enc kc w0 blk off d w) (ham:m=a+1) (hmb:m<b) (hb:b≤N) (hsz:N<4611686018427387904) (hP:Pre key idx a m b d):
  Calls Tryd.prog 52 #[.slice (some ⟨blk,off,none⟩) N cap,.int .i64 a,.int .i64 m,.int .i64 b,.func (.func g) #[] cb] w fun e w'=>e= .returned (.tuple #[])∧∃d',Post key idx a b d d'∧d'.size=N∧SWK enc kc w0 blk off d' w':=by
 have mixed:Tryd.prog.follows .mixedOrders=true:=by kernel_rfl
 have hu26:=Tryd.underlying46
 have a3:=Tryd.isAgg33
 have z3:=zE
 have HC:Aside _:=hcmp
 have S0:Aside (SWK enc kc w0 blk off d w):=S
 have HP:Aside _:=hP
 have c1:(m:Int)-(a:Int)=1:=by omega
 have hA:=ham
 have ha1:a<m:=by omega
 have ha2:m≤a+1:=by omega
 have HA:Aside (m=a+1):=ham
 clear S hcmp hP hA ham
 go_enter Tryd.func52,Tryd.ntmps52
 go_wp2
 go_loopg [10,11] (b-m) (fun kx s10 s11 wr=>∃(i j:Nat),s10= .int .i64 i∧s11= .int .i64 j∧m≤i∧i≤j∧j≤b∧j-i≤kx∧Aside (∀p,m≤p→p<i→R key idx d[p]! d[a]!)∧Aside (∀p,j≤p→p<b→R key idx d[a]! d[p]!)∧Aside (SWK enc kc w0 blk off d wr))
 case atStart=>exact ⟨m,b,rfl,rfl,by omega,by omega,by omega,by omega,(fun p h1 h2=>by omega),(fun p h1 h2=>by omega),S0⟩
 case round=>
  clear S0
  obtain ⟨i,j,rfl,rfl,hmi,hij,hjb,hkx,H1,H2,S1⟩:=hrel
  by_cases hlt:i<j
  ·have hltz:(i:Int)<(j:Int):=by omega
   obtain ⟨h,hh⟩:∃h:Nat,h=(i+j)/2:=⟨_,rfl⟩
   have eh:((i:Int)+(j:Int))/2=(h:Int):=by omega
   have hh1:i≤h:=by omega
   have hh2:h<j:=by omega
   clear hh
   go_wp2_with fail
   obtain ⟨x,hx⟩:∃x,x=d[h]! :=⟨_,rfl⟩
   obtain ⟨y,hy⟩:∃x,x=d[a]! :=⟨_,rfl⟩
   have ea:((h:Int)).toNat=(h):=by omega
   have pa:(0:Int)≤(h:Int):=by omega
   have ba:(h:Int)<(N:Int):=by omega
   have ra:IntKind.i64.wrap ((h:Int))=(h:Int):=by rw [IntKind.wrap_i64]; omega
   have ec:((a:Int)).toNat=(a):=by omega
   have pc:(0:Int)≤(a:Int):=by omega
   have bc:(a:Int)<(N:Int):=by omega
   have rc:IntKind.i64.wrap ((a:Int))=(a:Int):=by rw [IntKind.wrap_i64]; omega
   have la:=S1.out.ld R1 (by omega) Tryd.prog ((h)) (by omega)
   have lb:=S1.out.ld R1 (by omega) Tryd.prog ((a)) (by omega)
   rw [←hx] at la
   rw [←hy] at lb
   have hc:=S1.out.cmp HC.out hN x y
   have HS:Aside _:=S1.out.grown
   have HXY:Aside (x=d[h]! ∧y=d[a]!):=⟨hx,hy⟩
   cases hlv:ltk key x y with
   | true=>
    have hv:cfs key x y<0:=of_decide_eq_true ((BB key x y).trans hlv)
    have hd:decide (cfs key x y<0)=true:=(BB key x y).trans hlv
    have HL:Aside (ltk key x y=true):=hlv
    clear hlv S1 hx hy
    go_wp2_with fail
    go_quiet_grown (first|(go_at_fn g; refine Calls.grown_of (hc _ _)))
    have S2:Aside (SWK enc kc w0 blk off d (grow (wr.drewN nq) osq)):=HS.out nq osq
    clear la lb hc HS
    generalize grow (wr.drewN nq) osq=w2 at S2 ⊢
    clear nq osq ea ec
    go_wp2
    go_roundg (j-(h+1))
    case measure=>omega
    case rel=>exact ⟨h+1,j,by go_num,rfl,by omega,by omega,hjb,by omega,(fun p h1 h2=>by
     have e:R key idx d[h]! d[a]! :=by have:=HL.out; rw [HXY.out.1,HXY.out.2] at this; exact (Cp (HP.out.c a h (Nat.le_refl _) (by omega) (by omega) (by omega))).mp this
     by_cases hp:p=h
     ·rw [hp]; exact e
     ·exact (HP.out.r p h h1 (by omega) (by omega)).trans e),H2,S2⟩
   | false=>
    have hv:¬cfs key x y<0:=of_decide_eq_false ((BB key x y).trans hlv)
    have hd:decide (cfs key x y<0)=false:=(BB key x y).trans hlv
    have HL:Aside (ltk key x y=false):=hlv
    clear hlv S1 hx hy
    go_wp2_with fail
    go_quiet_grown (first|(go_at_fn g; refine Calls.grown_of (hc _ _)))
    have S2:Aside (SWK enc kc w0 blk off d (grow (wr.drewN nq) osq)):=HS.out nq osq
    clear la lb hc HS
    generalize grow (wr.drewN nq) osq=w2 at S2 ⊢
    clear nq osq ea ec
    go_wp2
    go_roundg (h-i)
    case measure=>omega
    case rel=>exact ⟨i,h,rfl,rfl,hmi,by omega,by omega,by omega,H1,(fun p h1 h2=>by
     have e:R key idx d[a]! d[h]! :=by have:=HL.out; rw [HXY.out.1,HXY.out.2] at this; exact (CT (HP.out.c a h (Nat.le_refl _) (by omega) (by omega) (by omega))).mp this
     by_cases hp:p=h
     ·rw [hp]; exact e
     ·exact e.trans (HP.out.r h p (by omega) (by omega) h2)),S2⟩
  ·have hltz:¬(i:Int)<(j:Int):=by omega
   obtain rfl:i=j:=by omega
   go_wp2
   go_loopg [13] (i-a) (fun ky s13 wr=>∃(k:Nat) (dk:Array α),s13= .int .i64 k∧a≤k∧k+1≤i∧i-k≤ky∧Aside (Rot d a (a+1) (k+1) dk)∧dk.size=N∧Aside (SWK enc kc w0 blk off dk wr))
   case atStart=>exact ⟨a,d,rfl,Nat.le_refl _,by omega,Nat.le_refl _,Rot.none (.inr rfl) (by omega) (by omega),hN,S1⟩
   case round=>
    clear S1
    obtain ⟨k,dk,rfl,hak,hki,hky,HR,hdk,S1⟩:=hrel
    by_cases hlt:k+1<i
    ·have hltz:(k:Int)<(i:Int)-1:=by omega
     have ea:((k:Int)).toNat=(k):=by omega
     have pa:(0:Int)≤(k:Int):=by omega
     have ba:(k:Int)<(N:Int):=by omega
     have ra:IntKind.i64.wrap ((k:Int))=(k:Int):=by rw [IntKind.wrap_i64]; omega
     have ec:((k:Int)+1).toNat=(k+1):=by omega
     have pc:(0:Int)≤(k:Int)+1:=by omega
     have bc:(k:Int)+1<(N:Int):=by omega
     have rc:IntKind.i64.wrap ((k:Int)+1)=(k:Int)+1:=by rw [IntKind.wrap_i64]; omega
     have S2:Aside (SWK enc kc w0 blk off (swp dk (k) (k+1)) ((wr.drew.setCells blk (off+(k)*kc) (enc dk[k+1]!)).setCells blk (off+(k+1)*kc) (enc dk[k]!))):=S1.out.swapped R1 (k) (k+1) (by omega) (by omega)
     have ca:=S1.out.ld1 R1 (by omega) Tryd.prog ((k)) (by omega)
     have cb':=S1.out.ld1 R1 (by omega) Tryd.prog ((k+1)) (by omega)
     have sa:=S1.out.st1 R1 (by omega) Tryd.prog (k) (by omega) dk[k+1]!
     have sb:=S1.out.st2 R1 (by omega) Tryd.prog (k) (k+1) (by omega) (by omega) dk[k+1]! dk[k]!
     have na:(enc dk[k]!).length=kc:=R1.hk _
     have nb:(enc dk[k+1]!).length=kc:=R1.hk _
     generalize enc dk[k]! =cI at S2 ca sb na
     generalize enc dk[k+1]! =cJ at S2 cb' sa sb nb
     clear S1
     go_wp2_with fail
     go_big_region_o
     clear ca cb' sa sb
     generalize (wr.drew.setCells blk (off+(k)*kc) cJ).setCells blk (off+(k+1)*kc) cI=w2 at S2 ⊢
     clear ea ec
     go_wp2
     go_roundg (i-(k+1))
     case measure=>omega
     case rel=>exact ⟨k+1,swp dk k (k+1),by go_num,by omega,by omega,by omega,HR.out.up hak (by omega),by rw [size_swp]; exact hdk,S2⟩
    ·have hltz:¬(k:Int)<(i:Int)-1:=by omega
     go_wp2
     (try simp only [Exit.inBlock,Exit.then])
     refine bodyPost_ret (results_none rfl _ _ _) rfl ?_
     obtain rfl:i=k+1:=by omega
     have hR:=HR.out
     rw [←HA.out] at hR
     exact ⟨rfl,dk,Cut.one (by omega) HP.out (s:=a) (e:=k+1) ⟨Nat.le_refl _,by omega,by omega,by omega,(fun p q p1 p2 q1 q2=>by rw [show q=a by omega]; exact H1.out p p1 p2),(fun p q p1 p2 q1 q2=>by omega)⟩ hR (fun p q p1 p2 q1 q2=>by rw [show p=a by omega]; exact H2.out q q1 q2) (fun p q p1 p2 q1 q2=>by omega),hdk,S1.out⟩
end Go.Proofs.StSort
end
section
namespace Go.Proofs.StSort
set_option maxRecDepth 100000
open Go.Shelf Go.RowKit Go.Lib Go.Sort
variable {α:Type} [Inhabited α]
set_option maxHeartbeats 16000000 in
theorem DB (enc:α→List Value) (kc:Nat) (zE:∀w,(Go.sizeOf 33).run Tryd.prog w= .ok kc w) (key:α→Int) (idx:α→Nat) (g:Nat) (cb:Array Value) (blk off cap N a m b:Nat) (d0 d:Array α) (w0 w:World)
  (eg:∀args w,(callFunc g args).run Tryd.prog w= .ok (.enter g args) w) (hcmp:CmpLays Tryd.prog g cb enc kc (cfs key) blk off N w0)
  (R1:RowK enc kc w0 blk off d0) (h0:d0.size=N) (hN:d.size=N) (S:SWK enc kc w0 blk off d w) (ham:a+1<m) (hmb:b=m+1) (hb:b≤N) (hsz:N<4611686018427387904) (hP:Pre key idx a m b d):
  Calls Tryd.prog 52 #[.slice (some ⟨blk,off,none⟩) N cap,.int .i64 a,.int .i64 m,.int .i64 b,.func (.func g) #[] cb] w fun e w'=>e= .returned (.tuple #[])∧∃d',Post key idx a b d d'∧d'.size=N∧SWK enc kc w0 blk off d' w':=by
 have mixed:Tryd.prog.follows .mixedOrders=true:=by kernel_rfl
 have hu26:=Tryd.underlying46
 have a3:=Tryd.isAgg33
 have z3:=zE
 have HC:Aside _:=hcmp
 have S0:Aside (SWK enc kc w0 blk off d w):=S
 have HP:Aside _:=hP
 have c1:((m:Int)-(a:Int)==1)=false:=by rw [beq_eq_false_iff_ne]; omega
 have c2:(b:Int)-(m:Int)=1:=by omega
 have hb1:m<b:=by omega
 have hb2:b≤m+1:=by omega
 have HA:Aside (b=m+1):=hmb
 clear S hcmp hP hmb
 go_enter Tryd.func52,Tryd.ntmps52
 go_wp2
 go_loopg [14,15] (m-a) (fun kx s14 s15 wr=>∃(i j:Nat),s14= .int .i64 i∧s15= .int .i64 j∧a≤i∧i≤j∧j≤m∧j-i≤kx∧Aside (∀p,a≤p→p<i→R key idx d[p]! d[m]!)∧Aside (∀p,j≤p→p<m→R key idx d[m]! d[p]!)∧Aside (SWK enc kc w0 blk off d wr))
 case atStart=>exact ⟨a,m,rfl,rfl,by omega,by omega,by omega,by omega,(fun p h1 h2=>by omega),(fun p h1 h2=>by omega),S0⟩
 case round=>
  clear S0
  obtain ⟨i,j,rfl,rfl,hmi,hij,hjb,hkx,H1,H2,S1⟩:=hrel
  by_cases hlt:i<j
  ·have hltz:(i:Int)<(j:Int):=by omega
   obtain ⟨h,hh⟩:∃h:Nat,h=(i+j)/2:=⟨_,rfl⟩
   have eh:((i:Int)+(j:Int))/2=(h:Int):=by omega
   have hh1:i≤h:=by omega
   have hh2:h<j:=by omega
   clear hh
   go_wp2_with fail
   obtain ⟨x,hx⟩:∃x,x=d[m]! :=⟨_,rfl⟩
   obtain ⟨y,hy⟩:∃x,x=d[h]! :=⟨_,rfl⟩
   have ea:((m:Int)).toNat=(m):=by omega
   have pa:(0:Int)≤(m:Int):=by omega
   have ba:(m:Int)<(N:Int):=by omega
   have ra:IntKind.i64.wrap ((m:Int))=(m:Int):=by rw [IntKind.wrap_i64]; omega
   have ec:((h:Int)).toNat=(h):=by omega
   have pc:(0:Int)≤(h:Int):=by omega
   have bc:(h:Int)<(N:Int):=by omega
   have rc:IntKind.i64.wrap ((h:Int))=(h:Int):=by rw [IntKind.wrap_i64]; omega
   have la:=S1.out.ld R1 (by omega) Tryd.prog ((m)) (by omega)
   have lb:=S1.out.ld R1 (by omega) Tryd.prog ((h)) (by omega)
   rw [←hx] at la
   rw [←hy] at lb
   have hc:=S1.out.cmp HC.out hN x y
   have HS:Aside _:=S1.out.grown
   have HXY:Aside (x=d[m]! ∧y=d[h]!):=⟨hx,hy⟩
   cases hlv:ltk key x y with
   | true=>
    have hv:cfs key x y<0:=of_decide_eq_true ((BB key x y).trans hlv)
    have hd:decide (cfs key x y<0)=true:=(BB key x y).trans hlv
    have HL:Aside (ltk key x y=true):=hlv
    clear hlv S1 hx hy
    go_wp2_with fail
    go_quiet_grown (first|(go_at_fn g; refine Calls.grown_of (hc _ _)))
    have S2:Aside (SWK enc kc w0 blk off d (grow (wr.drewN nq) osq)):=HS.out nq osq
    clear la lb hc HS
    generalize grow (wr.drewN nq) osq=w2 at S2 ⊢
    clear nq osq ea ec
    go_wp2
    go_roundg (h-i)
    case measure=>omega
    case rel=>exact ⟨i,h,rfl,rfl,hmi,by omega,by omega,by omega,H1,(fun p h1 h2=>by
     have e:R key idx d[m]! d[h]! :=by have:=HL.out; rw [HXY.out.1,HXY.out.2] at this; exact (Cp (HP.out.c h m (by omega) (by omega) (Nat.le_refl _) (by omega))).mp this
     by_cases hp:p=h
     ·rw [hp]; exact e
     ·exact e.trans (HP.out.l h p (by omega) (by omega) h2)),S2⟩
   | false=>
    have hv:¬cfs key x y<0:=of_decide_eq_false ((BB key x y).trans hlv)
    have hd:decide (cfs key x y<0)=false:=(BB key x y).trans hlv
    have HL:Aside (ltk key x y=false):=hlv
    clear hlv S1 hx hy
    go_wp2_with fail
    go_quiet_grown (first|(go_at_fn g; refine Calls.grown_of (hc _ _)))
    have S2:Aside (SWK enc kc w0 blk off d (grow (wr.drewN nq) osq)):=HS.out nq osq
    clear la lb hc HS
    generalize grow (wr.drewN nq) osq=w2 at S2 ⊢
    clear nq osq ea ec
    go_wp2
    go_roundg (j-(h+1))
    case measure=>omega
    case rel=>exact ⟨h+1,j,by go_num,rfl,by omega,by omega,hjb,by omega,(fun p h1 h2=>by
     have e:R key idx d[h]! d[m]! :=by have:=HL.out; rw [HXY.out.1,HXY.out.2] at this; exact (CT (HP.out.c h m (by omega) (by omega) (Nat.le_refl _) (by omega))).mp this
     by_cases hp:p=h
     ·rw [hp]; exact e
     ·exact (HP.out.l p h h1 (by omega) (by omega)).trans e),H2,S2⟩
  ·have hltz:¬(i:Int)<(j:Int):=by omega
   obtain rfl:i=j:=by omega
   go_wp2
   go_loopg [17] (m-i) (fun ky s17 wr=>∃(k:Nat) (dk:Array α),s17= .int .i64 k∧i≤k∧k≤m∧k-i≤ky∧Aside (Rot d k m (m+1) dk)∧dk.size=N∧Aside (SWK enc kc w0 blk off dk wr))
   case atStart=>exact ⟨m,d,rfl,by omega,Nat.le_refl _,by omega,Rot.none (.inl rfl) (Nat.le_refl _) (by omega),hN,S1⟩
   case round=>
    clear S1
    obtain ⟨k,dk,rfl,hak,hki,hky,HR,hdk,S1⟩:=hrel
    by_cases hlt:i<k
    ·obtain ⟨kp,rfl⟩:∃q,k=q+1:=⟨k-1,by omega⟩
     have zkp:((kp+1:Nat):Int)=(kp:Int)+1:=by omega
     rw [zkp]
     have hltz:(i:Int)<(kp:Int)+1:=by omega
     have ea:((kp:Int)+1).toNat=(kp+1):=by omega
     have pa:(0:Int)≤(kp:Int)+1:=by omega
     have ba:(kp:Int)+1<(N:Int):=by omega
     have ra:IntKind.i64.wrap ((kp:Int)+1)=(kp:Int)+1:=by rw [IntKind.wrap_i64]; omega
     have ec:((kp:Int)).toNat=(kp):=by omega
     have pc:(0:Int)≤(kp:Int):=by omega
     have bc:(kp:Int)<(N:Int):=by omega
     have rc:IntKind.i64.wrap ((kp:Int))=(kp:Int):=by rw [IntKind.wrap_i64]; omega
     have S2:Aside (SWK enc kc w0 blk off (swp dk (kp+1) (kp)) ((wr.drew.setCells blk (off+(kp+1)*kc) (enc dk[kp]!)).setCells blk (off+(kp)*kc) (enc dk[kp+1]!))):=S1.out.swapped R1 (kp+1) (kp) (by omega) (by omega)
     have ca:=S1.out.ld1 R1 (by omega) Tryd.prog ((kp+1)) (by omega)
     have cb':=S1.out.ld1 R1 (by omega) Tryd.prog ((kp)) (by omega)
     have sa:=S1.out.st1 R1 (by omega) Tryd.prog (kp+1) (by omega) dk[kp]!
     have sb:=S1.out.st2 R1 (by omega) Tryd.prog (kp+1) (kp) (by omega) (by omega) dk[kp]! dk[kp+1]!
     have na:(enc dk[kp+1]!).length=kc:=R1.hk _
     have nb:(enc dk[kp]!).length=kc:=R1.hk _
     generalize enc dk[kp+1]! =cI at S2 ca sb na
     generalize enc dk[kp]! =cJ at S2 cb' sa sb nb
     clear S1
     go_wp2_with fail
     go_big_region_o
     clear ca cb' sa sb
     generalize (wr.drew.setCells blk (off+(kp+1)*kc) cJ).setCells blk (off+(kp)*kc) cI=w2 at S2 ⊢
     clear ea ec
     go_wp2
     go_roundg (kp-i)
     case measure=>omega
     case rel=>exact ⟨kp,swp dk (kp+1) kp,by first|rfl|go_num|(congr 1; omega),by omega,by omega,by omega,HR.out.down (by omega) (by omega),by rw [size_swp]; exact hdk,S2⟩
    ·have hltz:¬(i:Int)<(k:Int):=by omega
     go_wp2
     (try simp only [Exit.inBlock,Exit.then])
     refine bodyPost_ret (results_none rfl _ _ _) rfl ?_
     obtain rfl:i=k:=by omega
     have hR:=HR.out
     rw [←HA.out] at hR
     exact ⟨rfl,dk,Cut.one (by omega) HP.out (s:=i) (e:=b) ⟨by omega,by omega,by omega,by omega,(fun p q p1 p2 q1 q2=>by rw [show p=m by omega]; exact H2.out q q1 q2),(fun p q p1 p2 q1 q2=>by omega)⟩ hR (fun p q p1 p2 q1 q2=>by omega) (fun p q p1 p2 q1 q2=>by rw [show q=m by omega]; exact H1.out p p1 p2),hdk,S1.out⟩
end Go.Proofs.StSort
end
section
namespace Go.Proofs.StSort
set_option maxRecDepth 100000
open Go.Shelf Go.RowKit Go.Lib Go.Sort
variable {α:Type} [Inhabited α]
theorem Pre.behind {key:α→Int} {idx:α→Nat} {a c m b:Nat} {d d':Array α} (h:Pre key idx c m b d) (hcm:c≤m) (hp:PermIn a c d d'):Pre key idx c m b d':=
 ⟨fun p q h1 h2 h3=>by rw [hp.2.1 p (.inr h1),hp.2.1 q (.inr (by omega))]; exact h.l p q h1 h2 h3,fun p q h1 h2 h3=>by rw [hp.2.1 p (.inr (by omega)),hp.2.1 q (.inr (by omega))]; exact h.r p q h1 h2 h3,fun p q h1 h2 h3 h4=>by rw [hp.2.1 p (.inr h1),hp.2.1 q (.inr (by omega))]; exact h.c p q h1 h2 h3 h4⟩
set_option maxHeartbeats 16000000 in
theorem Cx (enc : α →List Value) (kc:Nat) (zE:∀w,(Go.sizeOf 33).run Tryd.prog w= .ok kc w) (key:α→Int) (idx:α→Nat) (g:Nat) (cb:Array Value) (blk off cap N:Nat) (d0:Array α) (w0:World)
  (eg:∀args w,(callFunc g args).run Tryd.prog w= .ok (.enter g args) w) (hcmp:CmpLays Tryd.prog g cb enc kc (cfs key) blk off N w0)
  (R1:RowK enc kc w0 blk off d0) (h0:d0.size=N) (hsz:N<4611686018427387904):∀(n a m b:Nat) (d:Array α) (w:World),b-a≤n→d.size=N→SWK enc kc w0 blk off d w→a<m→m<b→b≤N→Pre key idx a m b d→
  Calls Tryd.prog 52 #[.slice (some ⟨blk,off,none⟩) N cap,.int .i64 a,.int .i64 m,.int .i64 b,.func (.func g) #[] cb] w fun e w'=>e= .returned (.tuple #[])∧∃d',Post key idx a b d d'∧d'.size=N∧SWK enc kc w0 blk off d' w':=by
 intro n
 induction n with
 |zero=>exact fun a m b d w hn hN S ham hmb hb hP=>absurd hn (by omega)
 | succ n IH =>
  intro a m b d w hn hN S ham hmb hb hP
  by_cases hl:m=a+1
  ·exact DC enc kc zE key idx g cb blk off cap N a m b d0 d w0 w eg hcmp R1 h0 hN S hl hmb hb hsz hP
  by_cases hr:b=m+1
  ·exact DB enc kc zE key idx g cb blk off cap N a m b d0 d w0 w eg hcmp R1 h0 hN S (by omega) hr hb hsz hP
  have mixed:Tryd.prog.follows .mixedOrders=true:=by kernel_rfl
  have hu26:=Tryd.underlying46
  have a3:=Tryd.isAgg33
  have z3:=zE
  have HC:Aside _:=hcmp
  have HIH:Aside _:=IH
  have S0:Aside (SWK enc kc w0 blk off d w):=S
  have HP:Aside _:=hP
  have c1:((m:Int)-(a:Int)==1)=false:=by rw [beq_eq_false_iff_ne]; omega
  have c2:((b:Int)-(m:Int)==1)=false:=by rw [beq_eq_false_iff_ne]; omega
  obtain ⟨md,hmd⟩:∃q:Nat,q=(a+b)/2:=⟨_,rfl⟩
  have em:((a:Int)+(b:Int))/2=(md:Int):=by omega
  have hmd1:a<md:=by omega
  have hmd2:md<b:=by omega
  have HMD:Aside (md=(a+b)/2):=hmd
  have hx1:m>md→a+b≤md+m:=by omega
  have hx2:¬m>md→md+m≤a+b:=by omega
  clear S hcmp hP hmd IH
  have hx3:Aside (m>md→a+b≤md+m):=hx1
  have hx4:Aside (¬m>md→md+m≤a+b):=hx2
  clear hx1 hx2 hl hr
  go_enter Tryd.func52,Tryd.ntmps52
  go_upto_if 140 with fail
  go_cut [20,21] from 138 to 146 (fun s20 s21 wc=>∃s0 r0:Nat,s20= .int .i64 s0∧s21= .int .i64 r0∧Aside (s0=if m>md then md+m-b else a)∧Aside (r0=if m>md then md else m)∧a≤s0∧md+m≤b+s0∧s0≤r0∧r0≤m∧r0≤md∧Aside (SWK enc kc w0 blk off d wc))
  case first=>
   by_cases hc:md<m
   ·have hcz:(md:Int)<(m:Int):=by omega
    have:=hx3.out hc
    go_wp2_with fail
    go_meet
    exact ⟨md+m-b,md,by rw [show ((md+m-b:Nat):Int)=(md:Int)+m-b by omega],rfl,(if_pos hc).symm,(if_pos hc).symm,by omega,by omega,by omega,by omega,by omega,S0⟩
   ·have hcz:¬(md:Int)<(m:Int):=by omega
    have:=hx4.out hc
    go_wp2_with fail
    go_meet
    exact ⟨a,m,rfl,rfl,(if_neg hc).symm,(if_neg hc).symm,by omega,by omega,by omega,by omega,by omega,S0⟩
  case rest =>
   clear S0
   obtain ⟨s0,r0,rfl,rfl,E0,E1,b1,b2,b3,b4,b5,S0⟩:=hcut
   go_wp2
   go_loopg [20,21] (r0-s0) (fun kx s20 s21 wr=>∃(i j:Nat),s20= .int .i64 i∧s21= .int .i64 j∧s0≤i∧i≤j∧j≤r0∧j-i≤kx∧Aside (i=s0∨R key idx d[i-1]! d[md+m-1-(i-1)]!)∧Aside (j=r0∨R key idx d[md+m-1-j]! d[j]!)∧Aside (SWK enc kc w0 blk off d wr))
   case atStart=>exact ⟨s0,r0,rfl,rfl,Nat.le_refl _,b3,Nat.le_refl _,Nat.le_refl _,(.inl rfl),(.inl rfl),S0⟩
   case round=>
    clear S0
    obtain ⟨i,j,rfl,rfl,hmi,hij,hjb,hkx,H1,H2,S1⟩:=hrel
    by_cases hlt:i<j
    ·have hltz:(i:Int)<(j:Int):=by omega
     obtain ⟨h,hh⟩:∃h:Nat,h=(i+j)/2:=⟨_,rfl⟩
     have eh:((i:Int)+(j:Int))/2=(h:Int):=by omega
     have hh1:i≤h:=by omega
     have hh2:h<j:=by omega
     obtain ⟨P,hP⟩:∃P:Nat,P=md+m-1-h:=⟨_,rfl⟩
     have eP:(md:Int)+(m:Int)-1-(h:Int)=(P:Int):=by omega
     have hP1:m≤P:=by omega
     have hP2:P<b:=by omega
     have HPe:Aside (P=md+m-1-h):=hP
     clear hh hP
     go_wp2_with fail
     obtain ⟨x,hx⟩:∃x,x=d[P]! :=⟨_,rfl⟩
     obtain ⟨y,hy⟩:∃x,x=d[h]! :=⟨_,rfl⟩
     have ea:((P:Int)).toNat=(P):=by omega
     have pa:(0:Int)≤(P:Int):=by omega
     have ba:(P:Int)<(N:Int):=by omega
     have ra:IntKind.i64.wrap ((P:Int))=(P:Int):=by rw [IntKind.wrap_i64]; omega
     have ec:((h:Int)).toNat=(h):=by omega
     have pc:(0:Int)≤(h:Int):=by omega
     have bc:(h:Int)<(N:Int):=by omega
     have rc:IntKind.i64.wrap ((h:Int))=(h:Int):=by rw [IntKind.wrap_i64]; omega
     have la:=S1.out.ld R1 (by omega) Tryd.prog (P) (by omega)
     have lb:=S1.out.ld R1 (by omega) Tryd.prog ((h)) (by omega)
     rw [←hx] at la
     rw [←hy] at lb
     have hc:=S1.out.cmp HC.out hN x y
     have HS:Aside _:=S1.out.grown
     have HXY:Aside (x=d[P]! ∧y=d[h]!):=⟨hx,hy⟩
     cases hlv:ltk key x y with
     | true=>
      have hv:cfs key x y<0:=of_decide_eq_true ((BB key x y).trans hlv)
      have hd:decide (cfs key x y<0)=true:=(BB key x y).trans hlv
      have HL:Aside (ltk key x y=true):=hlv
      clear hlv S1 hx hy
      go_wp2_with fail
      go_quiet_grown (first|(go_at_fn g; refine Calls.grown_of (hc _ _)))
      have S2:Aside (SWK enc kc w0 blk off d (grow (wr.drewN nq) osq)):=HS.out nq osq
      clear la lb hc HS
      generalize grow (wr.drewN nq) osq=w2 at S2 ⊢
      clear nq osq ea ec
      go_wp2
      go_roundg (h-i)
      case measure=>omega
      case rel=>exact ⟨i,h,rfl,rfl,hmi,by omega,by omega,by omega,H1,(.inr (by
       have:=HL.out; rw [HXY.out.1,HXY.out.2] at this; (first|rw [show h+1-1=h from rfl]|skip); rw [←HPe.out]; exact (Cp (HP.out.c h P (by omega) (by omega) hP1 hP2)).mp this)),S2⟩
     | false=>
      have hv:¬cfs key x y<0:=of_decide_eq_false ((BB key x y).trans hlv)
      have hd:decide (cfs key x y<0)=false:=(BB key x y).trans hlv
      have HL:Aside (ltk key x y=false):=hlv
      clear hlv S1 hx hy
      go_wp2_with fail
      go_quiet_grown (first|(go_at_fn g; refine Calls.grown_of (hc _ _)))
      have S2:Aside (SWK enc kc w0 blk off d (grow (wr.drewN nq) osq)):=HS.out nq osq
      clear la lb hc HS
      generalize grow (wr.drewN nq) osq=w2 at S2 ⊢
      clear nq osq ea ec
      go_wp2
      go_roundg (j-(h+1))
      case measure=>omega
      case rel=>exact ⟨h+1,j,by go_num,rfl,by omega,by omega,hjb,by omega,(.inr (by
       have:=HL.out; rw [HXY.out.1,HXY.out.2] at this; (first|rw [show h+1-1=h from rfl]|skip); rw [←HPe.out]; exact (CT (HP.out.c h P (by omega) (by omega) hP1 hP2)).mp this)),H2,S2⟩
    ·have hltz : ¬ (i:Int)<(j:Int):=by omega
     obtain rfl:i=j:=by omega
     obtain ⟨e,he⟩:∃q:Nat,q=md+m-i:=⟨_,rfl⟩
     have ee:(md:Int)+(m:Int)-(i:Int)=(e:Int):=by omega
     have HE:Aside (e=md+m-i):=he
     have HCut:Aside (Cut key idx a m b i e d):=by rw [he]; exact Cut.found HP.out ham hmb (by rw [←HMD.out]) (by rw [←HMD.out]; exact E0.out) (by rw [←HMD.out]; exact E1.out) hmi hjb H1.out H2.out
     have k1:i≤m:=by omega
     have k2:m≤e:=by omega
     have k3:e≤b:=by omega
     have k4:a≤i:=by omega
     have k5:i≤md:=by omega
     have k6:md≤e:=by omega
     clear he E0 E1 H1 H2 b1 b2 b3 b4 b5 hmi hjb hkx hij
     go_upto_region 39 with fail
     go_cut [185] from 178 to 184 (fun s185 wc=>s185= .bool (decide (i<m∧m<e))∧Aside (SWK enc kc w0 blk off d wc))
     case first=>
      by_cases q1:i<m
      ·have q1z:(i:Int)<(m:Int):=by omega
       by_cases q2:m<e
       ·have q2z:(m:Int)<(e:Int):=by omega
        have q3:decide (i<m∧m<e)=true:=decide_eq_true ⟨q1,q2⟩
        go_wp2_with fail
        go_meet
        exact ⟨by first|rfl|rw [q3],S1⟩
       ·have q2z:¬(m:Int)<(e:Int):=by omega
        have q3:decide (i<m∧m<e)=false:=decide_eq_false (fun h=>q2 h.2)
        go_wp2_with fail
        go_meet
        exact ⟨by first|rfl|rw [q3],S1⟩
      ·have q1z:¬(i:Int)<(m:Int):=by omega
       have q3:decide (i<m∧m<e)=false:=decide_eq_false (fun h=>q1 h.1)
       go_wp2_with fail
       go_meet
       exact ⟨by first|rfl|rw [q3],S1⟩
     case rest =>
      clear S1
      obtain ⟨rfl,S1⟩:=hcut
      go_upto_if 185 with fail
      go_cut [] from 185 to 191 (fun wc=>∃d1:Array α,Aside (Rot d i m e d1)∧d1.size=N∧Aside (SWK enc kc w0 blk off d1 wc))
      case first=>
       by_cases q:i<m∧m<e
       ·have q1:decide (i<m∧m<e)=true:=decide_eq_true q
        have hcall:=rotate enc kc zE (.func (.func g) #[] cb) blk off cap N i m e d0 d w0 wc R1 h0 hN S1.out q.1 q.2 (by omega) hsz
        clear S1
        go_wp2_with (go_at_call 54; refine hcall.mono ?_; rintro e1 w1 ⟨rfl,d1,hR,hd1,S3⟩)
        go_meet
        exact ⟨d1,hR,hd1,S3⟩
       ·have q1:decide (i<m∧m<e)=false:=decide_eq_false q
        go_wp2_with fail
        go_meet
        exact ⟨d,Rot.none (by omega) (by omega) (by omega),hN,S1⟩
      case rest =>
       clear S1
       obtain ⟨d1,HR,hd1,S1⟩:=hcut
       have HPt:Aside _:=HCut.out.parts HP.out HR.out
       have HMe:Aside (i+(e-m)=md):=by show _=_; omega
       go_upto_region 41 with fail
       go_cut [199] from 192 to 198 (fun s199 wc=>s199= .bool (decide (a<i∧i<md))∧Aside (SWK enc kc w0 blk off d1 wc))
       case first=>
        by_cases q1:a<i
        ·have q1z:(a:Int)<(i:Int):=by omega
         by_cases q2:i<md
         ·have q2z:(i:Int)<(md:Int):=by omega
          have q3:decide (a<i∧i<md)=true:=decide_eq_true ⟨q1,q2⟩
          go_wp2_with fail
          go_meet
          exact ⟨by first|rfl|rw [q3],S1⟩
         ·have q2z:¬(i:Int)<(md:Int):=by omega
          have q3:decide (a<i∧i<md)=false:=decide_eq_false (fun h=>q2 h.2)
          go_wp2_with fail
          go_meet
          exact ⟨by first|rfl|rw [q3],S1⟩
        ·have q1z:¬(a:Int)<(i:Int):=by omega
         have q3:decide (a<i∧i<md)=false:=decide_eq_false (fun h=>q1 h.1)
         go_wp2_with fail
         go_meet
         exact ⟨by first|rfl|rw [q3],S1⟩
       case rest =>
        clear S1
        obtain ⟨rfl,S1⟩:=hcut
        go_upto_if 199 with fail
        go_cut [] from 199 to 205 (fun wc=>∃d2:Array α,Aside (Post key idx a md d1 d2)∧d2.size=N∧Aside (SWK enc kc w0 blk off d2 wc))
        case first=>
         by_cases q:a<i∧i<md
         ·have q1:decide (a<i∧i<md)=true:=decide_eq_true q
          have hcall:=HIH.out a i md d1 wc (by omega) hd1 S1.out q.1 q.2 (by omega) (by have:=HPt.out.1; rw [HMe.out] at this; exact this)
          clear S1
          go_wp2_with (go_at_call 52; refine hcall.mono ?_; rintro e1 w1 ⟨rfl,d2,hQ,hd2,S3⟩)
          go_meet
          exact ⟨d2,hQ,hd2,S3⟩
         ·have q1:decide (a<i∧i<md)=false:=decide_eq_false q
          go_wp2_with fail
          go_meet
          exact ⟨d1,⟨permIn_refl _ _ _,by
           have h1:=HPt.out.1
           rw [HMe.out] at h1
           by_cases h:a=i
           ·rw [h]; exact h1.r
           ·have h2:md=i:=by omega
            rw [h2]; exact h1.l⟩,hd1,S1⟩
        case rest =>
         clear S1
         obtain ⟨d2,HQ,hd2,S1⟩:=hcut
         go_upto_region 43 with fail
         go_cut [213] from 206 to 212 (fun s213 wc=>s213= .bool (decide (md<e∧e<b))∧Aside (SWK enc kc w0 blk off d2 wc))
         case first=>
          by_cases q1:md<e
          ·have q1z:(md:Int)<(e:Int):=by omega
           by_cases q2:e<b
           ·have q2z:(e:Int)<(b:Int):=by omega
            have q3:decide (md<e∧e<b)=true:=decide_eq_true ⟨q1,q2⟩
            go_wp2_with fail
            go_meet
            exact ⟨by first|rfl|rw [q3],S1⟩
           ·have q2z:¬(e:Int)<(b:Int):=by omega
            have q3:decide (md<e∧e<b)=false:=decide_eq_false (fun h=>q2 h.2)
            go_wp2_with fail
            go_meet
            exact ⟨by first|rfl|rw [q3],S1⟩
          ·have q1z:¬(md:Int)<(e:Int):=by omega
           have q3:decide (md<e∧e<b)=false:=decide_eq_false (fun h=>q1 h.1)
           go_wp2_with fail
           go_meet
           exact ⟨by first|rfl|rw [q3],S1⟩
         case rest=>
          clear S1
          obtain ⟨rfl,S1⟩:=hcut
          have HPr:Aside (Pre key idx md e b d2):=by
           have h2:=HPt.out.2.1
           rw [HMe.out] at h2
           exact h2.behind (by omega) HQ.out.1
          have HD:Aside (∀d3,Post key idx md b d2 d3→Post key idx a b d d3):=fun d3 h3=>by
           have h4:=HPt.out.2.2
           rw [HMe.out] at h4
           have h5:=DN (by omega) (by omega) (by omega) h4 HQ.out h3
           exact ⟨permIn_trans _ _ _ _ _ (permIn_mono _ _ _ _ _ _ (by omega) k3 (by omega) (HR.out.perm k1 k2 (by omega))) h5.1,h5.2⟩
          by_cases q:md<e∧e<b
          ·have q1:decide (md<e∧e<b)=true:=decide_eq_true q
           have hcall:=HIH.out md e b d2 wc (by omega) hd2 S1.out q.1 q.2 (by omega) HPr.out
           clear S1
           go_wp2_with (go_at_call 52; refine hcall.mono ?_; rintro e1 w1 ⟨rfl,d3,hQ,hd3,S3⟩)
           go_end0
           exact ⟨rfl,d3,HD.out d3 hQ,hd3,S3⟩
          ·have q1:decide (md<e∧e<b)=false:=decide_eq_false q
           go_wp2
           go_end0
           exact ⟨rfl,d2,HD.out d2 ⟨permIn_refl _ _ _,by
            by_cases h:md=e
            ·rw [h]; exact HPr.out.r
            ·have h2:b=e:=by omega
             rw [h2]; exact HPr.out.l⟩,hd2,S1.out⟩
end Go.Proofs.StSort
end
section
namespace Go.Proofs.StSort
set_option maxRecDepth 100000
open Go.Sort
variable {α:Type} [Inhabited α] {key:α→Int} {idx:α→Nat}
structure Ins (key:α→Int) (idx:α→Nat) (N a:Nat) (d dk:Array α):Prop where
 pm:PermIn 0 N d dk
 lo:∀p q,p<q→q<a→p/20=q/20→R key idx dk[p]! dk[q]!
 hi:∀p,a≤p→dk[p]! =d[p]!
 il:∀p,p<N→idx dk[p]! /20=p/20
theorem Ins.start {N:Nat} {d:Array α} (hi:∀p,p<N→idx d[p]! =p):Ins key idx N 0 d d:=
 ⟨permIn_refl _ _ _,fun p q h1 h2=>by omega,fun p h=>rfl,fun p h=>by rw [hi p h]⟩
theorem Ins.stab {N a b:Nat} {d dk:Array α} (h:Ins key idx N a d dk) (hi:∀p,p<N→idx d[p]! =p) (hb:b≤N):Stab key idx a b dk:=fun p q h1 h2 h3 _=>by
 rw [h.hi p h1,h.hi q (by omega),hi p (by omega),hi q (by omega)]; exact h2
theorem Ins.step {N a b:Nat} {d dk d1:Array α} (h:Ins key idx N a d dk) (hi:∀p,p<N→idx d[p]! =p) (ha:a%20=0) (hab:a≤b) (hb:b≤a+20) (hN:b≤N) (hs:N≤d.size) (hp:Post key idx a b dk d1):Ins key idx N b d d1:=by
  have hsz:=h.pm.1
  refine ⟨permIn_trans _ _ _ _ _ h.pm (permIn_mono _ _ _ _ _ _ (Nat.zero_le _) hN (by rw [hsz]; exact hs) hp.1),fun p q p1 p2 p3=> ?_,fun p p1=> ?_,fun p p1=> ?_⟩
  · by_cases c:a≤p
    · exact hp.2 p q c p1 p2
    · rw [hp.1.2.1 p (by omega),hp.1.2.1 q (by omega)]
      exact h.lo p q p1 (by omega) p3
  · rw [hp.1.2.1 p (by omega)]; exact h.hi p (by omega)
  · by_cases c:a≤p∧p<b
    · have e:=permIn_all dk d1 a b (fun x=>idx x/20=a/20) (by rw [hsz]; omega) hp.1 (fun i i1 i2=>by
        show idx dk[i]! /20=a/20
        rw [h.il i (by omega)]; omega) p c.1 c.2
      have e':idx d1[p]! /20=a/20:=e
      omega
    · rw [hp.1.2.1 p (by omega)]; exact h.il p p1
structure Bs (key:α→Int) (idx:α→Nat) (bs N:Nat) (d dk:Array α):Prop where
 pm:PermIn 0 N d dk
 lo:∀p q,p<q→q<N→p/bs=q/bs→R key idx dk[p]! dk[q]!
 il:∀p,p<N→idx dk[p]! /bs=p/bs
theorem Ins.bs {N:Nat} {d dk:Array α} (h:Ins key idx N N d dk):Bs key idx 20 N d dk:=⟨h.pm,fun p q h1 h2 h3=>h.lo p q h1 h2 h3,h.il⟩
theorem Bs.post {bs N:Nat} {d dk:Array α} (h:Bs key idx bs N d dk) (hb:N≤bs):Post key idx 0 N d dk:=
 ⟨h.pm,fun p q h1 h2 h3=>h.lo p q h2 h3 (by rw [Nat.div_eq_of_lt (by omega),Nat.div_eq_of_lt (by omega)])⟩
structure Mg (key:α→Int) (idx:α→Nat) (bs N a:Nat) (d dk:Array α):Prop where
 pm:PermIn 0 N d dk
 lo:∀p q,p<q→q<a→p/(2*bs)=q/(2*bs)→R key idx dk[p]! dk[q]!
 hi:∀p q,a≤p→p<q→q<N→p/bs=q/bs→R key idx dk[p]! dk[q]!
 il:∀p,p<N→idx dk[p]! /(2*bs)=p/(2*bs)
 ih:∀p,a≤p→p<N→idx dk[p]! /bs=p/bs
def Bz (bs:Nat):Prop:=bs=20∨bs=40∨bs=80
theorem Bs.start {bs N:Nat} {d dk:Array α} (hz:Bz bs) (h:Bs key idx bs N d dk):Mg key idx bs N 0 d dk:=by
 refine ⟨h.pm,fun p q h1 h2=>by omega,fun p q _ h1 h2 h3=>h.lo p q h1 h2 h3,fun p h1=> ?_,fun p _ h1=>h.il p h1⟩
 have:=h.il p h1
 rcases hz with rfl|rfl|rfl<;>omega
theorem Mg.pre {bs N a e:Nat} {d dk:Array α} (hz:Bz bs) (h:Mg key idx bs N a d dk) (ha:a%(2*bs)=0) (hm:a+bs≤e) (h1:e≤a+2*bs) (h2:e≤N):Pre key idx a (a+bs) e dk:=by
 refine ⟨fun p q p1 p2 p3=> ?_,fun p q p1 p2 p3=> ?_,fun p q p1 p2 p3 p4=> ?_⟩
 ·exact h.hi p q p1 p2 (by omega) (by rcases hz with rfl|rfl|rfl<;>omega)
 ·exact h.hi p q (by omega) p2 (by omega) (by rcases hz with rfl|rfl|rfl<;>omega)
 ·have e1:=h.ih p p1 (by omega)
  have e2:=h.ih q (by omega) (by omega)
  rcases hz with rfl|rfl|rfl<;>omega
theorem Mg.step {bs N a:Nat} {d dk d1:Array α} (hz:Bz bs) (h:Mg key idx bs N a d dk) (ha:a%(2*bs)=0) (hN:a+2*bs≤N) (hs:N≤d.size) (hp:Post key idx a (a+2*bs) dk d1):Mg key idx bs N (a+2*bs) d d1:=by
  have hsz:=h.pm.1
  have out:∀p,p<a∨a+2*bs≤p→d1[p]! =dk[p]! :=hp.1.2.1
  refine ⟨permIn_trans _ _ _ _ _ h.pm (permIn_mono _ _ _ _ _ _ (Nat.zero_le _) hN (by rw [hsz]; exact hs) hp.1),fun p q p1 p2 p3=> ?_,fun p q p1 p2 p3 p4=> ?_,fun p p1=> ?_,fun p p1 p2=> ?_⟩
  · by_cases c:a≤p
    · exact hp.2 p q c p1 p2
    · rw [out p (by omega),out q (by left; rcases hz with rfl|rfl|rfl<;>omega)]
      exact h.lo p q p1 (by rcases hz with rfl|rfl|rfl<;>omega) p3
  · rw [out p (.inr p1),out q (by omega)]; exact h.hi p q (by omega) p2 p3 p4
  · by_cases c:a≤p∧p<a+2*bs
    · have e:=permIn_all dk d1 a (a+2*bs) (fun x=>idx x/(2*bs)=a/(2*bs)) (by rw [hsz]; omega) hp.1 (fun i i1 i2=>by
        show idx dk[i]! /(2*bs)=a/(2*bs)
        rw [h.il i (by omega)]; rcases hz with rfl|rfl|rfl<;>omega) p c.1 c.2
      have e':idx d1[p]! /(2*bs)=a/(2*bs):=e
      rw [e']; rcases hz with rfl|rfl|rfl<;>omega
    · rw [out p (by omega)]; exact h.il p p1
  · rw [out p (.inr p1)]; exact h.ih p (by omega) p2
theorem Mg.last {bs N a:Nat} {d dk d1:Array α} (hz:Bz bs) (h:Mg key idx bs N a d dk) (ha:a%(2*bs)=0) (haN:a≤N) (hN:N<a+2*bs) (hs:N≤d.size) (hp:Post key idx a N dk d1):Bs key idx (2*bs) N d d1:=by
  have hsz:=h.pm.1
  have out:∀p,p<a∨N≤p→d1[p]! =dk[p]! :=hp.1.2.1
  refine ⟨permIn_trans _ _ _ _ _ h.pm (permIn_mono _ _ _ _ _ _ (Nat.zero_le _) (Nat.le_refl _) (by rw [hsz]; exact hs) hp.1),fun p q p1 p2 p3=> ?_,fun p p1=> ?_⟩
  · by_cases c:a≤p
    · exact hp.2 p q c p1 p2
    · rw [out p (by omega),out q (by left; rcases hz with rfl|rfl|rfl<;>omega)]
      exact h.lo p q p1 (by rcases hz with rfl|rfl|rfl<;>omega) p3
  · by_cases c:a≤p
    · have e:=permIn_all dk d1 a N (fun x=>idx x/(2*bs)=a/(2*bs)) (by rw [hsz]; omega) hp.1 (fun i i1 i2=>by
        show idx dk[i]! /(2*bs)=a/(2*bs)
        rw [h.il i (by omega)]; rcases hz with rfl|rfl|rfl<;>omega) p c p1
      have e':idx d1[p]! /(2*bs)=a/(2*bs):=e
      rw [e']; rcases hz with rfl|rfl|rfl<;>omega
    · rw [out p (by omega)]; exact h.il p p1
theorem Mg.same {bs N a:Nat} {d dk:Array α} (hz:Bz bs) (h:Mg key idx bs N a d dk) (ha:a%(2*bs)=0) (hN:N≤a+bs):Post key idx a N dk dk:=
 ⟨permIn_refl _ _ _,fun p q h1 h2 h3=>h.hi p q h1 h2 h3 (by rcases hz with rfl|rfl|rfl<;>omega)⟩
end Go.Proofs.StSort
end
section
namespace Go.Proofs.StSort
set_option maxRecDepth 100000
open Go.Shelf Go.RowKit Go.Lib Go.Sort
variable {α:Type} [Inhabited α]
set_option maxHeartbeats 16000000 in
theorem stable (enc:α→List Value) (kc:Nat) (zE:∀w,(Go.sizeOf 33).run Tryd.prog w= .ok kc w) (key:α→Int) (idx:α→Nat) (g:Nat) (cb:Array Value) (blk off cap N:Nat) (d:Array α) (w:World)
  (eg:∀args w,(callFunc g args).run Tryd.prog w= .ok (.enter g args) w) (hcmp:CmpLays Tryd.prog g cb enc kc (cfs key) blk off N w)
  (R1:RowK enc kc w blk off d) (hN:d.size=N) (hN100:N≤100) (hi:∀p,p<N→idx d[p]! =p):
  Calls Tryd.prog 49 #[.slice (some ⟨blk,off,none⟩) N cap,.int .i64 N,.func (.func g) #[] cb] w fun e w'=>e= .returned (.tuple #[])∧∃d',Post key idx 0 N d d'∧d'.size=N∧SWK enc kc w blk off d' w':=by
 have hu26:=Tryd.underlying46
 have HC:Aside _:=hcmp
 have S0:Aside (SWK enc kc w blk off d w):=SWK.start R1.hH
 have HR1:Aside _:=R1
 have HI:Aside (∀p,p<N→idx d[p]! =p):=hi
 clear hcmp hi
 have R1:=HR1
 clear R1
 go_enter Tryd.func49,Tryd.ntmps49
 go_wp2
 go_loopg [7,8] (120-0) (fun kx s7 s8 wr=>∃(a:Nat) (dk:Array α),s7= .int .i64 a∧s8= .int .i64 ((a:Int)+20)∧a≤N∧a%20=0∧120-a≤kx∧Aside (Ins key idx N a d dk)∧dk.size=N∧Aside (SWK enc kc w blk off dk wr))
 case atStart=>exact ⟨0,d,rfl,rfl,by omega,rfl,by omega,Ins.start HI.out,hN,S0⟩
 case round=>
  clear S0
  obtain ⟨a,dk,rfl,rfl,haN,ham,hkx,HB,hdk,S1⟩:=hrel
  by_cases hlt:a+20≤N
  ·have hltz:(a:Int)+20≤(N:Int):=by omega
   have hcall:=insertion enc kc zE key idx g cb blk off cap N a (a+20) d dk w wr eg HC.out HR1.out hN hdk S1.out (by omega) (by omega) (by omega) (HB.out.stab HI.out (by omega))
   rw [show ((a+20:Nat):Int)=(a:Int)+20 by omega] at hcall
   clear S1
   go_wp2_with (go_at_call 51; refine hcall.mono ?_; rintro e1 w1 ⟨rfl,d1,hP,hd1,S3⟩)
   go_roundg (120-(a+20))
   case measure=>omega
   case rel=>exact ⟨a+20,d1,by go_num,by first|go_num|(congr 1; omega),hlt,by omega,Nat.le_refl _,HB.out.step HI.out ham (by omega) (Nat.le_refl _) hlt (by omega) hP,hd1,S3⟩
  ·have hltz :¬(a:Int)+20≤(N:Int):=by omega
   have hcall:=insertion enc kc zE key idx g cb blk off cap N a N d dk w wr eg HC.out HR1.out hN hdk S1.out haN (Nat.le_refl _) (by omega) (HB.out.stab HI.out (Nat.le_refl _))
   clear S1
   go_wp2_with (go_at_call 51; refine hcall.mono ?_; rintro e1 w1 ⟨rfl,d1,hP,hd1,S3⟩)
   have HD:Aside (Bs key idx 20 N d d1):=(HB.out.step HI.out ham haN (by omega) (Nat.le_refl _) (by omega) hP).bs
   clear hP HB
   have S1:Aside _:=S3
   clear S3
   clear hltz hlt haN hkx ham
   go_loopg [6,7,8,9] 3 (fun kx s6 s7 s8 s9 wr=>∃(bs:Nat) (d2:Array α),s6= .int .i64 bs∧Aside ((bs=20∧kx=3)∨(bs=40∧kx=2)∨(bs=80∧kx=1)∨(bs=160∧kx=0))∧Aside (Bs key idx bs N d d2)∧d2.size=N∧Aside (SWK enc kc w blk off d2 wr))
   case atStart=>exact ⟨20,d1,rfl,.inl ⟨rfl,rfl⟩,HD,hd1,S1⟩
   case round=>
    clear S1 HD
    obtain ⟨bs,d2,rfl,HK,HD,hd2,S1⟩:=hrel
    by_cases hlt:bs<N
    ·have hltz:(bs:Int)<(N:Int):=by omega
     have hltb:decide ((bs:Int)<(N:Int))=true:=decide_eq_true hltz
     have hz:Bz bs:=by have:=HK.out; unfold Bz; omega
     have hz0:20≤bs:=by have:=HK.out; omega
     have hz9:bs≤80:=by have:=HK.out; omega
     have HZ:Aside (Bz bs):=hz
     clear hz
     go_wp2
     go_loopg [7,8] (N+200) (fun ky s7 s8 wr=>∃(a:Nat) (d3:Array α),s7= .int .i64 a∧s8= .int .i64 ((a:Int)+2*bs)∧Aside (a%(2*bs)=0)∧a≤N∧N+200-a≤ky∧Aside (Mg key idx bs N a d d3)∧d3.size=N∧Aside (SWK enc kc w blk off d3 wr))
     case atStart=>exact ⟨0,d2,rfl,by first|rfl|go_num|(congr 1; omega),Nat.zero_mod _,Nat.zero_le _,by omega,HD.out.start HZ.out,hd2,S1⟩
     case round=>
      clear S1 HD
      obtain ⟨a,d3,rfl,rfl,HA,haN,hky,HM,hd3,S1⟩:=hrel
      by_cases hb:a+2*bs≤N
      ·have hbz:(a:Int)+2*(bs:Int)≤(N:Int):=by omega
       have hcall:=Cx enc kc zE key idx g cb blk off cap N d w eg HC.out HR1.out hN (by omega) (2*bs) a (a+bs) (a+2*bs) d3 wr (by omega) hd3 S1.out (by omega) (by omega) hb (HM.out.pre HZ.out HA.out (by omega) (Nat.le_refl _) hb)
       rw [show ((a+bs:Nat):Int)=(a:Int)+(bs:Int) by omega,show ((a+2*bs:Nat):Int)=(a:Int)+2*(bs:Int) by omega] at hcall
       clear S1
       go_wp2_with (go_at_call 52; refine hcall.mono ?_; rintro e1 w1 ⟨rfl,d4,hQ,hd4,S3⟩)
       go_roundg (N+200-(a+2*bs))
       case measure=>omega
       case rel=>exact ⟨a+2*bs,d4,by first|rfl|go_num|(congr 1; omega),by first|rfl|go_num|(congr 1; omega),by (show _=_); have:=HA.out; rw [Nat.add_mod_right]; exact this,hb,Nat.le_refl _,HM.out.step HZ.out HA.out hb (by omega) hQ,hd4,S3⟩
      ·have hbz:¬(a:Int)+2*(bs:Int)≤(N:Int):=by omega
       by_cases hm:a+bs<N
       ·have hmz:(a:Int)+(bs:Int)<(N:Int):=by omega
        have hcall:=Cx enc kc zE key idx g cb blk off cap N d w eg HC.out HR1.out hN (by omega) (2*bs) a (a+bs) N d3 wr (by omega) hd3 S1.out (by omega) hm (Nat.le_refl _) (HM.out.pre HZ.out HA.out (by omega) (by omega) (Nat.le_refl _))
        rw [show ((a+bs:Nat):Int)=(a:Int)+(bs:Int) by omega] at hcall
        clear S1
        go_wp2_with (go_at_call 52; refine hcall.mono ?_; rintro e1 w1 ⟨rfl,d4,hQ,hd4,S3⟩)
        go_roundg (if bs=20 then 2 else if bs=40 then 1 else 0)
        case measure=>have:=HK.out; split<;>(try split)<;>omega
        case rel=>exact ⟨2*bs,d4,by first|rfl|go_num|(congr 1; omega),by (show _∨_); have:=HK.out; split<;>(try split)<;>omega,HM.out.last HZ.out HA.out haN (by omega) (by omega) hQ,hd4,S3⟩
       ·have hmz:¬(a:Int)+(bs:Int)<(N:Int):=by omega
        go_wp2
        go_roundg (if bs=20 then 2 else if bs=40 then 1 else 0)
        case measure=>have:=HK.out; split<;>(try split)<;>omega
        case rel=>exact ⟨2*bs,d3,by first|rfl|go_num|(congr 1; omega),by (show _∨_); have:=HK.out; split<;>(try split)<;>omega,HM.out.last HZ.out HA.out haN (by omega) (by omega) (HM.out.same HZ.out HA.out (by omega)),hd3,S1⟩
    ·have hltz:¬(bs:Int)<(N:Int):=by omega
     have hltb:decide ((bs:Int)<(N:Int))=false:=decide_eq_false hltz
     go_wp2
     go_end0
     exact ⟨rfl,d2,HD.out.post (by omega),hd2,S1.out⟩
set_option maxHeartbeats 4000000 in
theorem sortStable (enc:α→List Value) (kc:Nat) (zE:∀w,(Go.sizeOf 33).run Tryd.prog w= .ok kc w) (key:α→Int) (idx:α→Nat) (g:Nat) (cb:Array Value) (blk off cap N:Nat) (d:Array α) (w:World)
  (eg:∀args w,(callFunc g args).run Tryd.prog w= .ok (.enter g args) w) (hcmp:CmpLays Tryd.prog g cb enc kc (cfs key) blk off N w)
  (R1:RowK enc kc w blk off d) (hN:d.size=N) (hN100:N≤100) (hi:∀p,p<N→idx d[p]! =p):
  Calls Tryd.prog 44 #[.slice (some ⟨blk,off,none⟩) N cap,.func (.func g) #[] cb] w fun e w'=>e= .returned (.tuple #[])∧∃d',Post key idx 0 N d d'∧d'.size=N∧SWK enc kc w blk off d' w':=by
 have hcall:=stable enc kc zE key idx g cb blk off cap N d w eg hcmp R1 hN hN100 hi
 clear hcmp R1 hi
 go_enter Tryd.func44,Tryd.ntmps44
 go_wp2_with (go_at_call 49; refine hcall.mono ?_; rintro e1 w1 ⟨rfl,d4,hQ,hd4,S3⟩)
 go_end0
 exact ⟨rfl,d4,hQ,hd4,S3⟩
end Go.Proofs.StSort
end
section
namespace Go.Proofs.StSort
set_option maxRecDepth 100000
def szI (v:Int):Int:=if v<0 then -v else v
def keyI (h v:Int):Int:=if v=0 then -2000000000 else -(h*1000000/szI v)
theorem key_pq {a b p q:Int} (hp:0<p) (hq:0<q) (hp1:p≤1000) (hq1:q≤1000) (ha:0≤a) (hb:0≤b):a*q>b*p↔b*1000000/q<a*1000000/p:=by
 constructor
 ·intro h
  apply Int.lt_of_add_one_le
  rw [Int.le_ediv_iff_mul_le hp]
  apply Int.le_of_mul_le_mul_right _ hq
  have h1:b*1000000/q*q≤b*1000000:=Int.ediv_mul_le _ (by omega)
  have h2:b*1000000/q*q*p≤b*1000000*p:=Int.mul_le_mul_of_nonneg_right h1 (by omega)
  have h3:p*q≤1000*1000:=Int.mul_le_mul hp1 hq1 (by omega) (by omega)
  have e1:(b*1000000/q+1)*p*q=b*1000000/q*q*p+p*q:=by
   rw [Int.add_mul,Int.one_mul,Int.add_mul,Int.mul_assoc,Int.mul_comm p q,←Int.mul_assoc]
  have e2:b*1000000*p=1000000*(b*p):=by rw [Int.mul_comm b 1000000,Int.mul_assoc]
  have e3:a*1000000*q=1000000*(a*q):=by rw [Int.mul_comm a 1000000,Int.mul_assoc]
  rw [e1,e3]
  rw [e2] at h2
  omega
 ·intro h
  by_cases c:a*q>b*p
  ·exact c
  ·exfalso
   have h1:a*1000000/p≤b*1000000/q:=by
    rw [Int.le_ediv_iff_mul_le hq]
    apply Int.le_of_mul_le_mul_right _ hp
    have g1:a*1000000/p*p≤a*1000000:=Int.ediv_mul_le _ (by omega)
    have g2:a*1000000/p*p*q≤a*1000000*q:=Int.mul_le_mul_of_nonneg_right g1 (by omega)
    have e1:a*1000000/p*q*p=a*1000000/p*p*q:=by rw [Int.mul_assoc,Int.mul_comm q p,←Int.mul_assoc]
    have e2:b*1000000*p=1000000*(b*p):=by rw [Int.mul_comm b 1000000,Int.mul_assoc]
    have e3:a*1000000*q=1000000*(a*q):=by rw [Int.mul_comm a 1000000,Int.mul_assoc]
    rw [e1,e2]
    rw [e3] at g2
    omega
   omega
structure KOk (h v:Int):Prop where
 h0:0≤h
 h1:h≤1000
 v0: -1000≤v
 v1:v≤1000
 z:v=0→0<h
theorem Cn {v:Int} (h:v≠0):0<szI v:=by unfold szI; split<;>omega
theorem Dp {v:Int} (h0: -1000≤v) (h1:v≤1000):szI v≤1000:=by unfold szI; split<;>omega
theorem key_iff {a b c d:Int} (K:KOk a b) (L:KOk c d):a*szI d>c*szI b↔keyI a b<keyI c d:=by
 unfold keyI
 by_cases hb:b=0
 ·rw [if_pos hb]
  have e:szI b=0:=by rw [hb]; rfl
  rw [e,Int.mul_zero]
  by_cases hd:d=0
  ·rw [if_pos hd]
   have e2:szI d=0:=by rw [hd]; rfl
   rw [e2,Int.mul_zero]; omega
  ·rw [if_neg hd]
   have p1:=Cn hd
   have h1:0<a*szI d:=Int.mul_pos (K.z hb) p1
   have h2:c*1000000/szI d≤c*1000000:=Int.ediv_le_self _ (by have:=L.h0; omega)
   have:=L.h1
   omega
 ·rw [if_neg hb]
  have p1:=Cn hb
  by_cases hd:d=0
  ·rw [if_pos hd]
   have e2:szI d=0:=by rw [hd]; rfl
   rw [e2,Int.mul_zero]
   have h1:0<c*szI b:=Int.mul_pos (L.z hd) p1
   have h2:a*1000000/szI b≤a*1000000:=Int.ediv_le_self _ (by have:=K.h0; omega)
   have:=K.h1
   omega
  ·rw [if_neg hd]
   have p2:=Cn hd
   have h:=key_pq p1 p2 (Dp K.v0 K.v1) (Dp L.v0 L.v1) K.h0 L.h0
   rw [h]; omega
end Go.Proofs.StSort
end
section
namespace Go.Proofs.YtgfjidlckocflaaDoor.PAll
set_option maxRecDepth 100000
open Go.RowKit Go.Proofs.YtgfjidlckocflaaDoorW.PrintWords Go.Proofs.YtgfjidlckocflaaDoorW.PrintLast Go.Proofs.YtgfjidlckocflaaDoorW.PrintMore
attribute [local go_sem] BM BK BV BU BD BC BL BJ
open Go.Shelf Go.Lib Go.Sort
open StSort (szI keyI KOk)
set_option maxHeartbeats 4000000 in
theorem Ds (v:Int) (h0: -1000≤v) (h1:v≤1000) (w:World):Calls Tryd.prog 38 #[.int .i64 v] w fun e w'=>e= .returned (.int .i64 (szI v))∧∃q,w'=w.drewN q:=by
 obtain ⟨ji2,hji2⟩:∃j_:Int,(mx v (wrap64 (-v)))=j_:=⟨_,rfl⟩
 have hji2_:(if v<(wrap64 (-v)) then (wrap64 (-v)) else v)=ji2:=hji2
 have e:szI v=ji2:=by
  rw [←hji2_,show wrap64 (-v)= -v by unfold wrap64; omega]
  unfold szI; split<;>split<;>omega
 rw [e]
 clear e h0 h1
 go_enter Tryd.func38,Tryd.ntmps38
 go_wp2
 go_ret
 exact ⟨by first|rfl|(simp only [←hji2]; rfl),⟨0,rfl⟩⟩
theorem fin2 (w:World) (o1 o2:Obj) (n:Nat):∃q os,((w.alloc o1).alloc o2).drewN n=grow (w.drewN q) os:=
 ⟨n,#[o1]++ #[o2],by rw [alloc_eq_grow,alloc_eq_grow,grow_grow]; rfl⟩
set_option maxHeartbeats 8000000 in
theorem Cd (a0 a1 a2 b0 b1 b2:Int) (ha:0≤a0∧a0≤1000∧ -1000≤a1∧a1≤1000) (hb:0≤b0∧b0≤1000∧ -1000≤b1∧b1≤1000) (w:World):
  Calls Tryd.prog 37 #[.agg #[.int .i64 a0,.int .i64 a1,.int .i64 a2],.agg #[.int .i64 b0,.int .i64 b1,.int .i64 b2]] w fun e w'=>e= .returned (.bool (decide (a0*szI b1>b0*szI a1)))∧∃q os,w'=grow (w.drewN q) os:=by
 have hu33:=Tryd.underlying33
 have c1:=fun w=>Ds a1 ha.2.2.1 ha.2.2.2 w
 have c2:=fun w=>Ds b1 hb.2.2.1 hb.2.2.2 w
 have k1:0≤szI a1∧szI a1≤1000:=by unfold szI; split<;>omega
 have k2:0≤szI b1∧szI b1≤1000:=by unfold szI; split<;>omega
 generalize szI a1=s1 at c1 k1 ⊢
 generalize szI b1=s2 at c2 k2 ⊢
 have m1:0≤a0*s2:=Int.mul_nonneg ha.1 k2.1
 have m2:0≤b0*s1:=Int.mul_nonneg hb.1 k1.1
 have m3:a0*s2≤1000*1000:=Int.mul_le_mul ha.2.1 k2.2 k2.1 (by omega)
 have m4:b0*s1≤1000*1000:=Int.mul_le_mul hb.2.1 k1.2 k1.1 (by omega)
 have e1:wrap64 (a0*s2)=a0*s2:=by unfold wrap64; omega
 have e2:wrap64 (b0*s1)=b0*s1:=by unfold wrap64; omega
 clear ha hb k1 k2 m1 m2 m3 m4
 have E1:=Aside0.mk e1
 have E2:=Aside0.mk e2
 clear e1 e2
 go_enter Tryd.func37,Tryd.ntmps37
 go_wp2
 go_quiet (first|(go_at_call 38; exact Calls.quiet_of (c1 _))|(go_at_call 38; exact Calls.quiet_of (c2 _)))
 go_wp2
 go_ret
 refine ⟨?_,?_⟩
 ·simp [E1.out,E2.out]
 ·exact fin2 w _ _ nq
end Go.Proofs.YtgfjidlckocflaaDoor.PAll
end
section
namespace Go.Proofs.YtgfjidlckocflaaDoor.PAll
set_option maxRecDepth 100000
open Go.RowKit Go.Proofs.YtgfjidlckocflaaDoorW.PrintWords Go.Proofs.YtgfjidlckocflaaDoorW.PrintLast Go.Proofs.YtgfjidlckocflaaDoorW.PrintMore
attribute [local go_sem] BM BK BV BU BD BC BL BJ
open Go.Shelf Go.Lib Go.Sort
open StSort (szI keyI KOk)
theorem kf {w w1:World} (a0 a1 a2 b0 b1 b2:Value) (t:Nat) (q:Nat) (os:Array Obj) (h:w1=grow (((w.alloc (.cells #[a0,a1,a2] t)).alloc (.cells #[b0,b1,b2] t)).drewN q) os):
  w1.cell? ⟨w.heap.size,0,none⟩=some a0∧w1.cell? ⟨w.heap.size,1,none⟩=some a1∧w1.cell? ⟨w.heap.size,2,none⟩=some a2∧w1.cell? ⟨w.heap.size+1,0,none⟩=some b0∧w1.cell? ⟨w.heap.size+1,1,none⟩=some b1∧w1.cell? ⟨w.heap.size+1,2,none⟩=some b2:=by
 subst h
 have s:((w.alloc (.cells #[a0,a1,a2] t)).alloc (.cells #[b0,b1,b2] t)).heap.size=w.heap.size+2:=by simp
 have e:∀a:Addr,a.block<w.heap.size+2→(grow (((w.alloc (.cells #[a0,a1,a2] t)).alloc (.cells #[b0,b1,b2] t)).drewN q) os).cell? a=((w.alloc (.cells #[a0,a1,a2] t)).alloc (.cells #[b0,b1,b2] t)).cell? a:=fun a h=>by
  rw [cell?_grow _ _ _ (by show a.block<_; rw [World.heap_drewN,s]; exact h),World.cell?_drewN]
 refine ⟨?_,?_,?_,?_,?_,?_⟩<;>(rw [e _ (by first|exact Nat.lt_succ_of_lt (Nat.lt_succ_self _)|exact Nat.lt_succ_self _)]; simp)
theorem kf2 {w w1:World} {o1 o2:Obj} (q:Nat) (os:Array Obj) (h:w1=grow (((w.alloc o1).alloc o2).drewN q) os):∃q os,w1=grow (w.drewN q) os:=by
 subst h
 exact ⟨q,#[o1]++ #[o2]++os,by rw [alloc_eq_grow,alloc_eq_grow,grow_grow]; show grow (grow (w.drewN q) _) os=_; rw [grow_grow]⟩
theorem kf3 {w w1 w2:World} (n q:Nat) (os:Array Obj) (h:∃q os,w1=grow (w.drewN q) os) (h2:w2=grow (w1.drewN q) os):∃q os,w2=grow (w.drewN q) os:=by
 obtain ⟨q1,o1,rfl⟩:=h
 subst h2
 exact ⟨q1+q,o1++os,by show grow (grow ((w.drewN q1).drewN q) o1) os=_; rw [grow_grow,World.drewN_drewN]⟩
set_option maxHeartbeats 8000000 in
theorem cmp_g (a0 a1 a2 b0 b1 b2:Int) (ha:KOk a0 a1) (hb:KOk b0 b1) (w:World):
    Calls Tryd.prog 45 #[.agg #[.int .i64 a0,.int .i64 a1,.int .i64 a2],.agg #[.int .i64 b0,.int .i64 b1,.int .i64 b2]] w fun e w'=>e= .returned (.int .i64 (if keyI a0 a1<keyI b0 b1 then -1 else if keyI b0 b1<keyI a0 a1 then 1 else 0))∧∃q os,w'=grow (w.drewN q) os:=by
  have hu33:=Tryd.underlying33
  have c1:=fun w=>Cd a0 a1 a2 b0 b1 b2 ⟨ha.h0,ha.h1,ha.v0,ha.v1⟩ ⟨hb.h0,hb.h1,hb.v0,hb.v1⟩ w
  have c2:=fun w=>Cd b0 b1 b2 a0 a1 a2 ⟨hb.h0,hb.h1,hb.v0,hb.v1⟩ ⟨ha.h0,ha.h1,ha.v0,ha.v1⟩ w
  simp only [StSort.key_iff ha hb] at c1
  simp only [StSort.key_iff hb ha] at c2
  clear ha hb
  generalize keyI a0 a1=x at c1 c2 ⊢
  generalize keyI b0 b1=y at c1 c2 ⊢
  by_cases h1:x<y
  · simp only [if_pos h1,decide_eq_true h1] at c1 ⊢
    clear h1 c2
    go_enter Tryd.func45,Tryd.ntmps45
    go_wp2_with (go_at_call 37; refine (c1 _).mono ?_; rintro e w1 ⟨rfl,q1,o1,hw⟩; have kk:=kf _ _ _ _ _ _ _ _ _ hw; have kz:=kf2 _ _ hw; have HW:=Aside0.mk kz; clear hw kz; obtain ⟨k1,k2,k3,k4,k5,k6⟩:=kk; clear c1)
    go_ret
    exact ⟨rfl,HW.out⟩
  · by_cases h2:y<x
    · simp only [if_neg h1,if_pos h2,decide_eq_false h1,decide_eq_true h2] at c1 c2 ⊢
      clear h1 h2
      go_enter Tryd.func45,Tryd.ntmps45
      go_wp2_with (first|(go_at_call 37; refine (c1 _).mono ?_; rintro e w1 ⟨rfl,q1,o1,hw⟩; have kk:=kf _ _ _ _ _ _ _ _ _ hw; have kz:=kf2 _ _ hw; have HW:=Aside0.mk kz; clear hw kz; obtain ⟨k1,k2,k3,k4,k5,k6⟩:=kk; clear c1)|(go_at_call 37; refine (c2 _).mono ?_; rintro e w2 ⟨rfl,q2,o2,hw⟩; have kz:=kf3 0 _ _ HW.out hw; clear HW hw; have HW:=Aside0.mk kz; clear kz))
      go_ret
      exact ⟨rfl,HW.out⟩
    · simp only [if_neg h1,if_neg h2,decide_eq_false h1,decide_eq_false h2] at c1 c2 ⊢
      clear h1 h2
      go_enter Tryd.func45,Tryd.ntmps45
      go_wp2_with (first|(go_at_call 37; refine (c1 _).mono ?_; rintro e w1 ⟨rfl,q1,o1,hw⟩; have kk:=kf _ _ _ _ _ _ _ _ _ hw; have kz:=kf2 _ _ hw; have HW:=Aside0.mk kz; clear hw kz; obtain ⟨k1,k2,k3,k4,k5,k6⟩:=kk; clear c1)|(go_at_call 37; refine (c2 _).mono ?_; rintro e w2 ⟨rfl,q2,o2,hw⟩; have kz:=kf3 0 _ _ HW.out hw; clear HW hw; have HW:=Aside0.mk kz; clear kz))
      go_ret
      exact ⟨rfl,HW.out⟩
end Go.Proofs.YtgfjidlckocflaaDoor.PAll
end
