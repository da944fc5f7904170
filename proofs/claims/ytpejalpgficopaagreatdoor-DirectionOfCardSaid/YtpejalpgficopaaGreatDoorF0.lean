/- A part of what the law's proof leans on. PACKED BY pack.py of this repo. -/
import Derived.Test.YtpejalpgficopaaGreatDoorProg
import Derived.Orders
import Derived.LoopN
import Derived.Below
import Derived.Laws.Entries
import Derived.WalkKit
import Derived.Laws.StructEq
import Derived.ChangeKeysEq
import Derived.Laws.Slices
import Derived.Laws.Tables
import Derived.Lib.Strings
import Derived.Laws.BytesString
import Derived.KernelRfl
import Derived.Deep.Draws
import Derived.Deep.AppendLies
import Derived.Maps.AppendAt
import Derived.OwnWalk
import Derived.Laws.BytesArg
import Derived.Laws.MakeOwn
import Derived.Laws.OwnMore
import Derived.Deep.OwnRows
import Derived.Tactics
import Derived.Lib.ConvBytes
import Derived.RowKit3
import Derived.Deep.LoopGhost
import Derived.Deep.QuietTactic
import Derived.BigQuiet
import Derived.WideLaws
import Derived.Deep.DeepCutAuto
import Derived.Deep.CutBlock
import Derived.Deep.RegionHeld3
import Derived.Laws.Rows
import Derived.Lib.AppendStr
import Derived.ArgAppend
import Derived.Laws.IdiomCopy
import Derived.OrdersHeld
import Derived.Laws.BitsLemmas
import Derived.RowKit
import Derived.Shelf.Abstract
import Derived.Lib.SliceRun
import Derived.Test.YtpejalpgficopaaGreatDoorLy
import Derived.Lib.OwnBridge
import Derived.Lib.AppendIntMem
import Derived.Lib.ItoaNum
import Derived.ProofKit
import Derived.OpenShut
import Derived.ShutString
import Derived.ChangeOld
import Derived.SizedLaws
import Derived.RangeFuncNested
import Derived.RangeFuncBound
import Derived.RangeFuncCalls
import Derived.RangeFuncLeaves
import Derived.Shelf.RegionOpen
import Derived.Lib.Hide
import Derived.OwnWalkIn
import Derived.TacticsInMore
import Derived.LoopNIn
import Derived.LoopIn
import Derived.LaidMore
import Derived.Stop.Joined
import Derived.Lib.LaidTab
import Derived.Stop.LaidErr
import Derived.Lay
import Derived.SevenTiedAt
set_option linter.unusedVariables false
set_option linter.unusedSimpArgs false
set_option linter.unusedSectionVars false
set_option linter.defProp false
set_option maxRecDepth 100000
open Go.IntKind (i64 u64 u32)
def zS := @Option.some.injEq
def zP := @Prod.mk.injEq
def zB := @Bool.and_eq_true
def zE := @Nat.eq_of_beq_eq_true
def zL := @Nat.le_of_ble_eq_true
def zD := @decide_eq_true_eq
def zN := @Bool.not_true
namespace Go.Proofs
abbrev TF5 (t:Type):=Bool→ByteArray→Bool→ByteArray→Bool→ByteArray→Bool→ByteArray→Bool→ByteArray→t
abbrev TF10 (t:Type):=Bool→ByteArray→Bool→ByteArray→Bool→ByteArray→Bool→ByteArray→Bool→ByteArray→Bool→ByteArray→Bool→ByteArray→Bool→ByteArray→Bool→ByteArray→Bool→ByteArray→t
abbrev TY5:=Bool×ByteArray×Bool×ByteArray×Bool×ByteArray×Bool×ByteArray×Bool×ByteArray
end Go.Proofs
section
namespace RX
open Go
def TB:List (Nat×List Value):=[(0,[.int .u64 1,.int .u64 10,.int .u64 100,.int .u64 1000,.int .u64 10000,.int .u64 100000,.int .u64 1000000,.int .u64 10000000,.int .u64 100000000,.int .u64 1000000000,.int .u64 10000000000,.int .u64 100000000000,.int .u64 1000000000000,.int .u64 10000000000000,.int .u64 100000000000000,.int .u64 1000000000000000,.int .u64 10000000000000000,.int .u64 100000000000000000,.int .u64 1000000000000000000,.int .u64 10000000000000000000])]
def IS:Bool:=true
end RX
end
section
namespace RX
open Go Go.RowKit
def fN {R:Type} (n:Nat) (k:Nat→R):R:=
 match n with
 |0=>k 0
 |m+1=>k (m+1)
theorem GD {R:Type} (n:Nat) (k:Nat→R):fN n k=k n:=by cases n<;>rfl
mutual
def ren (g:Nat→Nat):Value→Value
 | .bool b=> .bool b
 | .int k n=> .int k n
 | .float k b=> .float k b
 | .complex k a b=> .complex k a b
 | .string s=> .string s
 | .pointer none=> .pointer none
 | .pointer (some ⟨b,o,none⟩)=> .pointer (some ⟨g b,o,none⟩)
 | .pointer (some ⟨b,o,some _⟩)=> .pointer (some ⟨b,o,none⟩)
 | .slice none l c=> .slice none l c
 | .slice (some ⟨b,o,none⟩) l c=> .slice (some ⟨g b,o,none⟩) l c
 | .slice (some ⟨b,o,some _⟩) l c=> .slice (some ⟨b,o,none⟩) l c
 | .map r=> .map (r.map g)
 | .chan r=> .chan (r.map g)
 | .func fn ⟨f⟩ ⟨c⟩=> .func fn ⟨renL g f⟩ ⟨renL g c⟩
 | .nilFunc=> .nilFunc
 | .iface t v=> .iface t (ren g v)
 | .nilIface=> .nilIface
 | .agg ⟨cs⟩=> .agg ⟨renL g cs⟩
 | .tuple ⟨cs⟩=> .tuple ⟨renL g cs⟩
def renL (g:Nat→Nat):List Value→List Value
 |[]=>[]
 |v::r=>ren g v::renL g r
end
theorem FR (g:Nat→Nat):∀l,renL g l=l.map (ren g)
 |[]=>by simp [renL]
 |v::r=>by simp [renL,FR g r]
@[simp] theorem renL_nil (g:Nat→Nat):renL g []=[]:=by simp [renL]
@[simp] theorem ren_bool (g:Nat→Nat) (b:Bool):ren g (.bool b)= .bool b:=by simp [ren]
@[simp] theorem Ix (g:Nat→Nat) (k:IntKind) (n:Int):ren g (.int k n)= .int k n:=by simp [ren]
@[simp] theorem ren_string (g:Nat→Nat) (s:ByteArray):ren g (.string s)= .string s:=by simp [ren]
@[simp] theorem Iv (g:Nat→Nat) (b o:Nat):ren g (.pointer (some ⟨b,o,none⟩))= .pointer (some ⟨g b,o,none⟩):=by simp [ren]
@[simp] theorem ren_gptr (g:Nat→Nat) (b o s:Nat):ren g (.pointer (some ⟨b,o,some s⟩))= .pointer (some ⟨b,o,none⟩):=by simp [ren]
@[simp] theorem Ko (g:Nat→Nat):ren g (.pointer none)= .pointer none:=by simp [ren]
@[simp] theorem Fk (g:Nat→Nat) (b o l c:Nat):ren g (.slice (some ⟨b,o,none⟩) l c)= .slice (some ⟨g b,o,none⟩) l c:=by simp [ren]
@[simp] theorem ren_gslice (g:Nat→Nat) (b o s l c:Nat):ren g (.slice (some ⟨b,o,some s⟩) l c)= .slice (some ⟨b,o,none⟩) l c:=by simp [ren]
@[simp] theorem HD (g:Nat→Nat) (l c:Nat):ren g (.slice none l c)= .slice none l c:=by simp [ren]
@[simp] theorem ren_agg (g:Nat→Nat) (cs:List Value):ren g (.agg ⟨cs⟩)= .agg ⟨cs.map (ren g)⟩:=by simp [ren,FR]
@[simp] theorem FU (g:Nat→Nat) (cs:List Value):ren g (.tuple ⟨cs⟩)= .tuple ⟨cs.map (ren g)⟩:=by simp [ren,FR]
@[simp] theorem Ff (g:Nat→Nat) (fn:Fn) (f c:List Value):ren g (.func fn ⟨f⟩ ⟨c⟩)= .func fn ⟨f.map (ren g)⟩ ⟨c.map (ren g)⟩:=by simp [ren,FR]
@[simp] theorem Jy (g:Nat→Nat):ren g .nilFunc= .nilFunc:=by simp [ren]
@[simp] theorem Iw (g:Nat→Nat):ren g .nilIface= .nilIface:=by simp [ren]
@[simp] theorem GK (g:Nat→Nat) (t:TypeId) (v:Value):ren g (.iface t v)= .iface t (ren g v):=by simp [ren]
@[simp] theorem Pb (g:Nat→Nat):ren g undef=undef:=by
 show ren g (.tuple ⟨[]⟩)=_
 rw [FU]; rfl
def Bnd (b:Nat) (v:Value):Prop:=∀g g':Nat→Nat,(∀n,n<b→g n=g' n)→ren g v=ren g' v
def Clo (v:Value):Prop:=∀g:Nat→Nat,ren g v=v
theorem Clo.bnd {v:Value} (h:Clo v) (b:Nat):Bnd b v:=fun g g' _=>(h g).trans (h g').symm
theorem Bnd.mono {b b':Nat} {v:Value} (h:Bnd b v) (hb:b≤b'):Bnd b' v:=fun g g' e=>h g g' fun n hn=>e n (Nat.lt_of_lt_of_le hn hb)
theorem Bnd.agg {b:Nat} {l:List Value} (h:∀v∈l,Bnd b v):Bnd b (.agg ⟨l⟩):=fun g g' e=>by
 simp only [ren_agg]
 congr 2
 exact List.map_congr_left fun v hv=>h v hv g g' e
theorem Bnd.tuple {b:Nat} {l:List Value} (h:∀v∈l,Bnd b v):Bnd b (.tuple ⟨l⟩):=fun g g' e=>by
 simp only [FU]
 congr 2
 exact List.map_congr_left fun v hv=>h v hv g g' e
theorem Fb {l:List Value} {f g:Value→Value} (h:l.map f=l.map g):∀v∈l,f v=g v:=by
 induction l with
 |nil=>intro v hv; cases hv
 | cons x r ih=>
  simp only [List.map_cons,List.cons.injEq] at h
  intro v hv
  cases hv with
  |head=>exact h.1
  |tail _ hm=>exact ih h.2 v hm
theorem Bnd.of_agg {b:Nat} {l:List Value} (h:Bnd b (.agg ⟨l⟩)):∀v∈l,Bnd b v:=fun v hv g g' e=>by
 have:=h g g' e
 simp only [ren_agg,Value.agg.injEq,Array.mk.injEq] at this
 exact Fb this v hv
theorem Bnd.of_tuple {b:Nat} {l:List Value} (h:Bnd b (.tuple ⟨l⟩)):∀v∈l,Bnd b v:=fun v hv g g' e=>by
 have:=h g g' e
 simp only [FU,Value.tuple.injEq,Array.mk.injEq] at this
 exact Fb this v hv
theorem Bnd.of_func {b:Nat} {fn:Fn} {l c:List Value} (h:Bnd b (.func fn ⟨l⟩ ⟨c⟩)):(∀v∈l,Bnd b v)∧(∀v∈c,Bnd b v):=by
 constructor
 ·intro v hv g g' e
  have:=h g g' e
  simp only [Ff,Value.func.injEq,Array.mk.injEq,true_and] at this
  exact Fb this.1 v hv
 ·intro v hv g g' e
  have:=h g g' e
  simp only [Ff,Value.func.injEq,Array.mk.injEq,true_and] at this
  exact Fb this.2 v hv
theorem Bnd.func {b:Nat} {fn:Fn} {l c:List Value} (h:∀v∈l,Bnd b v) (h':∀v∈c,Bnd b v):Bnd b (.func fn ⟨l⟩ ⟨c⟩):=fun g g' e=>by
 simp only [Ff]
 congr 2
 ·exact List.map_congr_left fun v hv=>h v hv g g' e
 ·exact List.map_congr_left fun v hv=>h' v hv g g' e
theorem Clo.undef:Clo undef:=fun g=>Pb g
def clo:Nat→Value→Bool
 |0,_=>false
 | n+1,v=>
  match v with
  | .bool _| .int _ _| .float _ _| .complex _ _ _| .string _| .nilFunc| .nilIface=>true
  | .pointer none=>true
  | .slice none _ _=>true
  | .agg ⟨cs⟩=>cs.all (clo n)
  | .tuple ⟨cs⟩=>cs.all (clo n)
  | .func _ ⟨f⟩ ⟨c⟩=>f.all (clo n)&&c.all (clo n)
  | .iface _ v=>clo n v
  |_=>false
theorem clo_spec:∀(n:Nat) (v:Value),clo n v=true→Clo v:=by
 intro n
 induction n with
 |zero=>intro v h; simp [clo] at h
 | succ n ih=>
  have hl:∀l:List Value,l.all (clo n)=true→∀g:Nat→Nat,l.map (ren g)=l:=fun l h g=>by
   rw [List.all_eq_true] at h
   calc l.map (ren g)=l.map id:=List.map_congr_left fun v hv=>ih v (h v hv) g
    _=l:=by simp
  intro v h g
  unfold clo at h
  split at h
  any_goals simp [ren]
  any_goals rw [FR]
  any_goals rw [FR]
  ·exact congrArg (fun l=>l) (hl _ h g)
  ·exact hl _ h g
  ·simp only [zB] at h; exact ⟨hl _ h.1 g,hl _ h.2 g⟩
  ·exact ih _ h g
  ·simp at h
inductive Blk where
 |cs (l:List Value) (t:TypeId)
 |is (k:IntKind) (xs:List Int) (t:TypeId)
def Blk.cells:Blk→List Value
 | .cs l _=>l
 | .is k xs _=>xs.map (Value.int k)
def Blk.ty:Blk→TypeId
 | .cs _ t=>t
 | .is _ _ t=>t
abbrev Heap:=List (Nat×Blk)
structure St where
 tmps:List Value
 heap:Heap
 nxt:Nat
def look {α:Type} :List (Nat×α)→Nat→Option α
 |[],_=>none
 |(n,a)::r,m=>bif Nat.beq n m then some a else look r m
def upd {α:Type} :List (Nat×α)→Nat→α→List (Nat×α)
 |[],m,b=>[(m,b)]
 |(n,a)::r,m,b=>bif Nat.beq n m then (n,b)::r else (n,a)::upd r m b
theorem LP {n m:Nat} (h:n≠m):Nat.beq n m=false:=by
 cases hb:Nat.beq n m
 ·rfl
 ·exact absurd (zE hb) h
theorem Em {α:Type} (l:List (Nat×α)) (m:Nat) (b:α) (k:Nat):look (upd l m b) k=if k=m then some b else look l k:=by
 induction l with
 | nil=>
  simp only [upd,look]
  by_cases h:k=m
  ·subst h; simp
  ·have:Nat.beq m k=false:=LP fun e=>h e.symm
   simp [h,this]
 | cons x r ih=>
  obtain ⟨n,a⟩:=x
  simp only [upd]
  by_cases h:n=m
  ·subst h
   simp only [Nat.beq_refl,cond_true,look]
   by_cases hk:k=n
   ·subst hk; simp
   ·have:Nat.beq n k=false:=LP fun e=>hk e.symm
    simp [hk,this]
  ·have hb:Nat.beq n m=false:=LP h
   simp only [hb,cond_false,look]
   by_cases hk:n=k
   ·subst hk; simp [h]
   ·have:Nat.beq n k=false:=LP hk
    simp [this,ih]
def nth:List Value→Nat→Value
 |[],_=>undef
 |v::_,0=>v
 |_::r,n+1=>nth r n
def setn:List Value→Nat→Value→List Value
 |[],_,_=>[]
 |_::r,0,x=>x::r
 |v::r,n+1,x=>v::setn r n x
theorem FI:∀(l:List Value) (n:Nat),nth l n=l.getD n undef
 |[],n=>by simp [nth]
 |v::r,0=>by simp [nth]
 |v::r,n+1=>by simp [nth,FI r n]
theorem FQ:∀(l:List Value) (n:Nat) (x:Value),setn l n x=l.set n x
 |[],n,x=>by simp [setn]
 |v::r,0,x=>by simp [setn]
 |v::r,n+1,x=>by simp [setn,FQ r n x]
theorem Ia (l:List Value) (n:Nat):nth l n∈l∨nth l n=undef:=by
 rw [FI,List.getD_eq_getElem?_getD]
 cases h:l[n]? with
 |none=>exact .inr rfl
 |some v=>exact .inl (by simpa using List.mem_of_getElem? h)
def putT (T:List Value) (d:Option Nat) (v:Value):List Value:=
 match d with
 |some n=>setn T n v
 |none=>T
def ev (T:List Value):Operand→Value
 | .tmp n=>nth T n
 | .const v=>bif clo 8 v then v else undef
 | .func f=> .func (.func f) ⟨[]⟩ ⟨[]⟩
 | .global n=> .pointer (some ⟨n,0,some 0⟩)
def GONE:Value:= .tuple ⟨[.nilFunc,.nilFunc]⟩
def EX:Value→Bool
 | .tuple ⟨[.nilFunc,.nilFunc]⟩=>true
 |_=>false
def evOk (T:List Value):Operand→Bool
 | .tmp n=> !EX (nth T n)
 | .const v=>clo 8 v
 | .func _=>true
 | .global _=>true
theorem LH {T T':List Value} {x:Operand} (h:ev T' x=ev T x):evOk T' x=evOk T x:=by
 cases x with
 |tmp n=>simp only [evOk]; rw [show nth T' n=nth T n from h]
 |_=>rfl
theorem LI {T T':List Value} {l:List Operand} (h:∀x∈l,ev T' x=ev T x):l.all (evOk T')=l.all (evOk T):=by
 induction l with
 |nil=>rfl
 |cons x r ih=>simp only [List.all_cons]; rw [LH (h x (by simp)),ih (fun y hy=>h y (by simp [hy]))]
def TabObj (o:Obj) (l:List Value):Prop:=∃(C:List Value) (ty:TypeId) (fr:Nat×Nat),o= .cells ⟨C⟩ ty fr∧(∀(i:Nat) (v:Value),l[i]? =some v→C[i]? =some v)∧C.length=l.length
def TabOk (w:World):Prop:=∀x∈TB,∃o,w.heap[x.1]? =some o∧TabObj o x.2
theorem TabOk.of {w w':World} (h:TabOk w) (e:∀x∈TB,w'.heap[x.1]? =w.heap[x.1]?):TabOk w':=fun x hx=>by rw [e x hx]; exact h x hx
structure Keep (W0:World) (out:Nat→Prop) (w:World):Prop where
 os:w.os=W0.os
 tape:w.tape=W0.tape
 output:w.output=W0.output
 size:W0.heap.size≤w.heap.size
 block:∀k,k<W0.heap.size→¬out k→w.heap[k]? =W0.heap[k]?
theorem Keep.refl (W:World) (out:Nat→Prop):Keep W out W:=⟨rfl,rfl,rfl,Nat.le_refl _,fun _ _ _=>rfl⟩
theorem Keep.trans {W V w:World} {o p:Nat→Prop} (h:Keep W o V) (k:Keep V p w) (hp:∀b,b<W.heap.size→p b→o b):Keep W o w:=
 ⟨k.os.trans h.os,k.tape.trans h.tape,k.output.trans h.output,Nat.le_trans h.size k.size,
  fun b hb hn=>(k.block b (Nat.lt_of_lt_of_le hb h.size) (fun x=>hn (hp b hb x))).trans (h.block b hb hn)⟩
structure HRel (W0:World) (out:Nat→Prop) (g:Nat→Nat) (H:Heap) (nx:Nat) (w:World):Prop where
 dom:∀n b,look H n=some b→n<nx
 bnd:∀n b,look H n=some b→∀v∈b.cells,Bnd nx v
 mem:∀n b,look H n=some b→w.heap[g n]? =some (.cells ⟨b.cells.map (ren g)⟩ b.ty (0,0))
 inj:∀n m b c,look H n=some b→look H m=some c→g n=g m→n=m
 own:∀n b,look H n=some b→W0.heap.size≤g n∨out (g n)
 keep:Keep W0 out w
 tabs:TabOk w
 ntab:∀n b,look H n=some b→∀x∈TB,g n≠x.1
structure TRel (g:Nat→Nat) (T:List Value) (nx:Nat) (a:Act):Prop where
 sz:a.tmps.size=T.length
 tm:∀i,EX (nth T i)=false→a.tmps.getD i undef=ren g (nth T i)
 df:a.defers=[]
 tb:∀v∈T,Bnd nx v
theorem R3 (g:Nat→Nat) (T:List Value) (n:Nat):(⟨T.map (ren g)⟩:Array Value).getD n undef=ren g (RX.nth T n):=by
 rw [FI]
 simp only [Array.getD_eq_getD_getElem?,List.getElem?_toArray,List.getElem?_map,List.getD_eq_getElem?_getD]
 cases T[n]? <;>simp
theorem TRel.of {g:Nat→Nat} {T:List Value} {nx:Nat} {a:Act} (h:a.tmps=⟨T.map (ren g)⟩) (hd:a.defers=[]) (hb:∀v∈T,Bnd nx v):TRel g T nx a:=
 ⟨by rw [h]; simp,fun i _=>by rw [h,R3],hd,hb⟩
theorem TRel.nth {g:Nat→Nat} {T:List Value} {nx:Nat} {a:Act} (h:TRel g T nx a) (n:Nat) (hl:EX (RX.nth T n)=false):a.tmps.getD n undef=ren g (RX.nth T n):=h.tm n hl
theorem TRel.eval {g:Nat→Nat} {T:List Value} {nx:Nat} {a:Act} (h:TRel g T nx a) {x:Operand} (hx:evOk T x=true):a.eval x=ren g (ev T x):=by
 cases x with
 |tmp n=>exact h.nth n (by simpa [evOk] using hx)
 | const v=>
  simp only [evOk] at hx
  simp [Act.eval,ev,hx,(clo_spec 8 v hx) g]
 |global n=>simp [Act.eval,ev]
 |func f=>simp [Act.eval,ev]
theorem TRel.bndEv {g:Nat→Nat} {T:List Value} {nx:Nat} {a:Act} (h:TRel g T nx a) (x:Operand):Bnd nx (ev T x):=by
 cases x with
 | tmp n=>
  rcases Ia T n with hm|hu
  ·exact h.tb _ hm
  ·simp only [ev,hu]; exact Clo.undef.bnd _
 | const v=>
  simp only [ev]
  cases hc:clo 8 v
  ·exact Clo.undef.bnd _
  ·exact (clo_spec 8 v hc).bnd _
 |global n=>exact fun g g' _=>by simp [ev]
 |func f=>exact fun g g' _=>by simp [ev]
theorem Pk {T:List Value} {i j:Nat} {v:Value} :nth (setn T i v) j=if i=j∧i<T.length then v else nth T j:=by
 rw [FQ,FI,FI,List.getD_eq_getElem?_getD,List.getD_eq_getElem?_getD,List.getElem?_set]
 by_cases h:i=j
 ·subst h
  by_cases h2:i<T.length
  ·simp [h2]
  ·simp [h2]
 ·simp [h]
theorem TRel.put {g:Nat→Nat} {T:List Value} {nx:Nat} {a:Act} (h:TRel g T nx a) (d:Option Nat) {v:Value} {u:Value} (hb:Bnd nx v) (hu:u=ren g v):TRel g (putT T d v) nx (a.put d u):=by
 subst hu
 cases d with
 |none=>exact h
 | some n=>
  refine ⟨?_,?_,h.df,?_⟩
  ·simp only [Act.put,putT,FQ,Array.size_setIfInBounds,List.length_set,h.sz]
  ·intro i hi
   show (a.tmps.setIfInBounds n (ren g v)).getD i undef=ren g (RX.nth (setn T n v) i)
   have hi':EX (RX.nth (setn T n v) i)=false:=hi
   rw [Pk] at hi' ⊢
   by_cases hc:n=i∧n<T.length
   ·rw [if_pos hc]
    obtain ⟨rfl,hlt⟩:=hc
    simp [Array.getD_eq_getD_getElem?,h.sz,hlt]
   ·rw [if_neg hc] at hi' ⊢
    rw [←h.tm i hi']
    simp only [Array.getD_eq_getD_getElem?,Array.getElem?_setIfInBounds]
    by_cases hni:n=i
    ·subst hni
     have:¬n<T.length:=fun hh=>hc ⟨rfl,hh⟩
     simp [h.sz,this]
    ·simp [hni]
  ·intro x hx
   simp only [putT,FQ] at hx
   rcases List.mem_or_eq_of_mem_set hx with hx|rfl
   ·exact h.tb x hx
   ·exact hb
theorem TRel.mono {g:Nat→Nat} {T:List Value} {nx nx':Nat} {a:Act} (h:TRel g T nx a) (hn:nx≤nx'):TRel g T nx' a:=⟨h.sz,h.tm,h.df,fun v hv=>(h.tb v hv).mono hn⟩
theorem P8 {p:Value→Prop} {T:List Value} (h:∀v∈T,p v) (hu:p undef) (i:Nat):p (nth T i):=by
 rcases Ia T i with hm|he
 ·exact h _ hm
 ·rw [he]; exact hu
theorem TRel.reg {g g':Nat→Nat} {T:List Value} {nx:Nat} {a:Act} (h:TRel g T nx a) (e:∀v∈T,ren g v=ren g' v):TRel g' T nx a:=
 ⟨h.sz,fun i hi=>by rw [h.tm i hi]; exact P8 (p:=fun v=>ren g v=ren g' v) e (by simp) i,h.df,h.tb⟩
theorem TRel.agree {g g':Nat→Nat} {T:List Value} {nx:Nat} {a:Act} (h:TRel g T nx a) (e:∀n,n<nx→g n=g' n):TRel g' T nx a:=
 h.reg fun v hv=>h.tb v hv g g' e
theorem HRel.mono {W0:World} {out:Nat→Prop} {g:Nat→Nat} {H:Heap} {nx nx':Nat} {w:World} (h:HRel W0 out g H nx w) (hn:nx≤nx'):HRel W0 out g H nx' w:=
 ⟨fun n b hb=>Nat.lt_of_lt_of_le (h.dom n b hb) hn,fun n b hb v hv=>(h.bnd n b hb v hv).mono hn,h.mem,h.inj,h.own,h.keep,h.tabs,h.ntab⟩
structure Rec where
 v:Value
 rs:List Nat
 ws:List (Nat×Blk)
def tAgg (P:Program) (t:TypeId):Option Bool:=
 match P.underlying t with
 |some (.struct _)=>some true
 |some (.array _ _)=>some true
 |some _=>some false
 |none=>none
def G8 (P:Program) (t:TypeId):Option Nat:=(P.info? t).map (·.size)
def Kf (P:Program) (t:TypeId):Option Value:=(P.info? t).bind (·.zero)
def E0:Value→List Value
 | .agg ⟨l⟩=>l
 |v=>[v]
theorem GV (v:Value):v.cells=⟨E0 v⟩:=by
 cases v<;>simp [Value.cells,E0]
theorem JV (g:Nat→Nat) (v:Value):(ren g v).cells=⟨(E0 v).map (ren g)⟩:=by
 cases v with
 |agg cs=>obtain ⟨l⟩:=cs; simp [E0,Value.cells]
 |pointer a=>rcases a with _|⟨b',o',_|s'⟩<;>simp [E0,Value.cells]
 |slice a l c=>rcases a with _|⟨b',o',_|s'⟩<;>simp [E0,Value.cells]
 |func fn f c=>obtain ⟨f⟩:=f; obtain ⟨c⟩:=c; simp [E0,Value.cells]
 |tuple cs=>obtain ⟨l⟩:=cs; simp [E0,Value.cells]
 |_=>simp [E0,Value.cells,ren]
theorem Bnd.cells {b:Nat} {v:Value} (h:Bnd b v):∀c∈E0 v,Bnd b c:=by
 cases v with
 |agg cs=>obtain ⟨l⟩:=cs; exact h.of_agg
 |_=>intro c hc; simp only [E0,List.mem_singleton] at hc; subst hc; exact h
def HO:Value→Bool
 | .agg _=>false
 | .tuple _=>false
 |_=>true
theorem LO (g:Nat→Nat) (v:Value) (h:HO v=true):(∀x,ren g v≠ .agg x)∧(∀x,ren g v≠ .tuple x):=by
 cases v with
 |agg cs=>simp [HO] at h
 |tuple cs=>simp [HO] at h
 |pointer a=>rcases a with _|⟨b',o',_|s'⟩<;>simp
 |slice a l c=>rcases a with _|⟨b',o',_|s'⟩<;>simp
 |func fn f c=>obtain ⟨f⟩:=f; obtain ⟨c⟩:=c; simp
 |_=>simp [ren]
def FX:Nat→Nat→List Value→Option (List Value)
 |0,0,_=>some []
 |0,n+1,v::r=>(FX 0 n r).map (v:: ·)
 |0,_+1,[]=>none
 |o+1,n,_::r=>FX o n r
 |_+1,_,[]=>none
def putN:Nat→List Value→List Value→Option (List Value)
 |0,[],r=>some r
 |0,x::xs,_::r=>(putN 0 xs r).map (x:: ·)
 |0,_::_,[]=>none
 |o+1,xs,v::r=>(putN o xs r).map (v:: ·)
 |_+1,_,[]=>none
theorem FO:∀(o n:Nat) (l r:List Value),FX o n l=some r→r=(l.drop o).take n∧o+n≤l.length
 |0,0,l,r,h=>by simp [FX] at h; simp [h]
 | 0,n+1,v::l,r,h=>by
  simp only [FX,Option.map_eq_some_iff] at h
  obtain ⟨r',h',rfl⟩:=h
  obtain ⟨h1,h2⟩:=FO 0 n l r' h'
  simp only [List.drop_zero,List.length_cons] at*
  exact ⟨by rw [List.take_succ_cons,←h1],by omega⟩
 |0,n+1,[],r,h=>by simp [FX] at h
 | o+1,n,v::l,r,h=>by
  simp only [FX] at h
  obtain ⟨h1,h2⟩:=FO o n l r h
  simp only [List.drop_succ_cons,List.length_cons]
  exact ⟨h1,by omega⟩
 |o+1,n,[],r,h=>by simp [FX] at h
theorem Kt:∀(o:Nat) (l r:List Value),putN o [] l=some r→r=l
 |0,l,r,h=>by simp [putN] at h; exact h.symm
 | o+1,v::l,r,h=>by
  simp only [putN,Option.map_eq_some_iff] at h
  obtain ⟨r',h',rfl⟩:=h
  rw [Kt o l r' h']
 |o+1,[],r,h=>by simp [putN] at h
theorem JY:∀(o:Nat) (x:Value) (xs l r:List Value),putN o (x::xs) l=some r→o<l.length∧putN (o+1) xs (l.set o x)=some r
 | 0,x,xs,v::l,r,h=>by
  simp only [putN] at h
  exact ⟨by simp,by simpa [putN] using h⟩
 |0,x,xs,[],r,h=>by simp [putN] at h
 | o+1,x,xs,v::l,r,h=>by
  simp only [putN,Option.map_eq_some_iff] at h
  obtain ⟨r',h',rfl⟩:=h
  obtain ⟨h1,h2⟩:=JY o x xs l r' h'
  exact ⟨by simpa using h1,by simp [putN,h2]⟩
 |o+1,x,xs,[],r,h=>by simp [putN] at h
theorem He:∀(o:Nat) (xs l r:List Value),putN o xs l=some r→∀v∈r,v∈xs∨v∈l
 |0,[],l,r,h=>by simp [putN] at h; subst h; exact fun v hv=> .inr hv
 | 0,x::xs,y::l,r,h=>by
  simp only [putN,Option.map_eq_some_iff] at h
  obtain ⟨r',h',rfl⟩:=h
  intro v hv
  cases hv with
  |head=>exact .inl (by simp)
  |tail _ hm=>rcases He 0 xs l r' h' v hm with h|h<;>simp [h]
 |0,x::xs,[],r,h=>by simp [putN] at h
 | o+1,xs,y::l,r,h=>by
  simp only [putN,Option.map_eq_some_iff] at h
  obtain ⟨r',h',rfl⟩:=h
  intro v hv
  cases hv with
  |head=>exact .inr (by simp)
  |tail _ hm=>rcases He o xs l r' h' v hm with h|h<;>simp [h]
 |o+1,xs,[],r,h=>by simp [putN] at h
theorem Hf (f:Value→Value):∀(o:Nat) (xs l r:List Value),putN o xs l=some r→putN o (xs.map f) (l.map f)=some (r.map f)
 |0,[],l,r,h=>by simp [putN] at h; subst h; simp [putN]
 | 0,x::xs,y::l,r,h=>by
  simp only [putN,Option.map_eq_some_iff] at h
  obtain ⟨r',h',rfl⟩:=h
  simp [putN,Hf f 0 xs l r' h']
 |0,x::xs,[],r,h=>by simp [putN] at h
 | o+1,xs,y::l,r,h=>by
  simp only [putN,Option.map_eq_some_iff] at h
  obtain ⟨r',h',rfl⟩:=h
  simp [putN,Hf f o xs l r' h']
 |o+1,xs,[],r,h=>by simp [putN] at h
def Fr (nm:Nat) (v:Value):Prop:=∀g g':Nat→Nat,(∀n,n<nm∨nm+16≤n→g n=g' n)→ren g v=ren g' v
theorem Bnd.fr {nm:Nat} {v:Value} (h:Bnd nm v):Fr nm v:=fun g g' e=>h g g' fun n hn=>e n (.inl hn)
structure Fresh (nm:Nat) (T:List Value) (H:Heap):Prop where
 t:∀v∈T,Fr nm v
 h:∀n b,look H n=some b→(n<nm∨nm+16≤n)∧∀v∈b.cells,Fr nm v
def app (ws:List (Nat×Blk)) (H:Heap):Heap:=ws.foldl (fun H x=>upd H x.1 x.2) H
structure Goes (P:Program) (o:Oper) (nm nx:Nat) (T:List Value) (H:Heap) (r:Rec):Prop where
 go:∀(W0:World) (out:Nat→Prop) (g:Nat→Nat) (a:Act) (w:World) (next:Act→World→Prop) (Q:Exit→Act→World→Prop),
  TRel g T nx a→HRel W0 out g H nx w→Fresh nm T H→
  (∀(g':Nat→Nat) (w':World),(∀n,n<nm∨nm+16≤n→g n=g' n)→TRel g' T nx a→HRel W0 out g' (app r.ws H) nx w'→Bnd nx r.v→next (a.put o.dst (ren g' r.v)) w')→
  o.wp P a w next Q
theorem Ht {P:Program} {o:Oper} {a:Act} {w w':World} {u:Value} {next:Act→World→Prop} {Q:Exit→Act→World→Prop}
  (h:(execOp a.eval o).run P w= .ok (.value u) w') (k:next (a.put o.dst u) w'):o.wp P a w next Q:=by
 unfold Oper.wp
 rw [h]
 exact k
theorem HX {P:Program} {o:Oper} {a:Act} {w w':World} {next:Act→World→Prop} {Q:Exit→Act→World→Prop}
  (h:(execOp a.eval o).run P w= .ok .skip w') (k:next (a.put o.dst undef) w'):o.wp P a w next Q:=by
 unfold Oper.wp
 rw [h]
 exact k
theorem Goes.pure {P:Program} {o:Oper} {nm nx:Nat} {T:List Value} {H:Heap} {v:Value} {rs:List Nat}
  (h:∀(W0:World) (out:Nat→Prop) (g:Nat→Nat) (a:Act) (w:World),TRel g T nx a→HRel W0 out g H nx w→Bnd nx v∧(execOp a.eval o).run P w= .ok (.value (ren g v)) w):
  Goes P o nm nx T H ⟨v,rs,[]⟩:=by
 refine ⟨fun W0 out g a w next Q tr hr _ k=> ?_⟩
 obtain ⟨hb,hrun⟩:=h W0 out g a w tr hr
 exact Ht hrun (k g w (fun _ _=>rfl) tr hr hb)
theorem Hl (w:World) (o:Obj):(w.alloc o).heap[w.heap.size]? =some o:=by
 show (w.heap.push o)[w.heap.size]? =_
 simp
theorem GT (w:World) (o:Obj) {k:Nat} (h:k<w.heap.size):(w.alloc o).heap[k]? =w.heap[k]? :=by
 show (w.heap.push o)[k]? =_
 rw [Array.getElem?_push,if_neg (by omega)]
theorem Eu {w:World} {k:Nat} {o:Obj} (h:w.heap[k]? =some o):k<w.heap.size:=by
 rcases Nat.lt_or_ge k w.heap.size with h'|h'
 ·exact h'
 ·simp [Array.getElem?_eq_none h'] at h
def gput (g:Nat→Nat) (n b:Nat):Nat→Nat:=fun m=>if m=n then b else g m
theorem Q8 {W0:World} {out:Nat→Prop} {g:Nat→Nat} {T:List Value} {H:Heap} {nm nx:Nat} {a:Act} {w:World} {b:Blk} {n:Nat} (hn:nm≤n) (hn':n<nm+16) (hx:n<nx)
  (tr:TRel g T nx a) (hr:HRel W0 out g H nx w) (fr:Fresh nm T H) (hb:∀v∈b.cells,Bnd nx v∧Fr nm v):
  (∀m,m<nm∨nm+16≤m→g m=gput g n w.heap.size m)∧TRel (gput g n w.heap.size) T nx a∧
  HRel W0 out (gput g n w.heap.size) (upd H n b) nx (w.alloc (.cells ⟨b.cells.map (ren g)⟩ b.ty)):=by
 have e:∀m,m<nm∨nm+16≤m→g m=gput g n w.heap.size m:=fun m hm=>by
  unfold gput
  rw [if_neg (by omega)]
 refine ⟨e,tr.reg fun v hv=>fr.t v hv _ _ e,⟨?_,?_,?_,?_,?_,?_,?_,?_⟩⟩
 ·intro m c hm
  rw [Em] at hm
  split at hm
  ·omega
  ·exact hr.dom m c hm
 ·intro m c hm
  rw [Em] at hm
  split at hm
  ·injection hm with hm; subst hm; exact fun v hv=>(hb v hv).1
  ·exact hr.bnd m c hm
 ·intro m c hm
  rw [Em] at hm
  split at hm
  ·rename_i hmn
   injection hm with hm; subst hm; subst hmn
   have:gput g m w.heap.size m=w.heap.size:=by simp [gput]
   rw [this,Hl]
   congr 3
   exact List.map_congr_left fun v hv=>(hb v hv).2 _ _ e
  ·rename_i hmn
   have hg:gput g n w.heap.size m=g m:=by simp [gput,hmn]
   have h0:=hr.mem m c hm
   rw [hg,GT _ _ (Eu h0),h0]
   congr 3
   exact List.map_congr_left fun v hv=>(fr.h m c hm).2 v hv _ _ e
 ·intro m k c d hm hk he
  rw [Em] at hm hk
  by_cases hmn:m=n<;>by_cases hkn:k=n
  ·omega
  ·exfalso
   rw [if_neg hkn] at hk
   have:=Eu (hr.mem k d hk)
   simp [gput,hmn,hkn] at he
   omega
  ·exfalso
   rw [if_neg hmn] at hm
   have:=Eu (hr.mem m c hm)
   simp [gput,hmn,hkn] at he
   omega
  ·rw [if_neg hmn] at hm
   rw [if_neg hkn] at hk
   simp only [gput,hmn,hkn,if_false] at he
   exact hr.inj m k c d hm hk he
 ·intro m c hm
  rw [Em] at hm
  by_cases hmn:m=n
  ·subst hmn
   simp only [gput,if_true]
   exact .inl hr.keep.size
  ·rw [if_neg hmn] at hm
   simp only [gput,hmn,if_false]
   exact hr.own m c hm
 ·exact hr.keep.trans (V:=w) (p:=fun _=>False) ⟨rfl,rfl,rfl,by simp,fun k hk _=>GT _ _ hk⟩ (fun _ _ h=>h.elim)
 ·exact hr.tabs.of fun x hx=>by
   obtain ⟨o,h1,_⟩:=hr.tabs x hx
   exact GT _ _ (Eu h1)
 ·intro m c hm x hxt
  rw [Em] at hm
  by_cases hmn:m=n
  ·subst hmn
   obtain ⟨o,h1,_⟩:=hr.tabs x hxt
   have:=Eu h1
   simp only [gput,if_true]
   omega
  ·rw [if_neg hmn] at hm
   simp only [gput,hmn,if_false]
   exact hr.ntab m c hm x hxt
def F7 (w:World) (k:Nat) (o:Obj):World:= {w with heap:=w.heap.setIfInBounds k o}
theorem Lk {w:World} {k:Nat} {o:Obj} (h:k<w.heap.size):(F7 w k o).heap[k]? =some o:=by simp [F7,h]
theorem H7 {w:World} {k j:Nat} {o:Obj} (h:j≠k):(F7 w k o).heap[j]? =w.heap[j]? :=by
 simp only [F7]
 rw [Array.getElem?_setIfInBounds_ne (by omega)]
theorem Mz (w:World) (k:Nat) (o:Obj):(F7 w k o).heap.size=w.heap.size:=by simp [F7]
theorem MJ (w:World) (k:Nat) (o p:Obj):F7 (F7 w k o) k p=F7 w k p:=by simp [F7]
theorem N0 {w:World} {k:Nat} {o:Obj} (h:w.heap[k]? =some o):F7 w k o=w:=by
 have hk:=Eu h
 rw [Array.getElem?_eq_getElem hk] at h
 injection h with h
 unfold F7
 have:w.heap.setIfInBounds k o=w.heap:=by
  rw [Array.setIfInBounds_def,dif_pos hk,←h,Array.set_getElem_self]
 rw [this]
theorem My {w:World} {b off:Nat} {C:List Value} {t:TypeId} {x:Value} (h:w.heap[b]? =some (.cells ⟨C⟩ t (0,0))):
  w.setCell ⟨b,off,none⟩ x=F7 w b (.cells ⟨C.set off x⟩ t (0,0)):=by
 have hk:=Eu h
 have hg:w.heap[b]= .cells ⟨C⟩ t (0,0):=by
  rw [Array.getElem?_eq_getElem hk] at h; injection h
 unfold World.setCell F7
 congr 1
 apply Array.ext_getElem?
 intro i
 rw [Array.getElem?_modify]
 by_cases hi:b=i
 ·subst hi
  simp [hk,hg]
 ·rw [if_neg hi,Array.getElem?_setIfInBounds_ne hi]
theorem Hw {W0:World} {out:Nat→Prop} {g:Nat→Nat} {H:Heap} {nx:Nat} {w:World} {n:Nat} {b c:Blk} (hr:HRel W0 out g H nx w) (hb:look H n=some b) (ht:c.ty=b.ty) (hc:∀v∈c.cells,Bnd nx v):
  HRel W0 out g (upd H n c) nx (F7 w (g n) (.cells ⟨c.cells.map (ren g)⟩ b.ty (0,0))):=by
 have hlt:=Eu (hr.mem n b hb)
 refine ⟨?_,?_,?_,?_,?_,?_,?_,?_⟩
 ·intro m d hm
  rw [Em] at hm
  split at hm
  ·rename_i h; subst h; exact hr.dom _ b hb
  ·exact hr.dom m d hm
 ·intro m d hm
  rw [Em] at hm
  split at hm
  ·injection hm with hm; subst hm; exact hc
  ·exact hr.bnd m d hm
 ·intro m d hm
  rw [Em] at hm
  split at hm
  ·rename_i h; subst h
   injection hm with hm; subst hm
   rw [Lk hlt,ht]
  ·rename_i h
   have h0:=hr.mem m d hm
   have:g m≠g n:=fun e=>h (hr.inj m n d b hm hb e)
   rw [H7 this,h0]
 ·intro m k d e hm hk he
  rw [Em] at hm hk
  have h1:∀m d,(if m=n then some c else look H m)=some d→∃d',look H m=some d':=fun m d h=>by
   split at h
   ·rename_i h'; subst h'; exact ⟨b,hb⟩
   ·exact ⟨d,h⟩
  obtain ⟨d',hd'⟩:=h1 m d hm
  obtain ⟨e',he'⟩:=h1 k e hk
  exact hr.inj m k d' e' hd' he' he
 ·intro m d hm
  rw [Em] at hm
  split at hm
  ·rename_i h; subst h; exact hr.own _ b hb
  ·exact hr.own m d hm
 ·have ho:=hr.own n b hb
  refine ⟨hr.keep.os,hr.keep.tape,hr.keep.output,by rw [Mz]; exact hr.keep.size,fun k hk hnk=> ?_⟩
  have:k≠g n:=fun e=>by
   subst e
   rcases ho with ho|ho
   ·omega
   ·exact hnk ho
  rw [H7 this]
  exact hr.keep.block k hk hnk
 ·exact hr.tabs.of fun x hx=>H7 (fun e=>hr.ntab n b hb x hx e.symm)
 ·intro m d hm x hx
  rw [Em] at hm
  split at hm
  ·rename_i h; subst h; exact hr.ntab _ b hb x hx
  ·exact hr.ntab m d hm x hx
section
variable {P:Program}
theorem Kl {t:TypeId} {z:Value} (h:Kf P t=some z) (w:World):(zeroValue t).run P w= .ok z w:=by
 unfold Kf at h
 cases hi:P.info? t with
 |none=>simp [hi] at h
 | some i=>
  simp only [hi,Option.bind_some] at h
  simp [zeroValue,typeInfo,hi,h]
theorem Et {t:TypeId} {n:Nat} (h:G8 P t=some n) (w:World):(Go.sizeOf t).run P w= .ok n w:=by
 unfold G8 at h
 cases hi:P.info? t with
 |none=>simp [hi] at h
 | some i=>
  simp only [hi,Option.map_some,zS] at h
  simp [Go.sizeOf,typeInfo,hi,h]
theorem GJ {t:TypeId} {b:Bool} (h:tAgg P t=some b) (w:World):(isAgg t).run P w= .ok b w:=by
 unfold tAgg at h
 cases hi:P.underlying t with
 |none=>simp [hi] at h
 | some d=>
  rw [hi] at h
  cases d<;>simp at h<;>simp [isAgg,Go.underlying,hi,h]
theorem JT {w:World} {b off:Nat} {C:List Value} {t:TypeId} {v:Value} (h:w.heap[b]? =some (.cells ⟨C⟩ t (0,0))) (hv:C[off]? =some v):(load ⟨b,off,none⟩).run P w= .ok v w:=by
 have:w.cell? ⟨b,off,none⟩=some v:=by simp [World.cell?,h,hv]
 simp [load,Sem.run,this]
theorem FN (b o i:Nat):(⟨b,o,none⟩:Addr).add i=⟨b,o+i,none⟩:=Addr.add_lit b o i
theorem Fe {w:World} {b off:Nat} {C:List Value} {t:TypeId} (h:w.heap[b]? =some (.cells ⟨C⟩ t (0,0))):
  ∀(n i:Nat) (acc:Array Value),off+i+n≤C.length→(loadCellsFrom ⟨b,off,none⟩ i n acc).run P w= .ok (acc++((C.drop (off+i)).take n).toArray) w
 |0,i,acc,hn=>by simp [loadCellsFrom]
 | n+1,i,acc,hn=>by
  have hlt:off+i<C.length:=by omega
  have hv:C[off+i]? =some C[off+i]:=List.getElem?_eq_getElem hlt
  simp only [loadCellsFrom,Sem.run_bind,FN,JT h hv,Result.andThen]
  rw [Fe h n (i+1) _ (by omega)]
  congr 1
  rw [List.drop_eq_getElem_cons hlt,List.take_succ_cons,Array.push_eq_append,Array.append_assoc]
  congr 1
  simp [Nat.add_assoc]
theorem Np {w:World} {b off:Nat} {C:List Value} {t:TypeId} {x:Value} (h:w.heap[b]? =some (.cells ⟨C⟩ t (0,0))) (ho:off<C.length) (hx:(∀y,x≠ .agg y)∧(∀y,x≠ .tuple y)):
  (store ⟨b,off,none⟩ x).run P w= .ok () (F7 w b (.cells ⟨C.set off x⟩ t (0,0))):=by
 have hc:w.cell? ⟨b,off,none⟩=some C[off]:=by simp [World.cell?,h,ho]
 have hf:w.frozen? ⟨b,off,none⟩=false:=by simp [World.frozen?,h]
 have hs:∀k:Sem Unit,(Sem.store .plain ⟨b,off,none⟩ x k).run P w=k.run P (w.setCell ⟨b,off,none⟩ x):=by
  intro k
  cases x with
  |agg y=>exact absurd rfl (hx.1 y)
  |tuple y=>exact absurd rfl (hx.2 y)
  |_=>simp [Sem.run,hc,hf]
 show (Sem.store .plain ⟨b,off,none⟩ x (.pure ())).run P w=_
 rw [hs]
 simp [My h]
theorem Fa {b off:Nat} {t:TypeId} :∀(vs:List Value) (w:World) (C C':List Value) (i:Nat),w.heap[b]? =some (.cells ⟨C⟩ t (0,0))→putN (off+i) vs C=some C'→
  (∀x∈vs,(∀y,x≠ .agg y)∧(∀y,x≠ .tuple y))→(storeCells ⟨b,off,none⟩ vs i).run P w= .ok () (F7 w b (.cells ⟨C'⟩ t (0,0)))
 | [],w,C,C',i,h,hp,_=>by
  rw [Kt _ _ _ hp,N0 h]
  simp [storeCells]
 | x::vs,w,C,C',i,h,hp,hx=>by
  obtain ⟨h1,h2⟩:=JY _ _ _ _ _ hp
  simp only [storeCells,Sem.run_bind,FN,Np h h1 (hx x (by simp)),Result.andThen]
  rw [Fa vs _ (C.set (off+i) x) C' (i+1) (Lk (Eu h)) (by rw [←Nat.add_assoc]; exact h2) (fun y hy=>hx y (by simp [hy])),MJ]
end
structure Rc where
 need:Bool
 r:Rec
def Rc.of (v:Value) (rs:List Nat) (ws:List (Nat×Blk)):Option Rc:=some ⟨true,⟨v,rs,ws⟩⟩
def E6 (op:BinOp) (k:IntKind) (x y:Int):Int:=
 k.wrap (match op with
  | .and=>(BitVec.ofInt k.bits x&&&BitVec.ofInt k.bits y).toNat
  | .or=>(BitVec.ofInt k.bits x|||BitVec.ofInt k.bits y).toNat
  | .xor=>(BitVec.ofInt k.bits x^^^BitVec.ofInt k.bits y).toNat
  |_=>(BitVec.ofInt k.bits x&&& ~~~ BitVec.ofInt k.bits y).toNat)
def kbeq:IntKind→IntKind→Bool
 | .i8,.i8| .i16,.i16| .i32,.i32| .i64,.i64| .u8,.u8| .u16,.u16| .u32,.u32| .u64,.u64=>true
 |_,_=>false
theorem ID {j k:IntKind} (h:kbeq j k=true):j=k:=by cases j<;>cases k<;>simp_all [kbeq]
def binI (k:IntKind) (a b:Int):BinOp→Option (Bool×Value)
 | .add=>some (true,.int k (k.wrap (a+b)))
 | .sub=>some (true,.int k (k.wrap (a-b)))
 | .mul=>some (true,.int k (k.wrap (a*b)))
 | .quo=>some (b !=0,.int k (k.wrap (a.tdiv b)))
 | .rem=>some (b !=0,.int k (a.tmod b))
 | .and=>some (true,.int k (E6 .and k a b))
 | .or=>some (true,.int k (E6 .or k a b))
 | .xor=>some (true,.int k (E6 .xor k a b))
 | .andNot=>some (true,.int k (E6 .andNot k a b))
 | .eql=>some (true,.bool (a==b))
 | .neq=>some (true,.bool (a !=b))
 | .lss=>some (true,.bool (decide (a<b)))
 | .leq=>some (true,.bool (decide (a≤b)))
 | .gtr=>some (true,.bool (decide (a>b)))
 | .geq=>some (true,.bool (decide (a≥b)))
 |_=>none
def binS (a b:ByteArray):BinOp→Option (Bool×Value)
 | .add=>some (decide (((a.size+b.size:Nat):Int)≤9223372036854775807),.string (a++b))
 | .eql=>some (true,.bool (a.toList==b.toList))
 | .neq=>some (true,.bool (!(a.toList==b.toList)))
 | .lss=>some (true,.bool (Op.bytesLess a.toList b.toList))
 | .leq=>some (true,.bool (Op.bytesLess a.toList b.toList||a.toList==b.toList))
 | .gtr=>some (true,.bool (!(Op.bytesLess a.toList b.toList||a.toList==b.toList)))
 | .geq=>some (true,.bool (!(Op.bytesLess a.toList b.toList)))
 |_=>none
def KN (P:Program) (t:TypeId):Bool:=match P.underlying t with|some .bool=>true|_=>false
def GB (P:Program) (t:TypeId) (off:Nat) (cs:List Value):Option Value:=
 match tAgg P t,G8 P t with
 |some true,some n=>(FX off n cs).map fun l=> .agg ⟨l⟩
 |some false,some _=>match FX off 1 cs with|some [v]=>some v|_=>none
 |_,_=>none
def eqf (P:Program) (E:TypeId→Value→Value→Option Bool) (xs ys:List Value):List Field→Option Bool
 |[]=>some true
 | f ::fs=>
  bif f.name== "_" then none else
  match GB P f.type f.offset xs,GB P f.type f.offset ys with
  | some a,some b=>match E f.type a b with
   | some r=>match fs with
    |[]=>some r
    |_=>match eqf P E xs ys fs with|some r'=>some (r&&r')|none=>none
   |none=>none
  |_,_=>none
def eqi (P:Program) (E:TypeId→Value→Value→Option Bool) (e:TypeId) (c:Nat) (xs ys:List Value):List Nat→Option Bool
 |[]=>some true
 | i ::is=>
  match GB P e (i*c) xs,GB P e (i*c) ys with
  | some a,some b=>match E e a b with
   | some r=>match is with
    |[]=>some r
    |_=>match eqi P E e c xs ys is with|some r'=>some (r&&r')|none=>none
   |none=>none
  |_,_=>none
def eqv (P:Program):Nat→TypeId→Value→Value→Option Bool
 |0,_,_,_=>none
 | d+1,t,x,y=>
  match P.underlying t with
  |some .bool=>match x,y with| .bool a,.bool b=>some (a==b)|_,_=>none
  |some (.int _)=>match x,y with| .int k a,.int k' b=>bif kbeq k k' then some (a==b) else none|_,_=>none
  |some .string=>match x,y with| .string a,.string b=>some (a.toList==b.toList)|_,_=>none
  |some (.struct fs)=>match x,y with| .agg ⟨xs⟩,.agg ⟨ys⟩=>bif P.stoodInHeld t then none else eqf P (eqv P d) xs ys fs.toList|_,_=>none
  |some (.array n e)=>match x,y with| .agg ⟨xs⟩,.agg ⟨ys⟩=>(match G8 P e with|some c=>eqi P (eqv P d) e c xs ys (List.range n)|none=>none)|_,_=>none
  |_=>none
def binA (P:Program) (t:TypeId) (op:BinOp) (x y:Value):Option (Bool×Value):=
 match x,y with
 | .int k a,.int k' b=>
  match op with
  | .shl=>some (decide (0≤b),.int k (k.wrap (a*2^min b.toNat k.bits)))
  | .shr=>some (decide (0≤b),.int k (a.fdiv (2^min b.toNat k.bits)))
  |op=>bif kbeq k k' then binI k a b op else none
 | .string a,.string b=>binS a b op
 | .bool a,.bool b=>
  bif KN P t then match op with
   | .eql=>some (true,.bool (a==b))
   | .neq=>some (true,.bool (!(a==b)))
   |_=>none
  else none
 | .agg xs,.agg ys=>
  match op with
  | .eql=>(eqv P 10 t (.agg xs) (.agg ys)).map fun b=>(true,.bool b)
  | .neq=>(eqv P 10 t (.agg xs) (.agg ys)).map fun b=>(true,.bool (!b))
  |_=>none
 |_,_=>none
theorem QS {P:Program} {k:IntKind} {a b:Int} {op:BinOp} {n:Bool} {v:Value} (t:TypeId) (h:binI k a b op=some (n,v)) (hn:n=true) (w:World):
  (binOp op t (.int k a) (.int k b)).run P w= .ok v w:=by
 subst hn
 cases op<;>simp only [binI,zS,zP,reduceCtorEq,true_and] at h
 all_goals first|subst h|(obtain ⟨h0,rfl⟩:=h)
 case quo=>simp [binOp,Op.intDiv,(by simpa using h0:b≠0)]
 case rem=>simp [binOp,Op.intDiv,(by simpa using h0:b≠0)]
 all_goals simp [binOp,Op.intArith,Op.intCmp,Op.intBits,E6]
theorem QR {P:Program} {a b:ByteArray} {op:BinOp} {n:Bool} {v:Value} (t:TypeId) (h:binS a b op=some (n,v)) (hn:n=true) (w:World):
  (binOp op t (.string a) (.string b)).run P w= .ok v w:=by
 subst hn
 cases op<;>simp only [binS,zS,zP,reduceCtorEq,true_and] at h
 all_goals first|subst h|(obtain ⟨h0,rfl⟩:=h)
 case add=>
  have h1:((a.size+b.size:Nat):Int)≤9223372036854775807:=of_decide_eq_true h0
  simp only [binOp,Op.stringOp,IntKind.max_i64]
  rw [if_neg (by omega)]
  simp
 all_goals simp [binOp,Op.stringOp]
theorem Hv {o:Nat} {l:List Value} {v:Value} (h:FX o 1 l=some [v]):l[o]? =some v:=by
 obtain ⟨h1,h2⟩:=FO o 1 l _ h
 have hlt:o<l.length:=by omega
 rw [List.drop_eq_getElem_cons hlt,List.take_succ_cons] at h1
 simp only [List.take_zero,List.cons.injEq,and_true] at h1
 rw [List.getElem?_eq_getElem hlt,h1]
theorem Gw {P:Program} {t:TypeId} {off:Nat} {cs:List Value} {v:Value} (h:GB P t off cs=some v) (w:World):(part t ⟨cs⟩ off).run P w= .ok v w:=by
 unfold GB at h
 split at h
 ·rename_i n ha hs
  simp only [Option.map_eq_some_iff] at h
  obtain ⟨l,hl,rfl⟩:=h
  obtain ⟨h1,h2⟩:=FO _ _ _ _ hl
  simp [part,GJ ha,Et hs,h1,List.extract_eq_take_drop]
 ·rename_i n ha hs
  split at h
  ·rename_i x hx
   injection h with h; subst h
   have:=Hv hx
   simp [part,GJ ha,this]
  ·simp at h
 ·simp at h
theorem HQ (a b:ByteArray):(a==b)=(a.toList==b.toList):=beq_toListBytes a b
theorem Oo {P:Program} :∀(d e:Nat) (t:TypeId) (x y:Value) (b:Bool) (w:World),eqv P d t x y=some b→(Op.equalIn (e+d) t x y).run P w= .ok b w:=by
 intro d
 induction d with
 |zero=>intro e t x y b w h; simp [eqv] at h
 | succ d ih =>
  intro e t x y b w h
  unfold eqv at h
  split at h
  ·rename_i hu
   split at h
   ·injection h with h; subst h
    exact run_equalIn_bool' w (e+d) t _ _ hu
   ·simp at h
  ·rename_i hu
   split at h
   ·rename_i k a k' c
    cases hk:kbeq k k' with
    |false=>simp [hk] at h
    | true=>
     have:=ID hk
     subst this
     simp only [hk,cond_true,zS] at h
     subst h
     exact run_equalIn_int w (e+d) t _ _ _ _ hu
   ·simp at h
  ·rename_i hu
   split at h
   ·injection h with h; subst h
    exact run_equalIn_string w (e+d) t _ _ hu
   ·simp at h
  ·rename_i fs hu
   split at h
   ·rename_i xs ys
    cases hs:P.stoodInHeld t with
    |true=>simp [hs] at h
    | false =>
     simp only [hs,cond_false] at h
     have hf:P.fieldsOf t=fs:=by simp [Program.fieldsOf,hu]
     have:(Op.equalIn (e+(d+1)) t (.agg ⟨xs⟩) (.agg ⟨ys⟩)).run P w=(Op.eqFields (e+d) ⟨xs⟩ ⟨ys⟩ fs.toList).run P w:=by
      have:=run_equalIn_struct (P:=P) w (e+d) t ⟨xs⟩ ⟨ys⟩ (by rw [hf]; exact hu) hs
      rw [hf] at this
      exact this
     rw [this]
     have key:∀(l:List Field) (b:Bool),eqf P (eqv P d) xs ys l=some b→(Op.eqFields (e+d) ⟨xs⟩ ⟨ys⟩ l).run P w= .ok b w:=by
      intro l
      induction l with
      |nil=>intro b h; simp [eqf] at h; simp [Op.eqFields,h]
      | cons f l ihl=>
       intro b h
       unfold eqf at h
       cases hn:(f.name== "_") with
       |true=>simp [hn] at h
       | false =>
        have hn':f.name≠ "_" :=by simpa using hn
        simp only [hn,cond_false] at h
        split at h
        ·rename_i u v hu' hv'
         split at h
         ·rename_i r hr
          simp only [Op.eqFields,ne_eq,hn',not_false_eq_true,if_true,Sem.run_bind,Gw hu' w,Gw hv' w,Result.andThen_ok,ih e _ _ _ _ w hr,Sem.run_ite]
          split at h
          ·injection h with h; subst h
           cases r<;>simp [Op.eqFields]
          ·split at h
           ·rename_i r' hr'
            injection h with h; subst h
            cases r
            ·simp
            ·simp [ihl _ hr']
           ·simp at h
         ·simp at h
        ·simp at h
     exact key _ _ h
   ·simp at h
  ·rename_i n el hu
   split at h
   ·rename_i xs ys
    split at h
    ·rename_i c hc
     obtain ⟨inf,hi,hic⟩:∃inf,P.info? el=some inf∧inf.size=c:=by
      unfold G8 at hc
      cases hinf:P.info? el with
      |none=>rw [hinf] at hc; cases hc
      |some inf=>rw [hinf] at hc; exact ⟨inf,rfl,by simpa using hc⟩
     have hcell:P.cellsOf el=c:=by simp [Program.cellsOf,hi,hic]
     rw [show e+(d+1)=(e+d)+1 from rfl,run_equalIn_array w (e+d) ⟨xs⟩ ⟨ys⟩ hu hi,hcell]
     have key:∀(l:List Nat) (b:Bool),eqi P (eqv P d) el c xs ys l=some b→(Op.eqItems (e+d) el c ⟨xs⟩ ⟨ys⟩ l).run P w= .ok b w:=by
      intro l
      induction l with
      |nil=>intro b h; simp [eqi] at h; simp [Op.eqItems,h]
      | cons i l ihl=>
       intro b h
       unfold eqi at h
       split at h
       ·rename_i u v hu' hv'
        split at h
        ·rename_i r hr
         simp only [Op.eqItems,Sem.run_bind,Gw hu' w,Gw hv' w,Result.andThen_ok,ih e _ _ _ _ w hr]
         split at h
         ·injection h with h; subst h
          cases r<;>simp [Op.eqItems]
         ·split at h
          ·rename_i r' hr'
           injection h with h; subst h
           cases r
           ·simp
           ·simp [ihl _ hr']
          ·simp at h
        ·simp at h
       ·simp at h
     exact key _ _ h
    ·simp at h
   ·simp at h
  ·simp at h
def I0 (P:Program):Nat→TypeId→Bool
 |0,_=>false
 | d+1,t=>
  match P.underlying t with
  |some .bool=>true
  |some (.int _)=>true
  |some .string=>true
  |some (.struct fs)=>fs.toList.all fun f=>I0 P d f.type
  |some (.array _ e)=>I0 P d e
  |_=>false
theorem Lb {P:Program} :∀(d e:Nat) (t:TypeId),I0 P d t=true→P.eqGuardType (e+d) t=false:=by
 intro d
 induction d with
 |zero=>intro e t h; simp [I0] at h
 | succ d ih=>
  intro e t h
  unfold I0 at h
  show P.eqGuardType (e+d+1) t=false
  unfold Program.eqGuardType
  split at h
  all_goals rename_i hu; try simp only [hu]
  ·rename_i fs
   rw [←Array.any_toList]
   rw [List.any_eq_false]
   intro f hf
   rw [List.all_eq_true] at h
   simp [ih e _ (h f hf)]
  ·exact ih e _ h
  ·simp at h
def eqOk (P:Program) (t:TypeId):Value→Bool
 | .agg _=>I0 P 10 t
 |_=>true
theorem QT {P:Program} {t:TypeId} {op:BinOp} {x y:Value} {n:Bool} {v:Value} (ox oy:Operand) (hd:10≤P.depth) (h:binA P t op x y=some (n,v)) (hn:n=true)
  (hp:eqOk P t x=true) (w:World):
  (do eqGuard op t ox oy x y; binOp op t x y:Sem Value).run P w= .ok v w:=by
 cases x with
 | int k a=>
  rw [eqGuard_at_int]
  simp only [Sem.run_bind,Sem.run_pure,Result.andThen_ok]
  cases y with
  | int k' b=>
   have hs:op= .shl∨op= .shr∨(op≠ .shl∧op≠ .shr):=by cases op<;>simp
   rcases hs with rfl|rfl|⟨h1,h2⟩
   ·simp only [binA,zS,zP] at h
    obtain ⟨h0,rfl⟩:=h
    subst hn
    have:¬b<0:=by have:=of_decide_eq_true h0; omega
    simp [binOp,Op.shift,this]
   ·simp only [binA,zS,zP] at h
    obtain ⟨h0,rfl⟩:=h
    subst hn
    have:¬b<0:=by have:=of_decide_eq_true h0; omega
    simp [binOp,Op.shift,this]
   ·have h':(bif kbeq k k' then binI k a b op else none)=some (n,v):=by
     cases op<;>first|exact absurd rfl h1|exact absurd rfl h2|exact h
    cases hk:kbeq k k' with
    |false=>simp [hk] at h'
    | true=>
     have:=ID hk
     subst this
     simp only [hk,cond_true] at h'
     exact QS t h' hn w
  |_=>simp [binA] at h
 | string a=>
  rw [eqGuard_at_string]
  simp only [Sem.run_bind,Sem.run_pure,Result.andThen_ok]
  cases y with
  |string b=>exact QR t h hn w
  |_=>simp [binA] at h
 | bool a=>
  rw [eqGuard_at_bool]
  simp only [Sem.run_bind,Sem.run_pure,Result.andThen_ok]
  cases y with
  | bool b=>
   cases hb:KN P t with
   |false=>simp [binA,hb] at h
   | true=>
    have hu:P.underlying t=some .bool:=by
     unfold KN at hb
     split at hb
     ·assumption
     ·simp at hb
    cases op<;>simp only [binA,hb,cond_true,zS,zP,reduceCtorEq] at h
    ·obtain ⟨_,rfl⟩:=h
     simp [binOp,Op.equal,Op.maxDepth,run_equalIn_bool' w 9999 t a b hu]
    ·obtain ⟨_,rfl⟩:=h
     simp [binOp,Op.equal,Op.maxDepth,run_equalIn_bool' w 9999 t a b hu]
  |_=>simp [binA] at h
 | agg xs=>
  cases y with
  | agg ys=>
   have hg:P.eqGuardType P.depth t=false:=by
    have:=Lb 10 (P.depth-10) t hp
    rwa [show P.depth-10+10=P.depth from by omega] at this
   cases op<;>simp only [binA,Option.map_eq_some_iff,zP,reduceCtorEq] at h
   ·obtain ⟨b,hb,_,rfl⟩:=h
    have:=Oo 10 9990 t _ _ b w hb
    simp [eqGuard,program,hg,binOp,Op.equal,Op.maxDepth,this,Sem.run]
   ·obtain ⟨b,hb,_,rfl⟩:=h
    have:=Oo 10 9990 t _ _ b w hb
    simp [eqGuard,program,hg,binOp,Op.equal,Op.maxDepth,this,Sem.run]
  |_=>simp [binA] at h
 |_=>simp [binA] at h
theorem Ku:∀(o:Nat) (xs l r:List Value),putN o xs l=some r→o+xs.length≤l.length∧r.length=l.length
 |0,[],l,r,h=>by simp [putN] at h; subst h; simp
 | 0,x::xs,y::l,r,h=>by
  simp only [putN,Option.map_eq_some_iff] at h
  obtain ⟨r',h',rfl⟩:=h
  obtain ⟨h1,h2⟩:=Ku 0 xs l r' h'
  simp only [List.length_cons]
  omega
 |0,x::xs,[],r,h=>by simp [putN] at h
 | o+1,xs,y::l,r,h=>by
  simp only [putN,Option.map_eq_some_iff] at h
  obtain ⟨r',h',rfl⟩:=h
  obtain ⟨h1,h2⟩:=Ku o xs l r' h'
  simp only [List.length_cons]
  omega
 |o+1,xs,[],r,h=>by simp [putN] at h
theorem NR (o:Nat):∀(xs:List Value) (k:Nat) (C C':List Value),putN (o+k) xs C=some C'→
  (xs.zipIdx k).foldl (fun (cs:Array Value) (x:Value×Nat)=>cs.setIfInBounds (o+x.2) x.1) ⟨C⟩=⟨C'⟩
 |[],k,C,C',h=>by simp [Kt _ _ _ h]
 | x::xs,k,C,C',h=>by
  obtain ⟨h1,h2⟩:=JY _ _ _ _ _ h
  simp only [List.zipIdx_cons,List.foldl_cons,List.setIfInBounds_toArray]
  exact NR o xs (k+1) _ C' (by rw [←Nat.add_assoc]; exact h2)
def GC (place:Nat→Option (Nat×Nat)):List (Nat×Value)→List Value→Option (List Value)
 |[],cs=>some cs
 | (i,v)::r,cs=>
  match place i with
  |some (o,n)=>bif Nat.beq (E0 v).length n then (putN o (E0 v) cs).bind (GC place r) else none
  |none=>none
theorem Ik {place:Nat→Option (Nat×Nat)} {i:Nat} {v:Value} {r:List (Nat×Value)} {C C':List Value} (h:GC place ((i,v)::r) C=some C'):
  ∃o D,place i=some (o,(E0 v).length)∧putN o (E0 v) C=some D∧GC place r D=some C':=by
 simp only [GC] at h
 split at h
 ·rename_i o n hp
  cases hb:Nat.beq (E0 v).length n with
  |false=>simp [hb] at h
  | true=>
   simp only [hb,cond_true,Option.bind_eq_some_iff] at h
   obtain ⟨D,hD,hr⟩:=h
   have:=zE hb
   exact ⟨o,D,by rw [hp,this],hD,hr⟩
 ·simp at h
theorem Fj (g:Nat→Nat) (v:Value):E0 (ren g v)=(E0 v).map (ren g):=by
 have h1:=JV g v
 have h2:=GV (ren g v)
 rw [h1] at h2
 injection h2 with h2
 exact h2.symm
theorem KR {place:Nat→Option (Nat×Nat)} :∀(parts:List (Nat×Value)) (C C':List Value),GC place parts C=some C'→Instr.fill place ⟨C⟩ parts=some ⟨C'⟩
  |[],C,C',h=>by simp [GC] at h; simp [Instr.fill,h]
  | (i,v)::r,C,C',h=>by
    obtain ⟨o,D,hp,hD,hr⟩:=Ik h
    obtain ⟨h1,h2⟩:=Ku _ _ _ _ hD
    have hf:=NR o (E0 v) 0 C D hD
    have hc:v.cells=⟨E0 v⟩:=GV v
    have hno:¬(o+(E0 v).length>C.length):=by omega
    have:=KR r D C' hr
    simp only [Instr.fill,hp,hc]
    simp only [List.size_toArray,ne_eq,not_true_eq_false,decide_false,hno,Bool.or_self,Bool.false_eq_true,if_false]
    have e:Array.foldl (fun (cs:Array Value) (x:Value×Nat)=>match x with|(c,j)=>cs.setIfInBounds (o+j) c) ⟨C⟩ (Array.zipIdx ⟨E0 v⟩)=⟨D⟩:=by
      rw [←hf]
      simp
    rw [e]
    exact this
theorem Jl (g:Nat→Nat) {place:Nat→Option (Nat×Nat)} :∀(parts:List (Nat×Value)) (C C':List Value),GC place parts C=some C'→
  GC place (parts.map fun x=>(x.1,ren g x.2)) (C.map (ren g))=some (C'.map (ren g))
 |[],C,C',h=>by simp [GC] at h; simp [GC,h]
 | (i,v)::r,C,C',h=>by
  obtain ⟨o,D,hp,hD,hr⟩:=Ik h
  have:=Jl g r D C' hr
  simp only [List.map_cons,GC,hp,Fj,List.length_map,Nat.beq_refl,cond_true,Hf (ren g) _ _ _ _ hD,Option.bind_some]
  exact this
theorem Jk {place:Nat→Option (Nat×Nat)} :∀(parts:List (Nat×Value)) (C C':List Value),GC place parts C=some C'→∀v∈C',v∈C∨∃p∈parts,v∈E0 p.2
  |[],C,C',h=>by simp [GC] at h; subst h; exact fun v hv=> .inl hv
  | (i,v)::r,C,C',h=>by
    obtain ⟨o,D,hp,hD,hr⟩:=Ik h
    intro u hu
    rcases Jk r D C' hr u hu with h1|⟨p,hp,h1⟩
    · rcases He _ _ _ _ hD u h1 with h2|h2
      · exact .inr ⟨(i,v),by simp,h2⟩
      · exact .inl h2
    · exact .inr ⟨p,by simp [hp],h1⟩
def Kw (P:Program) (t:TypeId):Option ((Nat→Option (Nat×Nat))×List Value):=
 match P.info? t,P.underlying t with
 | some it,some (.array _ e)=>
  match it.zero,P.info? e with
  |some z,some ie=>some (fun i=>some (i*ie.size,ie.size),E0 z)
  |_,_=>none
 | some it,some (.struct fields)=>
  match it.zero,fields.toList.mapM (fun f=>(P.info? f.type).map fun i=>(f.offset,i.size)) with
  |some z,some places=>some (fun i=>places[i]?,E0 z)
  |_,_=>none
 |_,_=>none
theorem RQ {P:Program} {t:TypeId} {pl:Nat→Option (Nat×Nat)} {z:List Value} {parts:List (Nat×Value)} {C:List Value} (hp:Kw P t=some (pl,z)) (hf:GC pl parts z=some C):
  P.built t parts=some ⟨C⟩:=by
 unfold Kw at hp
 unfold Program.built
 split at hp
 ·rename_i it n e h1 h2
  split at hp
  ·rename_i z' ie h3 h4
   simp only [zS,zP] at hp
   obtain ⟨rfl,rfl⟩:=hp
   simp only [h1,h2,h3,h4,GV]
   exact KR _ _ _ hf
  ·simp at hp
 ·rename_i it fs h1 h2
  split at hp
  ·rename_i z' places h3 h4
   simp only [zS,zP] at hp
   obtain ⟨rfl,rfl⟩:=hp
   simp only [h1,h2,h3,h4,GV]
   have:=KR _ _ _ hf
   simpa using this
  ·simp at hp
 ·simp at hp
def NA (t:Bool) (a b:Value):Value:=
 match a,b with
 | .bool x,.bool y=> .bool (bif t then x else y)
 | .int k x,.int k' y=>bif kbeq k k' then .int k (bif t then x else y) else bif t then .int k x else .int k' y
 |a,b=>bif t then a else b
theorem N9 (t:Bool) (a b:Value):NA t a b=if t=true then a else b:=by
 unfold NA
 split
 ·cases t<;>simp
 ·rename_i k x k' y
  cases hk:kbeq k k'
  ·cases t<;>simp
  ·have:=ID hk; subst this; cases t<;>simp
 ·cases t<;>simp
def JB (P:Program) (H:Heap) (t:TypeId) (b o:Nat):Option Value:=
 match look H b with
 |some (.cs C _)=>GB P t o C
 |_=>none
def PB (P:Program) (H:Heap) (t:TypeId) (b o:Nat):Option Rc:=
 match look H b,tAgg P t with
 |some (.is k xs _),some false=>some ⟨Nat.blt o xs.length,⟨.int k (xs.getD o 0),[b],[]⟩⟩
 |_,_=>none
def HM (P:Program) (H:Heap) (t:TypeId):Value→Option Rc
 | .pointer (some ⟨b,o,none⟩)=>(match JB P H t b o with|some v=>Rc.of v [b] []|none=>PB P H t b o)
 |_=>none
def H3 (P:Program) (H:Heap) (t:TypeId) (y:Value):Value→Option Rc
 | .pointer (some ⟨b,o,none⟩)=>
  match look H b,G8 P t with
  | some (.cs C ty),some n=>
   bif Nat.beq (E0 y).length n&&(E0 y).all HO then
    (match putN o (E0 y) C with|some C'=>Rc.of undef [b] [(b,.cs C' ty)]|none=>none)
   else none
  | some (.is k xs ty),some n=>
   (match y with
   | .int k' v=>bif kbeq k k'&&Nat.beq n 1 then some ⟨Nat.blt o xs.length,⟨undef,[b],[(b,.is k (xs.set o v) ty)]⟩⟩ else none
   |_=>none)
  |_,_=>none
 |_=>none
def KS (P:Program) (t:TypeId) (f:Nat):Option Field:=
 match P.underlying t with
 |some (.struct fs)=>fs.toList[f]?
 |_=>none
def JI (P:Program) (t:TypeId) (f:Nat):Value→Option Rc
 | .pointer (some ⟨b,o,none⟩)=>
  match KS P t f with
  | some fd=>match G8 P fd.type with
   |some (_+1)=>Rc.of (.pointer (some ⟨b,o+fd.offset,none⟩)) [] []
   |_=>none
  |none=>none
 |_=>none
def NU (P:Program) (t:TypeId) (f:Nat):Value→Option Rc
 | .agg ⟨C⟩=>
  match KS P t f with
  |some fd=>match GB P fd.type fd.offset C with|some v=>Rc.of v [] []|none=>none
  |none=>none
 |_=>none
def GH (P:Program) (t:TypeId) (x i:Value):Option Rc:=
 match x,i with
 | .slice (some ⟨b,o,none⟩) len _,.int _ n=>
  match P.underlying t with
  | some (.slice e)=>match G8 P e with
   |some s=>fN s fun s=>some ⟨decide (0≤n)&&decide (n<len),⟨.pointer (some ⟨b,o+n.toNat*s,none⟩),[],[]⟩⟩
   |none=>none
  |_=>none
 | .pointer (some ⟨b,o,none⟩),.int _ n=>
  match P.underlying t with
  | some (.array len e)=>match G8 P e with
   |some s=>fN s fun s=>some ⟨decide (0≤n)&&decide (n<len),⟨.pointer (some ⟨b,o+n.toNat*s,none⟩),[],[]⟩⟩
   |none=>none
  |_=>none
 |_,_=>none
def LL (P:Program) (t:TypeId) (x i:Value):Option Rc:=
 match x,i with
 | .agg ⟨C⟩,.int _ n=>
  match P.underlying t with
  | some (.array len e)=>
   (match G8 P e with
   | some s=>(match GB P e (n.toNat*s) C with
    |some v=>some ⟨decide (0≤n)&&decide (n<len),⟨v,[],[]⟩⟩
    |none=>none)
   |none=>none)
  |_=>none
 | .string s,.int _ n=>
  match P.underlying t with
  |some .string=>some ⟨decide (0≤n)&&decide (n<s.size),⟨.int .u8 ((s.data.toList.getD n.toNat 0).toNat:Int),[],[]⟩⟩
  |_=>none
 |_,_=>none
def FJ (k:IntKind):List Value→Option (List Int)
 |[]=>some []
 | .int k' n::r=>bif kbeq k k' then (match FJ k r with|some l=>some (n::l)|none=>none) else none
 |_=>none
theorem Ih {k:IntKind} :∀ {l:List Value} {vs:List Int},FJ k l=some vs→l=vs.map (Value.int k)
 |[],vs,h=>by simp [FJ] at h; subst h; rfl
 | .int k' n::r,vs,h=>by
  simp only [FJ] at h
  cases hk:kbeq k k' with
  |false=>simp [hk] at h
  | true=>
   obtain rfl:=ID hk
   simp only [hk,cond_true] at h
   split at h
   ·rename_i l hl
    injection h with h; subst h
    rw [Ih hl]; rfl
   ·simp at h
 | .bool _::_,_,h=>by simp [FJ] at h
 | .float _ _::_,_,h=>by simp [FJ] at h
 | .complex _ _ _::_,_,h=>by simp [FJ] at h
 | .string _::_,_,h=>by simp [FJ] at h
 | .pointer _::_,_,h=>by simp [FJ] at h
 | .slice _ _ _::_,_,h=>by simp [FJ] at h
 | .map _::_,_,h=>by simp [FJ] at h
 | .chan _::_,_,h=>by simp [FJ] at h
 | .func _ _ _::_,_,h=>by simp [FJ] at h
 | .nilFunc::_,_,h=>by simp [FJ] at h
 | .iface _ _::_,_,h=>by simp [FJ] at h
 | .nilIface::_,_,h=>by simp [FJ] at h
 | .agg _::_,_,h=>by simp [FJ] at h
 | .tuple _::_,_,h=>by simp [FJ] at h
def mkB (C:List Value) (e:TypeId):Blk:=
 bif IS then (match C with| .int .u32 _::_=>(match FJ .u32 C with|some xs=> .is .u32 xs e|none=> .cs C e)|_=> .cs C e) else .cs C e
theorem mkB_eq (C:List Value) (e:TypeId):(mkB C e).cells=C∧(mkB C e).ty=e:=by
 unfold mkB
 cases IS with
 |false=>exact ⟨rfl,rfl⟩
 | true=>
  simp only [cond_true]
  split
  ·split
   ·rename_i xs h
    exact ⟨(Ih h).symm,rfl⟩
   ·exact ⟨rfl,rfl⟩
  ·exact ⟨rfl,rfl⟩
def Gm (P:Program) (nm:Nat) (t:TypeId) (len:Nat) (parts:List (Nat×Value)):Option Rc:=
 match P.underlying t with
 | some (.slice e)=>
  match G8 P e,Kf P e with
  | some s,some z=>
   bif Nat.ble (len*s) (2^24)&&Nat.ble 1 (len*s)&&clo 8 z then
    match GC (fun i=>some (i*s,s)) parts ((List.range (len*s)).map fun j=>(E0 z).getD (j%(E0 z).length) default) with
    |some C=>Rc.of (.slice (some ⟨nm,0,none⟩) len len) [] [(nm,mkB C e)]
    |none=>none
   else none
  |_,_=>none
 |_=>none
def RC (op:UnOp):Value→Option Value
 | .int k n=>match op with
  | .neg=>some (.int k (k.wrap (0-n)))
  | .xor=>some (.int k (E6 .xor k (if k.signed then -1 else k.max) n))
  |_=>none
 | .bool b=>match op with
  | .not=>some (.bool (!b))
  |_=>none
 |_=>none
def JJ (P:Program) (s d:TypeId):Value→Option Value
 | .int _ n=>
  match P.underlying s,P.underlying d with
  |some _,some (.int k)=>some (.int k (k.wrap n))
  |_,_=>none
 | .string x=>
  match P.underlying s,P.underlying d with
  |some .string,some .string=>some (.string x)
  |_,_=>none
 |_=>none
def lenA (P:Program) (t:TypeId):Value→Option Value
 | .string s=>match P.underlying t with|some .string=>some (.int .i64 s.size)|_=>none
 | .slice _ n _=>match P.underlying t with|some (.slice _)=>some (.int .i64 n)|_=>none
 |_=>none
def minA (mx:Bool):Value→List Value→Option Value
 |v,[]=>some v
 | .int k x,.int k' y::r=>bif kbeq k k' then minA mx (.int k (bif mx then (if y>x then y else x) else (if y<x then y else x))) r else none
 |_,_=>none
def HN (P:Program) (b:Builtin) (ts:List TypeId) (xs:List Value):Option Value:=
 match b with
 | .len=>match ts,xs with|t::_,x::_=>lenA P t x|_,_=>none
 | .min=>match xs with| .int k x::r=>minA false (.int k x) r|_=>none
 | .max=>match xs with| .int k x::r=>minA true (.int k x) r|_=>none
 |_=>none
def GU (P:Program) (nm:Nat) (o:Oper) (T:List Value) (H:Heap):Option Rc:=
 bif o.op.operands.toList.all (evOk T) then
  match o.op with
  | .move x=>Rc.of (ev T x) [] []
  | .assign x=>Rc.of (ev T x) [] []
  | .pick c a b=>(match ev T c with| .bool t=>Rc.of (NA t (ev T a) (ev T b)) [] []|_=>none)
  | .alloc t=>(match Kf P t with|some z=>bif clo 8 z then Rc.of (.pointer (some ⟨nm,0,none⟩)) [] [(nm,.cs (E0 z) t)] else none|none=>none)
  | .box t x=>Rc.of (.pointer (some ⟨nm,0,none⟩)) [] [(nm,.cs (E0 (ev T x)) t)]
  | .load t x=>HM P H t (ev T x)
  | .store t x y=>H3 P H t (ev T y) (ev T x)
  | .build t ps=>
   (match Kw P t with
   |some (pl,z)=>bif z.all (clo 8) then (match GC pl (ps.toList.map fun x=>(x.1,ev T x.2)) z with|some C=>Rc.of (.agg ⟨C⟩) [] []|none=>none) else none
   |none=>none)
  | .buildSlice t len ps=>Gm P nm t len (ps.toList.map fun x=>(x.1,ev T x.2))
  | .field t x f=>NU P t f (ev T x)
  | .fieldAddr t x f=>JI P t f (ev T x)
  | .indexAddr t x i=>GH P t (ev T x) (ev T i)
  | .index t x i=>LL P t (ev T x) (ev T i)
  | .extract x i=>(match ev T x with| .tuple ⟨vs⟩=>(match vs[i]? with|some v=>Rc.of v [] []|none=>none)|_=>none)
  | .nilCheck x=>(match ev T x with| .pointer (some a)=>Rc.of (.pointer (some a)) [] []|_=>none)
  | .binOp op t x y _=>bif eqOk P t (ev T x)&&Nat.ble 10 P.depth then (match binA P t op (ev T x) (ev T y) with|some (n,v)=>some ⟨n,⟨v,[],[]⟩⟩|none=>none) else none
  | .unOp op _ x=>(match RC op (ev T x) with|some v=>Rc.of v [] []|none=>none)
  | .convert s d x=>(match JJ P s d (ev T x) with|some v=>Rc.of v [] []|none=>none)
  | .makeFunc fn f c=>Rc.of (.func fn ⟨f.toList.map (ev T)⟩ ⟨c.toList.map (ev T)⟩) [] []
  | .call c=>
   (match c.callee with
   | .builtin b=>(match HN P b c.argTypes.toList (c.args.toList.map (ev T)) with|some v=>Rc.of v [] []|none=>none)
   |_=>none)
  |_=>none
 else none
theorem Rc.of_inv {v:Value} {rs:List Nat} {ws:List (Nat×Blk)} {rc:Rc} (h:Rc.of v rs ws=some rc):rc=⟨true,⟨v,rs,ws⟩⟩:=by
 injection h with h; exact h.symm
section
variable {P:Program} {o:Oper} {nm nx:Nat} {T:List Value} {H:Heap}
theorem I1 {t:TypeId} {off:Nat} {C:List Value} {v:Value} (h:GB P t off C=some v) {b:Nat} (hb:∀c∈C,Bnd b c):Bnd b v:=by
 unfold GB at h
 split at h
 ·simp only [Option.map_eq_some_iff] at h
  obtain ⟨l,hl,rfl⟩:=h
  obtain ⟨h1,_⟩:=FO _ _ _ _ hl
  refine Bnd.agg fun c hc=>hb c ?_
  rw [h1] at hc
  exact List.mem_of_mem_drop (List.mem_of_mem_take hc)
 ·split at h
  ·rename_i x hx
   injection h with h; subst h
   exact hb _ (List.mem_of_getElem? (Hv hx))
  ·simp at h
 ·simp at h
theorem GI (f:Value→Value):∀(o n:Nat) (l r:List Value),FX o n l=some r→FX o n (l.map f)=some (r.map f)
 |0,0,l,r,h=>by simp [FX] at h; subst h; simp [FX]
 | 0,n+1,v::l,r,h=>by
  simp only [FX,Option.map_eq_some_iff] at h
  obtain ⟨r',h',rfl⟩:=h
  simp [FX,GI f 0 n l r' h']
 |0,n+1,[],r,h=>by simp [FX] at h
 | o+1,n,v::l,r,h=>by
  simp only [FX] at h
  simp [FX,GI f o n l r h]
 |o+1,n,[],r,h=>by simp [FX] at h
theorem Fm (g:Nat→Nat) {t:TypeId} {off:Nat} {C:List Value} {v:Value} (h:GB P t off C=some v):GB P t off (C.map (ren g))=some (ren g v):=by
 unfold GB at h ⊢
 split at h
 ·simp only [Option.map_eq_some_iff] at h
  obtain ⟨l,hl,rfl⟩:=h
  simp only [*,GI (ren g) _ _ _ _ hl,Option.map_some,ren_agg]
 ·split at h
  ·rename_i x hx
   injection h with h; subst h
   simp only [*,GI (ren g) _ _ _ _ hx,List.map_cons,List.map_nil]
  ·simp at h
 ·simp at h
theorem Jw {t:TypeId} {f:Nat} {fd:Field} (h:KS P t f=some fd):∃fs:Array Field,P.underlying t=some (.struct fs)∧fs[f]? =some fd:=by
 unfold KS at h
 split at h
 ·rename_i fs hu
  exact ⟨fs,hu,by simpa using h⟩
 ·simp at h
theorem run_loadVar {t:TypeId} {w:World} {b off:Nat} {C:List Value} {ty:TypeId} {v:Value} (h:w.heap[b]? =some (.cells ⟨C⟩ ty (0,0))) (hp:GB P t off C=some v):
  (loadVar t ⟨b,off,none⟩).run P w= .ok v w:=by
 unfold GB at hp
 split at hp
 ·rename_i n ha hs
  simp only [Option.map_eq_some_iff] at hp
  obtain ⟨l,hl,rfl⟩:=hp
  obtain ⟨h1,h2⟩:=FO _ _ _ _ hl
  simp [loadVar,GJ ha,Et hs,loadCells,Fe h n 0 #[] (by omega),h1]
 ·rename_i n ha hs
  split at hp
  ·rename_i x hx
   injection hp with hp; subst hp
   simp only [loadVar,Sem.run_bind,GJ ha,Result.andThen_ok,Bool.false_eq_true,if_false]
   exact JT h (Hv hx)
  ·simp at hp
 ·simp at hp
end
section
variable {P:Program} {o:Oper} {nm nx:Nat} {T:List Value} {H:Heap}
theorem RR {b:Nat} {t:Bool} {x y:Value} (hx:Bnd b x) (hy:Bnd b y):Bnd b (NA t x y):=by
 rw [N9]; split<;>assumption
theorem QU (g:Nat→Nat) (t:Bool) (x y:Value):ren g (NA t x y)=if t=true then ren g x else ren g y:=by
 rw [N9]; split<;>rfl
theorem Pt {t:TypeId} {v:Value} {rc:Rc} {x:Operand} (ho:o.op= .load t x) (hx:evOk T x=true) (hv:ev T x=v) (h:HM P H t v=some rc) (hneed:rc.need=true):Goes P o nm nx T H rc.r:=by
 unfold HM at h
 split at h
 ·rename_i b off
  split at h
  ·rename_i u hu
   have:=Rc.of_inv h; subst this
   refine Goes.pure fun W0 out g a w tr hr=> ?_
   unfold JB at hu
   split at hu
   ·rename_i C ty hl
    have hm:=hr.mem b _ hl
    refine ⟨I1 hu (hr.bnd b _ hl),?_⟩
    have he:a.eval x= .pointer (some ⟨g b,off,none⟩):=by rw [tr.eval hx,hv]; simp
    simp [execOp,ho,he,Instr.loadAt,Instr.sureAddr,run_loadVar hm (Fm g hu)]
   ·simp at hu
  ·unfold PB at h
   split at h
   ·rename_i k xs ty hl ha
    injection h with h; subst h
    simp only [Nat.blt_eq] at hneed
    refine Goes.pure fun W0 out g a w tr hr=>⟨fun g1 g2 _=>by simp,?_⟩
    have hm:=hr.mem b _ hl
    have he:a.eval x= .pointer (some ⟨g b,off,none⟩):=by rw [tr.eval hx,hv]; simp
    have hv1:((Blk.is k xs ty).cells.map (ren g))[off]? =some (.int k (xs.getD off 0)):=by
     simp [Blk.cells,hneed]
    simp only [execOp,ho,he,Instr.loadAt,Instr.sureAddr,loadVar,Sem.run_bind,Sem.run_pure,GJ ha,Result.andThen_ok,Bool.false_eq_true,if_false,JT hm hv1,Ix]
   ·simp at h
 ·simp at h
theorem N8 (x:Value):∀(o:Nat) (C:List Value),o<C.length→putN o [x] C=some (C.set o x)
 |0,y::C,_=>by simp [putN]
 |o+1,y::C,h=>by simp [putN,N8 x o C (by simpa using h)]
 |o,[],h=>by simp at h
theorem O6 {t:TypeId} {v y:Value} {rc:Rc} {x z:Operand} (ho:o.op= .store t x z) (hx:evOk T x=true) (hz:evOk T z=true) (hv:ev T x=v) (hy:ev T z=y) (h:H3 P H t y v=some rc) (hneed:rc.need=true):Goes P o nm nx T H rc.r:=by
 unfold H3 at h
 split at h
 ·rename_i b off
  split at h
  ·rename_i C ty n hl hs
   cases hc:(Nat.beq (E0 y).length n&&(E0 y).all HO) with
   |false=>simp [hc] at h
   | true=>
    simp only [hc,cond_true] at h
    simp only [zB] at hc
    have hlen:=zE hc.1
    split at h
    ·rename_i C' hp
     have:=Rc.of_inv h; subst this
     refine ⟨fun W0 out g a w next Q tr hr fr k=> ?_⟩
     have hm:=hr.mem b _ hl
     have he:a.eval x= .pointer (some ⟨g b,off,none⟩):=by rw [tr.eval hx,hv]; simp
     have hey:a.eval z=ren g y:=by rw [tr.eval hz,hy]
     have hcells:(ren g y).cells=⟨(E0 y).map (ren g)⟩:=JV g y
     have hput:=Hf (ren g) _ _ _ _ hp
     have hcl:∀u∈(E0 y).map (ren g),(∀y,u≠ .agg y)∧(∀y,u≠ .tuple y):=by
      intro u hu
      obtain ⟨c,hc',rfl⟩:=List.mem_map.1 hu
      rw [List.all_eq_true] at hc
      exact LO g c (hc.2 c hc')
     have hrun:=Fa (P:=P) (off:=off) (t:=ty) _ w _ _ 0 hm hput hcl
     refine HX (w':=F7 w (g b) (.cells ⟨C'.map (ren g)⟩ ty (0,0))) ?_ ?_
     ·simp only [execOp,ho,he,hey,Instr.storeAt,Instr.sureAddr,storeVar,hcells,Sem.run_bind,Sem.run_pure,Result.andThen_ok,Et hs,List.size_toArray,List.length_map,hlen,ne_eq,not_true_eq_false,if_false,hrun]
     ·have hrel:=Hw (c:= .cs C' ty) hr hl rfl (fun u hu=>by
       rcases He _ _ _ _ hp u hu with h1|h1
       ·have hb:Bnd nx y:=by rw [←hy]; exact tr.bndEv z
        exact hb.cells u h1
       ·exact hr.bnd b _ hl u h1)
      have:=k g _ (fun _ _=>rfl) tr (by simpa [app,Blk.cells,Blk.ty] using hrel) (Clo.undef.bnd _)
      simpa using this
    ·simp at h
  ·rename_i k xs ty n hl hs
   split at h
   ·rename_i k' v'
    cases hc:(kbeq k k'&&Nat.beq n 1) with
    |false=>simp [hc] at h
    | true=>
     simp only [hc,cond_true] at h
     simp only [zB] at hc
     obtain rfl:=ID hc.1
     obtain rfl:=zE hc.2
     injection h with h; subst h
     simp only [Nat.blt_eq] at hneed
     refine ⟨fun W0 out g a w next Q tr hr fr kk=> ?_⟩
     have hm:=hr.mem b _ hl
     have he:a.eval x= .pointer (some ⟨g b,off,none⟩):=by rw [tr.eval hx,hv]; simp
     have hey:a.eval z= .int k v':=by rw [tr.eval hz,hy]; simp
     have hput:putN off [.int k v'] ((Blk.is k xs ty).cells.map (ren g))=some (((Blk.is k xs ty).cells.map (ren g)).set off (.int k v')):=N8 _ _ _ (by simpa [Blk.cells] using hneed)
     have hrun:=Fa (P:=P) (off:=off) (t:=ty) [.int k v'] w _ _ 0 hm hput (by simp)
     refine HX (w':=F7 w (g b) (.cells ⟨((Blk.is k xs ty).cells.map (ren g)).set off (.int k v')⟩ ty (0,0))) ?_ ?_
     ·have hcells:(Value.int k v').cells=⟨[.int k v']⟩:=by simp [Value.cells]
      simp only [execOp,ho,he,hey,Instr.storeAt,Instr.sureAddr,storeVar,hcells,Sem.run_bind,Sem.run_pure,Result.andThen_ok,Et hs,List.size_toArray,List.length_cons,List.length_nil,Nat.zero_add,ne_eq,not_true_eq_false,if_false,hrun]
     ·have hrel:=Hw (c:= .is k (xs.set off v') ty) hr hl rfl (fun u hu=>by
       obtain ⟨m,_,rfl⟩:=List.mem_map.1 hu
       exact fun g1 g2 _=>by simp)
      have he2:(Blk.is k (xs.set off v') ty).cells.map (ren g)=((Blk.is k xs ty).cells.map (ren g)).set off (.int k v'):=by
       simp [Blk.cells,List.map_set]
      rw [he2] at hrel
      have:=kk g _ (fun _ _=>rfl) tr (by simpa [app] using hrel) (Clo.undef.bnd _)
      simpa [Blk.ty] using this
   ·simp at h
  ·simp at h
 ·simp at h
theorem Pa {t:TypeId} {z:Value} (h:Kf P t=some z) (w:World):(Instr.alloc t true (.tuple #[])).run P w= .ok (.pointer (some ⟨w.heap.size,0,none⟩)) (w.alloc (.cells ⟨E0 z⟩ t)):=by
 simp [Instr.alloc,Kl h,newVar,newRow,newObj,Sem.run,GV]
theorem JF {b:Blk} {v:Nat→Value} (hn:nm+16≤nx) (hv:∀g:Nat→Nat,ren g (v nm)=v (g nm)) (hb:∀(W0:World) (out:Nat→Prop) (g:Nat→Nat) (a:Act) (w:World),TRel g T nx a→HRel W0 out g H nx w→Fresh nm T H→
  (∀c∈b.cells,Bnd nx c∧Fr nm c)∧(execOp a.eval o).run P w= .ok (.value (v w.heap.size)) (w.alloc (.cells ⟨b.cells.map (ren g)⟩ b.ty))):Goes P o nm nx T H ⟨v nm,[],[(nm,b)]⟩:=by
 refine ⟨fun W0 out g a w next Q tr hr fr k=> ?_⟩
 obtain ⟨h1,h2⟩:=hb W0 out g a w tr hr fr
 obtain ⟨e,t1,r1⟩:=Q8 (nm:=nm) (n:=nm) (Nat.le_refl _) (by omega) (by omega) tr hr fr h1
 refine Ht h2 ?_
 have hg:gput g nm w.heap.size nm=w.heap.size:=by simp [gput]
 have:=k _ _ e t1 r1 (fun g1 g2 e12=>by rw [hv,hv,e12 nm (by omega)])
 rw [hv,hg] at this
 exact this
theorem OA {t:TypeId} {z:Value} (hn:nm+16≤nx) (ho:o.op= .alloc t) (h:Kf P t=some z) (hc:Clo z):Goes P o nm nx T H ⟨.pointer (some ⟨nm,0,none⟩),[],[(nm,.cs (E0 z) t)]⟩:=by
 refine JF (v:=fun n=> .pointer (some ⟨n,0,none⟩)) hn (fun g=>by simp) fun W0 out g a w tr hr fr=>⟨fun c hcm=>⟨(hc.bnd nx).cells c hcm,((hc.bnd nm).cells c hcm).fr⟩,?_⟩
 have e:(E0 z).map (ren g)=E0 z:=by rw [←Fj,hc g]
 simp only [execOp,ho,Sem.run_bind,Pa h,Result.andThen_ok,Blk.cells,Blk.ty,e,Sem.run_pure]
theorem fr_ev {x:Operand} (fr:Fresh nm T H):Fr nm (ev T x):=by
 cases x with
 | tmp n=>
  rcases Ia T n with hm|hu
  ·exact fr.t _ hm
  ·simp only [ev,hu]; exact fun g g' _=>by simp
 | const v=>
  simp only [ev]
  cases hc:clo 8 v
  ·exact fun g g' _=>by simp
  ·exact ((clo_spec 8 v hc).bnd nm).fr
 |global n=>exact fun g g' _=>by simp [ev]
 |func f=>exact fun g g' _=>by simp [ev]
theorem Fr.cells {v:Value} (h:Fr nm v):∀c∈E0 v,Fr nm c:=by
 intro c hc g g' e
 have:=h g g' e
 have e2:(E0 v).map (ren g)=(E0 v).map (ren g'):=by rw [←Fj,←Fj,this]
 exact Fb e2 c hc
theorem Qw {t:TypeId} {x:Operand} (hn:nm+16≤nx) (ho:o.op= .box t x) (hx:evOk T x=true):Goes P o nm nx T H ⟨.pointer (some ⟨nm,0,none⟩),[],[(nm,.cs (E0 (ev T x)) t)]⟩:=by
 refine JF (v:=fun n=> .pointer (some ⟨n,0,none⟩)) hn (fun g=>by simp) fun W0 out g a w tr hr fr=>⟨fun c hcm=>⟨(tr.bndEv x).cells c hcm,(fr_ev fr).cells c hcm⟩,?_⟩
 simp [execOp,ho,Instr.box,newVar,newRow,newObj,Sem.run,tr.eval hx,JV,Blk.cells,Blk.ty]
theorem K9 {t:TypeId} {len:Nat} {ps:Array (Nat×Operand)} {rc:Rc} (hn:nm+16≤nx) (ho:o.op= .buildSlice t len ps) (hp:∀p∈ps.toList,evOk T p.2=true)
  (h:Gm P nm t len (ps.toList.map fun x=>(x.1,ev T x.2))=some rc):Goes P o nm nx T H rc.r:=by
 unfold Gm at h
 split at h
 ·rename_i e hu
  split at h
  ·rename_i s z hs hz
   cases hc:(Nat.ble (len*s) (2^24)&&Nat.ble 1 (len*s)&&clo 8 z) with
   |false=>simp [hc] at h
   | true=>
    simp only [hc,cond_true] at h
    simp only [zB] at hc
    have h1:len*s≤2^24:=zL hc.1.1
    have h2:1≤len*s:=zL hc.1.2
    have hcz:=clo_spec 8 z hc.2
    split at h
    ·rename_i C hf
     have:=Rc.of_inv h; subst this
     obtain ⟨mb1,mb2⟩:=mkB_eq C e
     refine JF (v:=fun n=> .slice (some ⟨n,0,none⟩) len len) hn (fun g=>by simp) fun W0 out g a w tr hr fr=>⟨?_,?_⟩
     ·intro c hcm
      rw [mb1] at hcm
      rcases Jk _ _ _ hf c hcm with h3|⟨p,hpm,h3⟩
      ·obtain ⟨j,_,rfl⟩:=List.mem_map.1 h3
       have:Clo ((E0 z).getD (j%(E0 z).length) default):=by
        rw [List.getD_eq_getElem?_getD]
        cases hg:(E0 z)[j%(E0 z).length]? with
        |none=>intro g; simp [default,instInhabitedValue.default]
        | some u=>
         intro g
         have e:(E0 z).map (ren g)=E0 z:=by rw [←Fj,hcz g]
         have:=Fb (f:=ren g) (g:=id) (by rw [e]; simp) u (List.mem_of_getElem? hg)
         simpa using this
       exact ⟨this.bnd nx,(this.bnd nm).fr⟩
      ·obtain ⟨q,hq,rfl⟩:=List.mem_map.1 hpm
       exact ⟨(tr.bndEv q.2).cells c h3,(fr_ev fr).cells c h3⟩
     ·rw [mb1,mb2]
      have hparts:(ps.map fun x=>match x with|(i,x)=>(i,a.eval x)).toList=(ps.toList.map fun x=>(x.1,ev T x.2)).map fun x=>(x.1,ren g x.2):=by
       rw [Array.toList_map,List.map_map]
       exact List.map_congr_left fun p hpm=>by
        obtain ⟨i,x⟩:=p
        simp [tr.eval (hp _ hpm)]
      have hz0:∀j,ren g ((E0 z).getD (j%(E0 z).length) default)=(E0 z).getD (j%(E0 z).length) default:=by
       intro j
       rw [List.getD_eq_getElem?_getD]
       cases hg:(E0 z)[j%(E0 z).length]? with
       |none=>simp [default,instInhabitedValue.default]
       | some u=>
        have e:(E0 z).map (ren g)=E0 z:=by rw [←Fj,hcz g]
        have:=Fb (f:=ren g) (g:=id) (by rw [e]; simp) u (List.mem_of_getElem? hg)
        simpa using this
      have hm:=Jl g _ _ _ hf
      have hm':=KR _ _ _ hm
      have hzz:(Array.range (len*s)).map (fun x=>z.cells[x%z.cells.size]!)=⟨((List.range (len*s)).map fun j=>(E0 z).getD (j%(E0 z).length) default).map (ren g)⟩:=by
       apply Array.toList_inj.1
       simp only [Array.toList_map,Array.toList_range,List.map_map]
       refine List.map_congr_left fun j _=> ?_
       rw [Function.comp,hz0 j,GV z]
       simp [List.getD_eq_getElem?_getD]
      have hne:¬(len*s=0):=by omega
      have hnb:¬(len*s>2^24):=by omega
      simp only [execOp,ho,Instr.buildSlice,Sem.run_bind,run_underlying hu,Result.andThen_ok,Et hs,hnb,if_false,hne,Kl hz,Sem.run_pure,hzz,hparts,hm',newRow,newObj,Sem.run,World.alloc_eq]
    ·simp at h
  ·simp at h
 ·simp at h
end
section
variable {P:Program} {o:Oper} {nm nx:Nat} {T:List Value} {H:Heap}
theorem Pd (g:Nat→Nat) {op:UnOp} {x v:Value} (h:RC op x=some v):ren g x=x∧Clo v∧∀w,(Op.unary op x).run P w= .ok v w:=by
 unfold RC at h
 split at h
 ·cases op<;>simp only [zS,reduceCtorEq] at h<;>subst h
  ·exact ⟨by simp,fun g=>by simp,fun w=>by simp [Op.unary,Op.intArith]⟩
  ·exact ⟨by simp,fun g=>by simp,fun w=>by simp [Op.unary,Op.intBits,E6]⟩
 ·cases op<;>simp only [zS,reduceCtorEq] at h
  subst h
  exact ⟨by simp,fun g=>by simp,fun w=>by simp [Op.unary]⟩
 ·simp at h
theorem N5 (g:Nat→Nat) {s d:TypeId} {x v:Value} (h:JJ P s d x=some v):ren g x=x∧Clo v∧∀w,(convert s d x).run P w= .ok v w:=by
 unfold JJ at h
 split at h
 ·split at h
  ·rename_i h1 h2
   injection h with h; subst h
   exact ⟨by simp,fun g=>by simp,fun w=>by simp [convert,run_underlying h1,run_underlying h2,Conv.intToInt]⟩
  ·simp at h
 ·split at h
  ·rename_i h1 h2
   injection h with h; subst h
   exact ⟨by simp,fun g=>by simp,fun w=>by simp [convert,run_underlying h1,run_underlying h2]⟩
  ·simp at h
 ·simp at h
theorem Qn (g:Nat→Nat) {t:TypeId} {ts:List TypeId} {x v:Value} {r:List Value} (h:lenA P t x=some v):Clo v∧∀ty w,(Builtin.len_ ⟨t::ts⟩ ty ⟨ren g x::r⟩).run P w= .ok v w:=by
 unfold lenA at h
 split at h
 ·split at h
  ·rename_i hu
   injection h with h; subst h
   exact ⟨fun g=>by simp,fun ty w=>by simp [Builtin.len_,run_underlying hu,goInt]⟩
  ·simp at h
 ·rename_i a n c
  split at h
  ·rename_i hu
   injection h with h; subst h
   refine ⟨fun g=>by simp,fun ty w=> ?_⟩
   rcases a with _|⟨b',o',_|s'⟩<;>simp [Builtin.len_,run_underlying hu,goInt]
  ·simp at h
 ·simp at h
theorem L5 (mx:Bool):∀(xs:List Value) (k:IntKind) (x:Int) (v:Value),minA mx (.int k x) xs=some v→
  (∀g,xs.map (ren g)=xs)∧Clo v∧∀w:World,(xs.foldlM (if mx=true then Builtin.max2 else Builtin.min2) (.int k x)).run P w= .ok v w
 | [],k,x,v,h=>by
  simp only [minA,zS] at h
  subst h
  exact ⟨fun g=>rfl,fun g=>by simp,fun w=>by simp⟩
 | y ::ys,k,x,v,h=>by
  cases y with
  | int k' y=>
   simp only [minA] at h
   cases hk:kbeq k k' with
   |false=>simp [hk] at h
   | true=>
    have:=ID hk
    subst this
    simp only [hk,cond_true] at h
    obtain ⟨h1,h2,h3⟩:=L5 mx ys k _ v h
    refine ⟨fun g=>by simp [h1 g],h2,fun w=> ?_⟩
    cases mx with
    |true=>simpa [Builtin.max2] using h3 w
    |false=>simpa [Builtin.min2] using h3 w
  |_=>simp [minA] at h
theorem LM (g:Nat→Nat) {b:Builtin} {ts:List TypeId} {xs:List Value} {v:Value} (h:HN P b ts xs=some v):
  Clo v∧∀(ty:TypeId) (cs:Array Bool) (w:World),(builtin b ⟨ts⟩ ty cs ⟨xs.map (ren g)⟩).run P w= .ok (.value v) w:=by
 unfold HN at h
 split at h
 ·split at h
  ·rename_i t ts' x xs'
   obtain ⟨h1,h2⟩:=Qn (P:=P) g (ts:=ts') (r:=xs'.map (ren g)) h
   exact ⟨h1,fun ty cs w=>by simp [builtin,h2]⟩
  ·simp at h
 ·split at h
  ·rename_i k x r
   obtain ⟨h1,h2,h3⟩:=L5 (P:=P) false r k x v h
   refine ⟨h2,fun ty cs w=> ?_⟩
   have:=h3 w
   simp only [Bool.false_eq_true,if_false] at this
   simp [builtin,Builtin.min_,h1 g,this]
  ·simp at h
 ·split at h
  ·rename_i k x r
   obtain ⟨h1,h2,h3⟩:=L5 (P:=P) true r k x v h
   refine ⟨h2,fun ty cs w=> ?_⟩
   have:=h3 w
   simp only [if_true] at this
   simp [builtin,Builtin.max_,h1 g,this]
  ·simp at h
 ·simp at h
theorem RA (g:Nat→Nat) (t:TypeId) (x:Value):eqOk P t (ren g x)=eqOk P t x:=by
 cases x with
 |agg cs=>obtain ⟨l⟩:=cs; simp [eqOk]
 |pointer a=>rcases a with _|⟨b',o',_|s'⟩<;>simp [eqOk]
 |slice a l c=>rcases a with _|⟨b',o',_|s'⟩<;>simp [eqOk]
 |func fn f c=>obtain ⟨f⟩:=f; obtain ⟨c⟩:=c; simp [eqOk]
 |tuple cs=>obtain ⟨l⟩:=cs; simp [eqOk]
 |_=>simp [ren,eqOk]
theorem PH (g:Nat→Nat):∀(d:Nat) (t:TypeId) (x y:Value) (b:Bool),eqv P d t x y=some b→eqv P d t (ren g x) (ren g y)=some b:=by
 intro d
 induction d with
 |zero=>intro t x y b h; simp [eqv] at h
 | succ d ih =>
  intro t x y b h
  unfold eqv at h ⊢
  split at h
  ·split at h
   ·simp [*]
   ·simp at h
  ·split at h
   ·simp [*]
   ·simp at h
  ·split at h
   ·simp [*]
   ·simp at h
  ·rename_i fs hu
   split at h
   ·rename_i xs ys
    cases hs:P.stoodInHeld t with
    |true=>simp [hs] at h
    | false =>
     simp only [hs,cond_false] at h
     simp only [ren_agg,cond_false]
     have key:∀(l:List Field) (b:Bool),eqf P (eqv P d) xs ys l=some b→eqf P (eqv P d) (xs.map (ren g)) (ys.map (ren g)) l=some b:=by
      intro l
      induction l with
      |nil=>intro b h; simpa [eqf] using h
      | cons f l ihl=>
       intro b h
       unfold eqf at h ⊢
       cases hn:(f.name== "_") with
       |true=>simp [hn] at h
       | false =>
        simp only [hn,cond_false] at h ⊢
        split at h
        ·rename_i u v hu' hv'
         simp only [Fm g hu',Fm g hv']
         split at h
         ·rename_i r hr
          simp only [ih _ _ _ _ hr]
          split at h
          ·exact h
          ·rename_i l' hl'
           split at h
           ·rename_i r' hr'
            have:=ihl _ hr'
            cases l with
            |nil=>exact absurd rfl hl'
            |cons f2 l2=>simp only [this]; exact h
           ·simp at h
         ·simp at h
        ·simp at h
     exact key _ _ h
   ·simp at h
  ·rename_i n el hu
   split at h
   ·rename_i xs ys
    split at h
    ·rename_i c hc
     simp only [ren_agg]
     have key:∀(l:List Nat) (b:Bool),eqi P (eqv P d) el c xs ys l=some b→eqi P (eqv P d) el c (xs.map (ren g)) (ys.map (ren g)) l=some b:=by
      intro l
      induction l with
      |nil=>intro b h; simpa [eqi] using h
      | cons i l ihl=>
       intro b h
       unfold eqi at h ⊢
       split at h
       ·rename_i u v hu' hv'
        simp only [Fm g hu',Fm g hv']
        split at h
        ·rename_i r hr
         simp only [ih _ _ _ _ hr]
         split at h
         ·exact h
         ·rename_i l' hl'
          split at h
          ·rename_i r' hr'
           have:=ihl _ hr'
           cases l with
           |nil=>exact absurd rfl hl'
           |cons f2 l2=>simp only [this]; exact h
          ·simp at h
        ·simp at h
       ·simp at h
     exact key _ _ h
    ·simp at h
   ·simp at h
  ·simp at h
theorem RV (g:Nat→Nat) {t:TypeId} {op:BinOp} {x y:Value} {n:Bool} {v:Value} (h:binA P t op x y=some (n,v)):binA P t op (ren g x) (ren g y)=some (n,v)∧Clo v:=by
 cases x with
 | int k a=>
  cases y with
  | int k' b=>
   refine ⟨by simpa using h,?_⟩
   have key:∀op,(bif kbeq k k' then binI k a b op else none)=some (n,v)→Clo v:=fun op h g=>by
    cases hk:kbeq k k' with
    |false=>simp [hk] at h
    | true=>
     simp only [hk,cond_true] at h
     cases op<;>simp only [binI,zS,zP,reduceCtorEq] at h<;>(obtain ⟨_,rfl⟩:=h; simp)
   cases op<;>first
    |exact key _ h
    |(simp only [binA,zS,zP] at h; obtain ⟨_,rfl⟩:=h; exact fun g=>by simp)
  |_=>simp [binA] at h
 | string a=>
  cases y with
  | string b=>
   refine ⟨by simpa using h,?_⟩
   simp only [binA] at h
   cases op<;>simp only [binS,zS,zP,reduceCtorEq] at h<;>(obtain ⟨_,rfl⟩:=h; exact fun g=>by simp)
  |_=>simp [binA] at h
 | bool a=>
  cases y with
  | bool b=>
   refine ⟨by simpa using h,?_⟩
   cases hb:KN P t with
   |false=>simp [binA,hb] at h
   |true=>cases op<;>simp only [binA,hb,cond_true,zS,zP,reduceCtorEq] at h<;>(obtain ⟨_,rfl⟩:=h; exact fun g=>by simp)
  |_=>simp [binA] at h
 | agg xs=>
  cases y with
  | agg ys=>
   obtain ⟨xs⟩:=xs
   obtain ⟨ys⟩:=ys
   cases op<;>simp only [binA,Option.map_eq_some_iff,zP,reduceCtorEq] at h
   ·obtain ⟨b,hb,rfl,rfl⟩:=h
    have:=PH g _ _ _ _ _ hb
    rw [ren_agg,ren_agg] at this
    exact ⟨by simp [binA,this],fun g=>by simp⟩
   ·obtain ⟨b,hb,rfl,rfl⟩:=h
    have:=PH g _ _ _ _ _ hb
    rw [ren_agg,ren_agg] at this
    exact ⟨by simp [binA,this],fun g=>by simp⟩
  |_=>simp [binA] at h
 |_=>simp [binA] at h
theorem O9 {t:TypeId} {x i:Operand} {u v:Value} {rc:Rc} (ho:o.op= .indexAddr t x i) (hx:evOk T x=true) (hi:evOk T i=true) (hu:ev T x=u) (hv:ev T i=v) (h:GH P t u v=some rc) (hn:rc.need=true):Goes P o nm nx T H rc.r:=by
 unfold GH at h
 simp only [GD] at h
 split at h
 ·rename_i b off len cap k n
  split at h
  ·rename_i e ht
   split at h
   ·rename_i s hs
    injection h with h; subst h
    simp only [zB,zD] at hn
    refine Goes.pure fun W0 out g a w tr hr=>⟨?_,?_⟩
    ·have:=tr.bndEv x
     rw [hu] at this
     intro g1 g2 e12
     have:=this g1 g2 e12
     simp only [Fk,Value.slice.injEq,zS,Addr.mk.injEq,and_true] at this
     simp [this]
    ·have hex:a.eval x= .slice (some ⟨g b,off,none⟩) len cap:=by rw [tr.eval hx,hu]; simp
     have hei:a.eval i= .int k n:=by rw [tr.eval hi,hv]; simp
     simp [execOp,ho,hex,hei,Instr.indexAt,asIntOf,run_underlying ht,Et hs,hn.1,hn.2,FN]
   ·simp at h
  ·simp at h
 ·rename_i b off k n
  split at h
  ·rename_i len e ht
   split at h
   ·rename_i s hs
    injection h with h; subst h
    simp only [zB,zD] at hn
    refine Goes.pure fun W0 out g a w tr hr=>⟨?_,?_⟩
    ·have:=tr.bndEv x
     rw [hu] at this
     intro g1 g2 e12
     have:=this g1 g2 e12
     simp only [Iv,Value.pointer.injEq,zS,Addr.mk.injEq,and_true] at this
     simp [this]
    ·have hex:a.eval x= .pointer (some ⟨g b,off,none⟩):=by rw [tr.eval hx,hu]; simp
     have hei:a.eval i= .int k n:=by rw [tr.eval hi,hv]; simp
     simp [execOp,ho,hex,hei,Instr.indexAt,Instr.sureAddr,asIntOf,run_underlying ht,Et hs,hn.1,hn.2,FN]
   ·simp at h
  ·simp at h
 ·simp at h
theorem Pu {t:TypeId} {x i:Operand} {u v:Value} {rc:Rc} (ho:o.op= .index t x i) (hx:evOk T x=true) (hi:evOk T i=true) (hu:ev T x=u) (hv:ev T i=v) (h:LL P t u v=some rc) (hn:rc.need=true):Goes P o nm nx T H rc.r:=by
 unfold LL at h
 split at h
 ·rename_i C k n
  split at h
  ·rename_i len e ht
   split at h
   ·rename_i s hs
    split at h
    ·rename_i y hy
     injection h with h; subst h
     simp only [zB,zD] at hn
     refine Goes.pure fun W0 out g a w tr hr=>⟨I1 hy (by have:=tr.bndEv x; rw [hu] at this; exact this.of_agg),?_⟩
     have hex:a.eval x= .agg ⟨C.map (ren g)⟩:=by rw [tr.eval hx,hu]; simp
     have hei:a.eval i= .int k n:=by rw [tr.eval hi,hv]; simp
     simp [execOp,ho,hex,hei,Instr.index,asIntOf,run_underlying ht,Et hs,hn.1,hn.2,Gw (Fm g hy)]
    ·simp at h
   ·simp at h
  ·simp at h
 ·rename_i s k n
  split at h
  ·rename_i ht
   injection h with h; subst h
   simp only [zB,zD] at hn
   refine Goes.pure fun W0 out g a w tr hr=>⟨fun g1 g2 _=>by simp,?_⟩
   have hex:a.eval x= .string s:=by rw [tr.eval hx,hu]; simp
   have hei:a.eval i= .int k n:=by rw [tr.eval hi,hv]; simp
   have hlt:n.toNat<s.size:=by omega
   have hb:s[n.toNat]? =some (s.data.toList.getD n.toNat 0):=by
    rw [getElem?_pos s n.toNat hlt]
    congr 1
    have:n.toNat<s.data.toList.length:=by simpa using hlt
    rw [List.getD_eq_getElem?_getD,List.getElem?_eq_getElem this]
    rfl
   simp only [execOp,ho,hex,hei,Instr.index,asIntOf,Sem.run_bind,Sem.run_pure,Result.andThen_ok,run_underlying ht,hn.1,if_true,hb,Ix]
  ·simp at h
 ·simp at h
theorem goes_op (hn:nm+16≤nx) {rc:Rc} (h:GU P nm o T H=some rc) (hneed:rc.need=true):Goes P o nm nx T H rc.r:=by
 unfold GU at h
 cases hall:o.op.operands.toList.all (evOk T) with
 |false=>simp [hall] at h
 | true=>
  simp only [hall,cond_true] at h
  rw [List.all_eq_true] at hall
  split at h
  ·rename_i x ho
   have hx:evOk T x=true:=hall x (by simp [ho,Op.operands])
   have:=Rc.of_inv h; subst this
   exact Goes.pure fun W0 out g a w tr hr=>⟨tr.bndEv x,by simp [execOp,ho,tr.eval hx]⟩
  ·rename_i x ho
   have hx:evOk T x=true:=hall x (by simp [ho,Op.operands])
   have:=Rc.of_inv h; subst this
   exact Goes.pure fun W0 out g a w tr hr=>⟨tr.bndEv x,by simp [execOp,ho,tr.eval hx]⟩
  ·rename_i c x y ho
   have hc:evOk T c=true:=hall c (by simp [ho,Op.operands])
   have hx:evOk T x=true:=hall x (by simp [ho,Op.operands])
   have hy:evOk T y=true:=hall y (by simp [ho,Op.operands])
   split at h
   ·rename_i t ht
    have:=Rc.of_inv h; subst this
    refine Goes.pure fun W0 out g a w tr hr=>⟨RR (tr.bndEv x) (tr.bndEv y),?_⟩
    have hec:a.eval c= .bool t:=by rw [tr.eval hc,ht]; simp
    simp only [execOp,ho,hec,asBool,Sem.run_bind,Sem.run_pure,Result.andThen_ok,tr.eval hx,tr.eval hy,QU]
   ·simp at h
  ·rename_i t ho
   split at h
   ·rename_i z hz
    cases hc:clo 8 z with
    |false=>simp [hc] at h
    | true=>
     simp only [hc,cond_true] at h
     have:=Rc.of_inv h; subst this
     exact OA hn ho hz (clo_spec 8 z hc)
   ·simp at h
  ·rename_i t x ho
   have hx:evOk T x=true:=hall x (by simp [ho,Op.operands])
   have:=Rc.of_inv h; subst this
   exact Qw hn ho hx
  ·rename_i t x ho
   have hx:evOk T x=true:=hall x (by simp [ho,Op.operands])
   exact Pt ho hx rfl h hneed
  ·rename_i t x y ho
   have hx:evOk T x=true:=hall x (by simp [ho,Op.operands])
   have hy:evOk T y=true:=hall y (by simp [ho,Op.operands])
   exact O6 ho hx hy rfl rfl h hneed
  ·rename_i t ps ho
   have hp:∀p∈ps.toList,evOk T p.2=true:=fun p hp=>hall p.2 (by simp only [ho,Op.operands]; exact List.mem_map.2 ⟨p,hp,rfl⟩)
   split at h
   ·rename_i pl z hpl
    cases hz:z.all (clo 8) with
    |false=>simp [hz] at h
    | true=>
     simp only [hz,cond_true] at h
     rw [List.all_eq_true] at hz
     split at h
     ·rename_i C hf
      have:=Rc.of_inv h; subst this
      have hzc:∀c∈z,Clo c:=fun c hc=>clo_spec 8 c (hz c hc)
      refine Goes.pure fun W0 out g a w tr hr=>⟨Bnd.agg fun c hc=> ?_,?_⟩
      ·rcases Jk _ _ _ hf c hc with h3|⟨p,hpm,h3⟩
       ·exact (hzc c h3).bnd nx
       ·obtain ⟨q,hq,rfl⟩:=List.mem_map.1 hpm
        exact (tr.bndEv q.2).cells c h3
      ·have hparts:(ps.map fun x=>match x with|(i,x)=>(i,a.eval x)).toList=(ps.toList.map fun x=>(x.1,ev T x.2)).map fun x=>(x.1,ren g x.2):=by
        rw [Array.toList_map,List.map_map]
        exact List.map_congr_left fun p hpm=>by
         obtain ⟨i,x⟩:=p
         simp [tr.eval (hp _ hpm)]
       have hm:=Jl g _ _ _ hf
       have hz':z.map (ren g)=z:=by
        calc z.map (ren g)=z.map id:=List.map_congr_left fun c hc=>hzc c hc g
         _=z:=by simp
       rw [hz'] at hm
       have hb:=RQ hpl hm
       rw [←hparts] at hb
       simp [execOp,ho,run_build w t _ _ hb]
     ·simp at h
   ·simp at h
  ·rename_i t len ps ho
   have hp:∀p∈ps.toList,evOk T p.2=true:=fun p hp=>hall p.2 (by simp only [ho,Op.operands]; exact List.mem_map.2 ⟨p,hp,rfl⟩)
   exact K9 hn ho hp h
  ·rename_i t x f ho
   have hx:evOk T x=true:=hall x (by simp [ho,Op.operands])
   unfold NU at h
   split at h
   ·rename_i C hC
    split at h
    ·rename_i fd hf
     split at h
     ·rename_i v hv
      have:=Rc.of_inv h; subst this
      obtain ⟨fs,hu,hfs⟩:=Jw hf
      refine Goes.pure fun W0 out g a w tr hr=>⟨I1 hv (by have:=tr.bndEv x; rw [hC] at this; exact this.of_agg),?_⟩
      have hex:a.eval x= .agg ⟨C.map (ren g)⟩:=by rw [tr.eval hx,hC]; simp
      simp [execOp,ho,hex,Instr.field,run_underlying hu,hfs,asAgg,Gw (Fm g hv)]
     ·simp at h
    ·simp at h
   ·simp at h
  ·rename_i t x f ho
   have hx:evOk T x=true:=hall x (by simp [ho,Op.operands])
   unfold JI at h
   split at h
   ·rename_i b off hb
    split at h
    ·rename_i fd hf
     split at h
     ·rename_i n hs
      have:=Rc.of_inv h; subst this
      obtain ⟨fs,hu,hfs⟩:=Jw hf
      refine Goes.pure fun W0 out g a w tr hr=>⟨?_,?_⟩
      ·have:=tr.bndEv x
       rw [hb] at this
       intro g1 g2 e12
       have:=this g1 g2 e12
       simp only [Iv,Value.pointer.injEq,zS,Addr.mk.injEq,and_true] at this
       simp [this]
      ·have hex:a.eval x= .pointer (some ⟨g b,off,none⟩):=by rw [tr.eval hx,hb]; simp
       simp [execOp,ho,hex,Instr.fieldAt,run_underlying hu,hfs,Instr.sureAddr,fieldPlace,Et hs,FN]
     ·simp at h
    ·simp at h
   ·simp at h
  ·rename_i t x i ho
   have hx:evOk T x=true:=hall x (by simp [ho,Op.operands])
   have hi:evOk T i=true:=hall i (by simp [ho,Op.operands])
   exact O9 ho hx hi rfl rfl h hneed
  ·rename_i t x i ho
   have hx:evOk T x=true:=hall x (by simp [ho,Op.operands])
   have hi:evOk T i=true:=hall i (by simp [ho,Op.operands])
   exact Pu ho hx hi rfl rfl h hneed
  ·rename_i x i ho
   have hx:evOk T x=true:=hall x (by simp [ho,Op.operands])
   split at h
   ·rename_i vs hvs
    split at h
    ·rename_i v hv
     have:=Rc.of_inv h; subst this
     refine Goes.pure fun W0 out g a w tr hr=>⟨?_,?_⟩
     ·have:=tr.bndEv x
      rw [hvs] at this
      exact this.of_tuple v (List.mem_of_getElem? hv)
     ·have hex:a.eval x= .tuple ⟨vs.map (ren g)⟩:=by rw [tr.eval hx,hvs]; simp
      simp [execOp,ho,hex,Instr.extract,hv]
    ·simp at h
   ·simp at h
  ·rename_i x ho
   have hx:evOk T x=true:=hall x (by simp [ho,Op.operands])
   split at h
   ·rename_i ad hv
    have:=Rc.of_inv h; subst this
    refine Goes.pure fun W0 out g a w tr hr=>⟨by have:=tr.bndEv x; rwa [hv] at this,?_⟩
    have hex:a.eval x=ren g (.pointer (some ad)):=by rw [tr.eval hx,hv]
    obtain ⟨b',o',_|s'⟩:=ad<;>simp [execOp,ho,hex]
   ·simp at h
  ·rename_i op t x y yt ho
   have hx:evOk T x=true:=hall x (by simp [ho,Op.operands])
   have hy:evOk T y=true:=hall y (by simp [ho,Op.operands])
   cases hc:(eqOk P t (ev T x)&&Nat.ble 10 P.depth) with
   |false=>simp [hc] at h
   | true=>
    simp only [hc,cond_true] at h
    simp only [zB] at hc
    split at h
    ·rename_i n v hb
     injection h with h; subst h
     refine Goes.pure fun W0 out g a w tr hr=> ?_
     obtain ⟨h1,h2⟩:=RV g hb
     refine ⟨h2.bnd nx,?_⟩
     have:=QT x y (zL hc.2) h1 hneed (by rw [RA]; exact hc.1) w
     simp only [execOp,ho,tr.eval hx,tr.eval hy]
     rw [Sem.run_bind,this]
     simp [h2 g]
    ·simp at h
  ·rename_i op t x ho
   have hx:evOk T x=true:=hall x (by simp [ho,Op.operands])
   split at h
   ·rename_i v hv
    have:=Rc.of_inv h; subst this
    refine Goes.pure fun W0 out g a w tr hr=> ?_
    obtain ⟨h1,h2,h3⟩:=Pd (P:=P) g hv
    refine ⟨h2.bnd nx,?_⟩
    simp [execOp,ho,tr.eval hx,h1,h3,h2 g]
   ·simp at h
  ·rename_i s d x ho
   have hx:evOk T x=true:=hall x (by simp [ho,Op.operands])
   split at h
   ·rename_i v hv
    have:=Rc.of_inv h; subst this
    refine Goes.pure fun W0 out g a w tr hr=> ?_
    obtain ⟨h1,h2,h3⟩:=N5 (P:=P) g hv
    refine ⟨h2.bnd nx,?_⟩
    simp [execOp,ho,tr.eval hx,h1,h3,h2 g]
   ·simp at h
  ·rename_i fn f c ho
   have hf:∀x∈f.toList,evOk T x=true:=fun x hx=>hall x (by simp [ho,Op.operands]; exact .inl (by simpa using hx))
   have hc:∀x∈c.toList,evOk T x=true:=fun x hx=>hall x (by simp [ho,Op.operands]; exact .inr (by simpa using hx))
   have:=Rc.of_inv h; subst this
   refine Goes.pure fun W0 out g a w tr hr=>⟨Bnd.func ?_ ?_,?_⟩
   ·intro v hv; obtain ⟨x,_,rfl⟩:=List.mem_map.1 hv; exact tr.bndEv x
   ·intro v hv; obtain ⟨x,_,rfl⟩:=List.mem_map.1 hv; exact tr.bndEv x
   ·have e1:f.map a.eval=⟨(f.toList.map (ev T)).map (ren g)⟩:=by
     apply Array.toList_inj.1
     rw [Array.toList_map,List.map_map]
     exact List.map_congr_left fun x hx=>tr.eval (hf x hx)
    have e2:c.map a.eval=⟨(c.toList.map (ev T)).map (ren g)⟩:=by
     apply Array.toList_inj.1
     rw [Array.toList_map,List.map_map]
     exact List.map_congr_left fun x hx=>tr.eval (hc x hx)
    simp only [execOp,ho,Instr.makeFunc,e1,e2,Ff,Sem.run_bind,Sem.run_pure,Result.andThen_ok]
  ·rename_i c ho
   split at h
   ·rename_i b hb
    split at h
    ·rename_i v hv
     have:=Rc.of_inv h; subst this
     have hargs:∀x∈c.args.toList,evOk T x=true:=fun x hx=>hall x (by simp [ho,Op.operands,Call.operands,hb]; simpa using hx)
     refine Goes.pure fun W0 out g a w tr hr=> ?_
     have e1:c.args.map a.eval=⟨(c.args.toList.map (ev T)).map (ren g)⟩:=by
      apply Array.toList_inj.1
      rw [Array.toList_map,List.map_map]
      exact List.map_congr_left fun x hx=>tr.eval (hargs x hx)
     have e2:c.argTypes=⟨c.argTypes.toList⟩:=rfl
     obtain ⟨h1,h2⟩:=LM (P:=P) g hv
     refine ⟨h1.bnd nx,?_⟩
     simp only [execOp,ho,resolve,hb,Sem.run_bind,Sem.run_pure,Result.andThen_ok,invoke,e1]
     rw [e2,h2,h1 g]
    ·simp at h
   ·simp at h
  ·simp at h
end
end RX
end
