/- RX, part 2: what one operation comes to, and that the machine's operation comes to the same. -/
import Derived.Test.YtgfjidlckocflaaDoorRX1
namespace RX
open Go Go.RowKit

structure Rec where
  v : Value
  rs : List Nat
  ws : List (Nat × Blk)

def tAgg (P : Program) (t : TypeId) : Option Bool :=
  match P.underlying t with
  | some (.struct _) => some true
  | some (.array _ _) => some true
  | some _ => some false
  | none => none
def tSize (P : Program) (t : TypeId) : Option Nat := (P.info? t).map (·.size)
def tZero (P : Program) (t : TypeId) : Option Value := (P.info? t).bind (·.zero)

def cellsL : Value → List Value
  | .agg ⟨l⟩ => l
  | v => [v]
theorem cells_eq (v : Value) : v.cells = ⟨cellsL v⟩ := by
  cases v <;> simp [Value.cells, cellsL]
theorem ren_cells (g : Nat → Nat) (v : Value) : (ren g v).cells = ⟨(cellsL v).map (ren g)⟩ := by
  cases v with
  | agg cs => obtain ⟨l⟩ := cs; simp [cellsL, Value.cells]
  | pointer a => rcases a with _ | ⟨b', o', _ | s'⟩ <;> simp [cellsL, Value.cells]
  | slice a l c => rcases a with _ | ⟨b', o', _ | s'⟩ <;> simp [cellsL, Value.cells]
  | func fn f c => obtain ⟨f⟩ := f; obtain ⟨c⟩ := c; simp [cellsL, Value.cells]
  | tuple cs => obtain ⟨l⟩ := cs; simp [cellsL, Value.cells]
  | _ => simp [cellsL, Value.cells, ren]
theorem Bnd.cells {b : Nat} {v : Value} (h : Bnd b v) : ∀ c ∈ cellsL v, Bnd b c := by
  cases v with
  | agg cs => obtain ⟨l⟩ := cs; exact h.of_agg
  | _ => intro c hc; simp only [cellsL, List.mem_singleton] at hc; subst hc; exact h

/-- May it lie in one cell? -/
def cellOk : Value → Bool
  | .agg _ => false
  | .tuple _ => false
  | _ => true
theorem cellOk_ren (g : Nat → Nat) (v : Value) (h : cellOk v = true) : (∀ x, ren g v ≠ .agg x) ∧ (∀ x, ren g v ≠ .tuple x) := by
  cases v with
  | agg cs => simp [cellOk] at h
  | tuple cs => simp [cellOk] at h
  | pointer a => rcases a with _ | ⟨b', o', _ | s'⟩ <;> simp
  | slice a l c => rcases a with _ | ⟨b', o', _ | s'⟩ <;> simp
  | func fn f c => obtain ⟨f⟩ := f; obtain ⟨c⟩ := c; simp
  | _ => simp [ren]

def takeN : Nat → Nat → List Value → Option (List Value)
  | 0, 0, _ => some []
  | 0, n + 1, v :: r => (takeN 0 n r).map (v :: ·)
  | 0, _ + 1, [] => none
  | o + 1, n, _ :: r => takeN o n r
  | _ + 1, _, [] => none
def putN : Nat → List Value → List Value → Option (List Value)
  | 0, [], r => some r
  | 0, x :: xs, _ :: r => (putN 0 xs r).map (x :: ·)
  | 0, _ :: _, [] => none
  | o + 1, xs, v :: r => (putN o xs r).map (v :: ·)
  | _ + 1, _, [] => none

theorem takeN_spec : ∀ (o n : Nat) (l r : List Value), takeN o n l = some r → r = (l.drop o).take n ∧ o + n ≤ l.length
  | 0, 0, l, r, h => by simp [takeN] at h; simp [h]
  | 0, n + 1, v :: l, r, h => by
    simp only [takeN, Option.map_eq_some_iff] at h
    obtain ⟨r', h', rfl⟩ := h
    obtain ⟨h1, h2⟩ := takeN_spec 0 n l r' h'
    simp only [List.drop_zero, List.length_cons] at *
    exact ⟨by rw [List.take_succ_cons, ← h1], by omega⟩
  | 0, n + 1, [], r, h => by simp [takeN] at h
  | o + 1, n, v :: l, r, h => by
    simp only [takeN] at h
    obtain ⟨h1, h2⟩ := takeN_spec o n l r h
    simp only [List.drop_succ_cons, List.length_cons]
    exact ⟨h1, by omega⟩
  | o + 1, n, [], r, h => by simp [takeN] at h
theorem putN_nil : ∀ (o : Nat) (l r : List Value), putN o [] l = some r → r = l
  | 0, l, r, h => by simp [putN] at h; exact h.symm
  | o + 1, v :: l, r, h => by
    simp only [putN, Option.map_eq_some_iff] at h
    obtain ⟨r', h', rfl⟩ := h
    rw [putN_nil o l r' h']
  | o + 1, [], r, h => by simp [putN] at h
theorem putN_cons : ∀ (o : Nat) (x : Value) (xs l r : List Value), putN o (x :: xs) l = some r → o < l.length ∧ putN (o + 1) xs (l.set o x) = some r
  | 0, x, xs, v :: l, r, h => by
    simp only [putN] at h
    exact ⟨by simp, by simpa [putN] using h⟩
  | 0, x, xs, [], r, h => by simp [putN] at h
  | o + 1, x, xs, v :: l, r, h => by
    simp only [putN, Option.map_eq_some_iff] at h
    obtain ⟨r', h', rfl⟩ := h
    obtain ⟨h1, h2⟩ := putN_cons o x xs l r' h'
    exact ⟨by simpa using h1, by simp [putN, h2]⟩
  | o + 1, x, xs, [], r, h => by simp [putN] at h
theorem putN_mem : ∀ (o : Nat) (xs l r : List Value), putN o xs l = some r → ∀ v ∈ r, v ∈ xs ∨ v ∈ l
  | 0, [], l, r, h => by simp [putN] at h; subst h; exact fun v hv => .inr hv
  | 0, x :: xs, y :: l, r, h => by
    simp only [putN, Option.map_eq_some_iff] at h
    obtain ⟨r', h', rfl⟩ := h
    intro v hv
    cases hv with
    | head => exact .inl (by simp)
    | tail _ hm => rcases putN_mem 0 xs l r' h' v hm with h | h <;> simp [h]
  | 0, x :: xs, [], r, h => by simp [putN] at h
  | o + 1, xs, y :: l, r, h => by
    simp only [putN, Option.map_eq_some_iff] at h
    obtain ⟨r', h', rfl⟩ := h
    intro v hv
    cases hv with
    | head => exact .inr (by simp)
    | tail _ hm => rcases putN_mem o xs l r' h' v hm with h | h <;> simp [h]
  | o + 1, xs, [], r, h => by simp [putN] at h
theorem putN_map (f : Value → Value) : ∀ (o : Nat) (xs l r : List Value), putN o xs l = some r → putN o (xs.map f) (l.map f) = some (r.map f)
  | 0, [], l, r, h => by simp [putN] at h; subst h; simp [putN]
  | 0, x :: xs, y :: l, r, h => by
    simp only [putN, Option.map_eq_some_iff] at h
    obtain ⟨r', h', rfl⟩ := h
    simp [putN, putN_map f 0 xs l r' h']
  | 0, x :: xs, [], r, h => by simp [putN] at h
  | o + 1, xs, y :: l, r, h => by
    simp only [putN, Option.map_eq_some_iff] at h
    obtain ⟨r', h', rfl⟩ := h
    simp [putN, putN_map f o xs l r' h']
  | o + 1, xs, [], r, h => by simp [putN] at h

/-! ### names that are not met -/
/-- What 'ren' makes of the value does not hang on the names from nm on, sixteen of them. -/
def Fr (nm : Nat) (v : Value) : Prop := ∀ g g' : Nat → Nat, (∀ n, n < nm ∨ nm + 16 ≤ n → g n = g' n) → ren g v = ren g' v
theorem Bnd.fr {nm : Nat} {v : Value} (h : Bnd nm v) : Fr nm v := fun g g' e => h g g' fun n hn => e n (.inl hn)
structure Fresh (nm : Nat) (T : List Value) (H : Heap) : Prop where
  t : ∀ v ∈ T, Fr nm v
  h : ∀ n b, look H n = some b → (n < nm ∨ nm + 16 ≤ n) ∧ ∀ v ∈ b.cells, Fr nm v

def app (ws : List (Nat × Blk)) (H : Heap) : Heap := ws.foldl (fun H x => upd H x.1 x.2) H

/-- An operation, the machine's way. -/
structure Goes (P : Program) (o : Oper) (nm nx : Nat) (T : List Value) (H : Heap) (r : Rec) : Prop where
  go : ∀ (W0 : World) (out : Nat → Prop) (g : Nat → Nat) (a : Act) (w : World) (next : Act → World → Prop) (Q : Exit → Act → World → Prop),
    TRel g T nx a → HRel W0 out g H nx w → Fresh nm T H →
    (∀ (g' : Nat → Nat) (w' : World), (∀ n, n < nm ∨ nm + 16 ≤ n → g n = g' n) → TRel g' T nx a → HRel W0 out g' (app r.ws H) nx w' → Bnd nx r.v → next (a.put o.dst (ren g' r.v)) w') →
    o.wp P a w next Q

theorem wp_of_run {P : Program} {o : Oper} {a : Act} {w w' : World} {u : Value} {next : Act → World → Prop} {Q : Exit → Act → World → Prop}
    (h : (execOp a.eval o).run P w = .ok (.value u) w') (k : next (a.put o.dst u) w') : o.wp P a w next Q := by
  unfold Oper.wp
  rw [h]
  exact k
theorem wp_of_run_skip {P : Program} {o : Oper} {a : Act} {w w' : World} {next : Act → World → Prop} {Q : Exit → Act → World → Prop}
    (h : (execOp a.eval o).run P w = .ok .skip w') (k : next (a.put o.dst undef) w') : o.wp P a w next Q := by
  unfold Oper.wp
  rw [h]
  exact k

/-- An operation that yields a value and leaves the world alone. -/
theorem Goes.pure {P : Program} {o : Oper} {nm nx : Nat} {T : List Value} {H : Heap} {v : Value} {rs : List Nat}
    (h : ∀ (W0 : World) (out : Nat → Prop) (g : Nat → Nat) (a : Act) (w : World), TRel g T nx a → HRel W0 out g H nx w → Bnd nx v ∧ (execOp a.eval o).run P w = .ok (.value (ren g v)) w) :
    Goes P o nm nx T H ⟨v, rs, []⟩ := by
  refine ⟨fun W0 out g a w next Q tr hr _ k => ?_⟩
  obtain ⟨hb, hrun⟩ := h W0 out g a w tr hr
  exact wp_of_run hrun (k g w (fun _ _ => rfl) tr hr hb)

/-! ### a new block -/
theorem heap_alloc_new (w : World) (o : Obj) : (w.alloc o).heap[w.heap.size]? = some o := by
  show (w.heap.push o)[w.heap.size]? = _
  simp
theorem heap_alloc_old (w : World) (o : Obj) {k : Nat} (h : k < w.heap.size) : (w.alloc o).heap[k]? = w.heap[k]? := by
  show (w.heap.push o)[k]? = _
  rw [Array.getElem?_push, if_neg (by omega)]
theorem lt_of_heap {w : World} {k : Nat} {o : Obj} (h : w.heap[k]? = some o) : k < w.heap.size := by
  rcases Nat.lt_or_ge k w.heap.size with h' | h'
  · exact h'
  · simp [Array.getElem?_eq_none h'] at h

def gput (g : Nat → Nat) (n b : Nat) : Nat → Nat := fun m => if m = n then b else g m

theorem alloc_rel {W0 : World} {out : Nat → Prop} {g : Nat → Nat} {T : List Value} {H : Heap} {nm nx : Nat} {a : Act} {w : World} {b : Blk} {n : Nat} (hn : nm ≤ n) (hn' : n < nm + 16) (hx : n < nx)
    (tr : TRel g T nx a) (hr : HRel W0 out g H nx w) (fr : Fresh nm T H) (hb : ∀ v ∈ b.cells, Bnd nx v ∧ Fr nm v) :
    (∀ m, m < nm ∨ nm + 16 ≤ m → g m = gput g n w.heap.size m) ∧ TRel (gput g n w.heap.size) T nx a ∧
    HRel W0 out (gput g n w.heap.size) (upd H n b) nx (w.alloc (.cells ⟨b.cells.map (ren g)⟩ b.ty)) := by
  have e : ∀ m, m < nm ∨ nm + 16 ≤ m → g m = gput g n w.heap.size m := fun m hm => by
    unfold gput
    rw [if_neg (by omega)]
  refine ⟨e, ⟨?_, tr.df, tr.tb⟩, ⟨?_, ?_, ?_, ?_, ?_, ?_, ?_, ?_⟩⟩
  · rw [tr.tm]
    congr 1
    exact List.map_congr_left fun v hv => fr.t v hv _ _ e
  · intro m c hm
    rw [look_upd] at hm
    split at hm
    · omega
    · exact hr.dom m c hm
  · intro m c hm
    rw [look_upd] at hm
    split at hm
    · injection hm with hm; subst hm; exact fun v hv => (hb v hv).1
    · exact hr.bnd m c hm
  · intro m c hm
    rw [look_upd] at hm
    split at hm
    · rename_i hmn
      injection hm with hm; subst hm; subst hmn
      have : gput g m w.heap.size m = w.heap.size := by simp [gput]
      rw [this, heap_alloc_new]
      congr 3
      exact List.map_congr_left fun v hv => (hb v hv).2 _ _ e
    · rename_i hmn
      have hg : gput g n w.heap.size m = g m := by simp [gput, hmn]
      have h0 := hr.mem m c hm
      rw [hg, heap_alloc_old _ _ (lt_of_heap h0), h0]
      congr 3
      exact List.map_congr_left fun v hv => (fr.h m c hm).2 v hv _ _ e
  · intro m k c d hm hk he
    rw [look_upd] at hm hk
    by_cases hmn : m = n <;> by_cases hkn : k = n
    · omega
    · exfalso
      rw [if_neg hkn] at hk
      have := lt_of_heap (hr.mem k d hk)
      simp [gput, hmn, hkn] at he
      omega
    · exfalso
      rw [if_neg hmn] at hm
      have := lt_of_heap (hr.mem m c hm)
      simp [gput, hmn, hkn] at he
      omega
    · rw [if_neg hmn] at hm
      rw [if_neg hkn] at hk
      simp only [gput, hmn, hkn, if_false] at he
      exact hr.inj m k c d hm hk he
  · intro m c hm
    rw [look_upd] at hm
    by_cases hmn : m = n
    · subst hmn
      simp only [gput, if_true]
      exact .inl hr.keep.size
    · rw [if_neg hmn] at hm
      simp only [gput, hmn, if_false]
      exact hr.own m c hm
  · exact hr.keep.trans (V := w) (p := fun _ => False) ⟨rfl, rfl, rfl, by simp, fun k hk _ => heap_alloc_old _ _ hk⟩ (fun _ _ h => h.elim)
  · exact hr.tabs.of fun x hx => by
      obtain ⟨o, h1, _⟩ := hr.tabs x hx
      exact heap_alloc_old _ _ (lt_of_heap h1)
  · intro m c hm x hxt
    rw [look_upd] at hm
    by_cases hmn : m = n
    · subst hmn
      obtain ⟨o, h1, _⟩ := hr.tabs x hxt
      have := lt_of_heap h1
      simp only [gput, if_true]
      omega
    · rw [if_neg hmn] at hm
      simp only [gput, hmn, if_false]
      exact hr.ntab m c hm x hxt

/-! ### a block that is written -/
def setBlk (w : World) (k : Nat) (o : Obj) : World := { w with heap := w.heap.setIfInBounds k o }
theorem setBlk_at {w : World} {k : Nat} {o : Obj} (h : k < w.heap.size) : (setBlk w k o).heap[k]? = some o := by simp [setBlk, h]
theorem setBlk_other {w : World} {k j : Nat} {o : Obj} (h : j ≠ k) : (setBlk w k o).heap[j]? = w.heap[j]? := by
  simp only [setBlk]
  rw [Array.getElem?_setIfInBounds_ne (by omega)]
theorem setBlk_size (w : World) (k : Nat) (o : Obj) : (setBlk w k o).heap.size = w.heap.size := by simp [setBlk]
theorem setBlk_twice (w : World) (k : Nat) (o p : Obj) : setBlk (setBlk w k o) k p = setBlk w k p := by simp [setBlk]
theorem setBlk_self {w : World} {k : Nat} {o : Obj} (h : w.heap[k]? = some o) : setBlk w k o = w := by
  have hk := lt_of_heap h
  rw [Array.getElem?_eq_getElem hk] at h
  injection h with h
  unfold setBlk
  have : w.heap.setIfInBounds k o = w.heap := by
    rw [Array.setIfInBounds_def, dif_pos hk, ← h, Array.set_getElem_self]
  rw [this]
theorem setCell_blk {w : World} {b off : Nat} {C : List Value} {t : TypeId} {x : Value} (h : w.heap[b]? = some (.cells ⟨C⟩ t (0, 0))) :
    w.setCell ⟨b, off, none⟩ x = setBlk w b (.cells ⟨C.set off x⟩ t (0, 0)) := by
  have hk := lt_of_heap h
  have hg : w.heap[b] = .cells ⟨C⟩ t (0, 0) := by
    rw [Array.getElem?_eq_getElem hk] at h; injection h
  unfold World.setCell setBlk
  congr 1
  apply Array.ext_getElem?
  intro i
  rw [Array.getElem?_modify]
  by_cases hi : b = i
  · subst hi
    simp [hk, hg]
  · rw [if_neg hi, Array.getElem?_setIfInBounds_ne hi]

theorem store_rel {W0 : World} {out : Nat → Prop} {g : Nat → Nat} {H : Heap} {nx : Nat} {w : World} {n : Nat} {b c : Blk} (hr : HRel W0 out g H nx w) (hb : look H n = some b) (ht : c.ty = b.ty) (hc : ∀ v ∈ c.cells, Bnd nx v) :
    HRel W0 out g (upd H n c) nx (setBlk w (g n) (.cells ⟨c.cells.map (ren g)⟩ b.ty (0, 0))) := by
  have hlt := lt_of_heap (hr.mem n b hb)
  refine ⟨?_, ?_, ?_, ?_, ?_, ?_, ?_, ?_⟩
  · intro m d hm
    rw [look_upd] at hm
    split at hm
    · rename_i h; subst h; exact hr.dom _ b hb
    · exact hr.dom m d hm
  · intro m d hm
    rw [look_upd] at hm
    split at hm
    · injection hm with hm; subst hm; exact hc
    · exact hr.bnd m d hm
  · intro m d hm
    rw [look_upd] at hm
    split at hm
    · rename_i h; subst h
      injection hm with hm; subst hm
      rw [setBlk_at hlt, ht]
    · rename_i h
      have h0 := hr.mem m d hm
      have : g m ≠ g n := fun e => h (hr.inj m n d b hm hb e)
      rw [setBlk_other this, h0]
  · intro m k d e hm hk he
    rw [look_upd] at hm hk
    have h1 : ∀ m d, (if m = n then some c else look H m) = some d → ∃ d', look H m = some d' := fun m d h => by
      split at h
      · rename_i h'; subst h'; exact ⟨b, hb⟩
      · exact ⟨d, h⟩
    obtain ⟨d', hd'⟩ := h1 m d hm
    obtain ⟨e', he'⟩ := h1 k e hk
    exact hr.inj m k d' e' hd' he' he
  · intro m d hm
    rw [look_upd] at hm
    split at hm
    · rename_i h; subst h; exact hr.own _ b hb
    · exact hr.own m d hm
  · have ho := hr.own n b hb
    refine ⟨hr.keep.os, hr.keep.tape, hr.keep.output, by rw [setBlk_size]; exact hr.keep.size, fun k hk hnk => ?_⟩
    have : k ≠ g n := fun e => by
      subst e
      rcases ho with ho | ho
      · omega
      · exact hnk ho
    rw [setBlk_other this]
    exact hr.keep.block k hk hnk
  · exact hr.tabs.of fun x hx => setBlk_other (fun e => hr.ntab n b hb x hx e.symm)
  · intro m d hm x hx
    rw [look_upd] at hm
    split at hm
    · rename_i h; subst h; exact hr.ntab _ b hb x hx
    · exact hr.ntab m d hm x hx

/-! ### runs of the machine's own words -/
section
variable {P : Program}
theorem run_zero {t : TypeId} {z : Value} (h : tZero P t = some z) (w : World) : (zeroValue t).run P w = .ok z w := by
  unfold tZero at h
  cases hi : P.info? t with
  | none => simp [hi] at h
  | some i =>
    simp only [hi, Option.bind_some] at h
    simp [zeroValue, typeInfo, hi, h]
theorem run_size {t : TypeId} {n : Nat} (h : tSize P t = some n) (w : World) : (Go.sizeOf t).run P w = .ok n w := by
  unfold tSize at h
  cases hi : P.info? t with
  | none => simp [hi] at h
  | some i =>
    simp only [hi, Option.map_some, Option.some.injEq] at h
    simp [Go.sizeOf, typeInfo, hi, h]
theorem run_isAgg {t : TypeId} {b : Bool} (h : tAgg P t = some b) (w : World) : (isAgg t).run P w = .ok b w := by
  unfold tAgg at h
  cases hi : P.underlying t with
  | none => simp [hi] at h
  | some d =>
    rw [hi] at h
    cases d <;> simp at h <;> simp [isAgg, Go.underlying, hi, h]
theorem run_load1 {w : World} {b off : Nat} {C : List Value} {t : TypeId} {v : Value} (h : w.heap[b]? = some (.cells ⟨C⟩ t (0, 0))) (hv : C[off]? = some v) : (load ⟨b, off, none⟩).run P w = .ok v w := by
  have : w.cell? ⟨b, off, none⟩ = some v := by simp [World.cell?, h, hv]
  simp [load, Sem.run, this]
theorem add_plain (b o i : Nat) : (⟨b, o, none⟩ : Addr).add i = ⟨b, o + i, none⟩ := Addr.add_lit b o i
theorem run_loadCells {w : World} {b off : Nat} {C : List Value} {t : TypeId} (h : w.heap[b]? = some (.cells ⟨C⟩ t (0, 0))) :
    ∀ (n i : Nat) (acc : Array Value), off + i + n ≤ C.length → (loadCellsFrom ⟨b, off, none⟩ i n acc).run P w = .ok (acc ++ ((C.drop (off + i)).take n).toArray) w
  | 0, i, acc, hn => by simp [loadCellsFrom]
  | n + 1, i, acc, hn => by
    have hlt : off + i < C.length := by omega
    have hv : C[off + i]? = some C[off + i] := List.getElem?_eq_getElem hlt
    simp only [loadCellsFrom, Sem.run_bind, add_plain, run_load1 h hv, Result.andThen]
    rw [run_loadCells h n (i + 1) _ (by omega)]
    congr 1
    rw [List.drop_eq_getElem_cons hlt, List.take_succ_cons, Array.push_eq_append, Array.append_assoc]
    congr 1
    simp [Nat.add_assoc]
theorem run_store1 {w : World} {b off : Nat} {C : List Value} {t : TypeId} {x : Value} (h : w.heap[b]? = some (.cells ⟨C⟩ t (0, 0))) (ho : off < C.length) (hx : (∀ y, x ≠ .agg y) ∧ (∀ y, x ≠ .tuple y)) :
    (store ⟨b, off, none⟩ x).run P w = .ok () (setBlk w b (.cells ⟨C.set off x⟩ t (0, 0))) := by
  have hc : w.cell? ⟨b, off, none⟩ = some C[off] := by simp [World.cell?, h, ho]
  have hf : w.frozen? ⟨b, off, none⟩ = false := by simp [World.frozen?, h]
  have hs : ∀ k : Sem Unit, (Sem.store .plain ⟨b, off, none⟩ x k).run P w = k.run P (w.setCell ⟨b, off, none⟩ x) := by
    intro k
    cases x with
    | agg y => exact absurd rfl (hx.1 y)
    | tuple y => exact absurd rfl (hx.2 y)
    | _ => simp [Sem.run, hc, hf]
  show (Sem.store .plain ⟨b, off, none⟩ x (.pure ())).run P w = _
  rw [hs]
  simp [setCell_blk h]
theorem run_storeCells {b off : Nat} {t : TypeId} : ∀ (vs : List Value) (w : World) (C C' : List Value) (i : Nat), w.heap[b]? = some (.cells ⟨C⟩ t (0, 0)) → putN (off + i) vs C = some C' →
    (∀ x ∈ vs, (∀ y, x ≠ .agg y) ∧ (∀ y, x ≠ .tuple y)) → (storeCells ⟨b, off, none⟩ vs i).run P w = .ok () (setBlk w b (.cells ⟨C'⟩ t (0, 0)))
  | [], w, C, C', i, h, hp, _ => by
    rw [putN_nil _ _ _ hp, setBlk_self h]
    simp [storeCells]
  | x :: vs, w, C, C', i, h, hp, hx => by
    obtain ⟨h1, h2⟩ := putN_cons _ _ _ _ _ hp
    simp only [storeCells, Sem.run_bind, add_plain, run_store1 h h1 (hx x (by simp)), Result.andThen]
    rw [run_storeCells vs _ (C.set (off + i) x) C' (i + 1) (setBlk_at (lt_of_heap h)) (by rw [← Nat.add_assoc]; exact h2) (fun y hy => hx y (by simp [hy])), setBlk_twice]
end
end RX
