/- RX: an abstract evaluator of the model's code over named blocks, part 1: values whose blocks have names, states, what they have to do with the machine's world. -/
import Derived.Test.YtgfjidlckocflaaDoorRX0
import Derived.Orders
import Derived.LoopN
import Derived.Below
import Derived.Laws.Entries
import Derived.WalkKit
namespace RX
open Go Go.RowKit

/-! ### values whose blocks are names; 'ren g' puts the blocks' numbers in their places -/
mutual
def ren (g : Nat → Nat) : Value → Value
  | .bool b => .bool b
  | .int k n => .int k n
  | .float k b => .float k b
  | .complex k a b => .complex k a b
  | .string s => .string s
  | .pointer none => .pointer none
  | .pointer (some ⟨b, o, none⟩) => .pointer (some ⟨g b, o, none⟩)
  | .pointer (some ⟨b, o, some _⟩) => .pointer (some ⟨b, o, none⟩)
  | .slice none l c => .slice none l c
  | .slice (some ⟨b, o, none⟩) l c => .slice (some ⟨g b, o, none⟩) l c
  | .slice (some ⟨b, o, some _⟩) l c => .slice (some ⟨b, o, none⟩) l c
  | .map r => .map (r.map g)
  | .chan r => .chan (r.map g)
  | .func fn ⟨f⟩ ⟨c⟩ => .func fn ⟨renL g f⟩ ⟨renL g c⟩
  | .nilFunc => .nilFunc
  | .iface t v => .iface t (ren g v)
  | .nilIface => .nilIface
  | .agg ⟨cs⟩ => .agg ⟨renL g cs⟩
  | .tuple ⟨cs⟩ => .tuple ⟨renL g cs⟩
def renL (g : Nat → Nat) : List Value → List Value
  | [] => []
  | v :: r => ren g v :: renL g r
end

theorem renL_map (g : Nat → Nat) : ∀ l, renL g l = l.map (ren g)
  | [] => by simp [renL]
  | v :: r => by simp [renL, renL_map g r]
@[simp] theorem renL_nil (g : Nat → Nat) : renL g [] = [] := by simp [renL]
@[simp] theorem ren_bool (g : Nat → Nat) (b : Bool) : ren g (.bool b) = .bool b := by simp [ren]
@[simp] theorem ren_int (g : Nat → Nat) (k : IntKind) (n : Int) : ren g (.int k n) = .int k n := by simp [ren]
@[simp] theorem ren_string (g : Nat → Nat) (s : ByteArray) : ren g (.string s) = .string s := by simp [ren]
/- A pointer to a package-level variable bears its own block's number, and a mark. -/
@[simp] theorem ren_ptr (g : Nat → Nat) (b o : Nat) : ren g (.pointer (some ⟨b, o, none⟩)) = .pointer (some ⟨g b, o, none⟩) := by simp [ren]
@[simp] theorem ren_gptr (g : Nat → Nat) (b o s : Nat) : ren g (.pointer (some ⟨b, o, some s⟩)) = .pointer (some ⟨b, o, none⟩) := by simp [ren]
@[simp] theorem ren_nilptr (g : Nat → Nat) : ren g (.pointer none) = .pointer none := by simp [ren]
@[simp] theorem ren_slice (g : Nat → Nat) (b o l c : Nat) : ren g (.slice (some ⟨b, o, none⟩) l c) = .slice (some ⟨g b, o, none⟩) l c := by simp [ren]
@[simp] theorem ren_gslice (g : Nat → Nat) (b o s l c : Nat) : ren g (.slice (some ⟨b, o, some s⟩) l c) = .slice (some ⟨b, o, none⟩) l c := by simp [ren]
@[simp] theorem ren_nilslice (g : Nat → Nat) (l c : Nat) : ren g (.slice none l c) = .slice none l c := by simp [ren]
@[simp] theorem ren_agg (g : Nat → Nat) (cs : List Value) : ren g (.agg ⟨cs⟩) = .agg ⟨cs.map (ren g)⟩ := by simp [ren, renL_map]
@[simp] theorem ren_tuple (g : Nat → Nat) (cs : List Value) : ren g (.tuple ⟨cs⟩) = .tuple ⟨cs.map (ren g)⟩ := by simp [ren, renL_map]
@[simp] theorem ren_func (g : Nat → Nat) (fn : Fn) (f c : List Value) : ren g (.func fn ⟨f⟩ ⟨c⟩) = .func fn ⟨f.map (ren g)⟩ ⟨c.map (ren g)⟩ := by simp [ren, renL_map]
@[simp] theorem ren_nilFunc (g : Nat → Nat) : ren g .nilFunc = .nilFunc := by simp [ren]
@[simp] theorem ren_nilIface (g : Nat → Nat) : ren g .nilIface = .nilIface := by simp [ren]
@[simp] theorem ren_iface (g : Nat → Nat) (t : TypeId) (v : Value) : ren g (.iface t v) = .iface t (ren g v) := by simp [ren]
@[simp] theorem ren_undef (g : Nat → Nat) : ren g undef = undef := by
  show ren g (.tuple ⟨[]⟩) = _
  rw [ren_tuple]; rfl

/-- Below b: what 'ren' makes of the value hangs on the names below b alone. -/
def Bnd (b : Nat) (v : Value) : Prop := ∀ g g' : Nat → Nat, (∀ n, n < b → g n = g' n) → ren g v = ren g' v
/-- No name at all. -/
def Clo (v : Value) : Prop := ∀ g : Nat → Nat, ren g v = v
theorem Clo.bnd {v : Value} (h : Clo v) (b : Nat) : Bnd b v := fun g g' _ => (h g).trans (h g').symm
theorem Bnd.mono {b b' : Nat} {v : Value} (h : Bnd b v) (hb : b ≤ b') : Bnd b' v := fun g g' e => h g g' fun n hn => e n (Nat.lt_of_lt_of_le hn hb)
theorem Bnd.ptr {b : Nat} {a : Addr} (h : a.block < b) : Bnd b (.pointer (some a)) := fun g g' e => by obtain ⟨k, o, s⟩ := a; cases s <;> simp [e _ h]
theorem Bnd.agg {b : Nat} {l : List Value} (h : ∀ v ∈ l, Bnd b v) : Bnd b (.agg ⟨l⟩) := fun g g' e => by
  simp only [ren_agg]
  congr 2
  exact List.map_congr_left fun v hv => h v hv g g' e
theorem Bnd.tuple {b : Nat} {l : List Value} (h : ∀ v ∈ l, Bnd b v) : Bnd b (.tuple ⟨l⟩) := fun g g' e => by
  simp only [ren_tuple]
  congr 2
  exact List.map_congr_left fun v hv => h v hv g g' e
theorem map_eq_iff {l : List Value} {f g : Value → Value} (h : l.map f = l.map g) : ∀ v ∈ l, f v = g v := by
  induction l with
  | nil => intro v hv; cases hv
  | cons x r ih =>
    simp only [List.map_cons, List.cons.injEq] at h
    intro v hv
    cases hv with
    | head => exact h.1
    | tail _ hm => exact ih h.2 v hm
theorem Bnd.of_agg {b : Nat} {l : List Value} (h : Bnd b (.agg ⟨l⟩)) : ∀ v ∈ l, Bnd b v := fun v hv g g' e => by
  have := h g g' e
  simp only [ren_agg, Value.agg.injEq, Array.mk.injEq] at this
  exact map_eq_iff this v hv
theorem Bnd.of_tuple {b : Nat} {l : List Value} (h : Bnd b (.tuple ⟨l⟩)) : ∀ v ∈ l, Bnd b v := fun v hv g g' e => by
  have := h g g' e
  simp only [ren_tuple, Value.tuple.injEq, Array.mk.injEq] at this
  exact map_eq_iff this v hv
theorem Bnd.of_func {b : Nat} {fn : Fn} {l c : List Value} (h : Bnd b (.func fn ⟨l⟩ ⟨c⟩)) : (∀ v ∈ l, Bnd b v) ∧ (∀ v ∈ c, Bnd b v) := by
  constructor
  · intro v hv g g' e
    have := h g g' e
    simp only [ren_func, Value.func.injEq, Array.mk.injEq, true_and] at this
    exact map_eq_iff this.1 v hv
  · intro v hv g g' e
    have := h g g' e
    simp only [ren_func, Value.func.injEq, Array.mk.injEq, true_and] at this
    exact map_eq_iff this.2 v hv
theorem Bnd.func {b : Nat} {fn : Fn} {l c : List Value} (h : ∀ v ∈ l, Bnd b v) (h' : ∀ v ∈ c, Bnd b v) : Bnd b (.func fn ⟨l⟩ ⟨c⟩) := fun g g' e => by
  simp only [ren_func]
  congr 2
  · exact List.map_congr_left fun v hv => h v hv g g' e
  · exact List.map_congr_left fun v hv => h' v hv g g' e
theorem Clo.undef : Clo undef := fun g => ren_undef g

/-- Has the value no name? (asked down to a depth) -/
def clo : Nat → Value → Bool
  | 0, _ => false
  | n + 1, v =>
    match v with
    | .bool _ | .int _ _ | .float _ _ | .complex _ _ _ | .string _ | .nilFunc | .nilIface => true
    | .pointer none => true
    | .slice none _ _ => true
    | .agg ⟨cs⟩ => cs.all (clo n)
    | .tuple ⟨cs⟩ => cs.all (clo n)
    | .func _ ⟨f⟩ ⟨c⟩ => f.all (clo n) && c.all (clo n)
    | .iface _ v => clo n v
    | _ => false
theorem clo_spec : ∀ (n : Nat) (v : Value), clo n v = true → Clo v := by
  intro n
  induction n with
  | zero => intro v h; simp [clo] at h
  | succ n ih =>
    have hl : ∀ l : List Value, l.all (clo n) = true → ∀ g : Nat → Nat, l.map (ren g) = l := fun l h g => by
      rw [List.all_eq_true] at h
      calc l.map (ren g) = l.map id := List.map_congr_left fun v hv => ih v (h v hv) g
        _ = l := by simp
    intro v h g
    unfold clo at h
    split at h
    any_goals simp [ren]
    any_goals rw [renL_map]
    any_goals rw [renL_map]
    · exact congrArg (fun l => l) (hl _ h g)
    · exact hl _ h g
    · simp only [Bool.and_eq_true] at h; exact ⟨hl _ h.1 g, hl _ h.2 g⟩
    · exact ih _ h g
    · simp at h

/-! ### states -/
inductive Blk where
  | cs (l : List Value) (t : TypeId)
  | is (k : IntKind) (xs : List Int) (t : TypeId)
def Blk.cells : Blk → List Value
  | .cs l _ => l
  | .is k xs _ => xs.map (Value.int k)
def Blk.ty : Blk → TypeId
  | .cs _ t => t
  | .is _ _ t => t
abbrev Heap := List (Nat × Blk)
structure St where
  tmps : List Value
  heap : Heap
  nxt : Nat

def look {α : Type} : List (Nat × α) → Nat → Option α
  | [], _ => none
  | (n, a) :: r, m => bif Nat.beq n m then some a else look r m
def upd {α : Type} : List (Nat × α) → Nat → α → List (Nat × α)
  | [], m, b => [(m, b)]
  | (n, a) :: r, m, b => bif Nat.beq n m then (n, b) :: r else (n, a) :: upd r m b
theorem beq_ne {n m : Nat} (h : n ≠ m) : Nat.beq n m = false := by
  cases hb : Nat.beq n m
  · rfl
  · exact absurd (Nat.eq_of_beq_eq_true hb) h
theorem look_upd {α : Type} (l : List (Nat × α)) (m : Nat) (b : α) (k : Nat) : look (upd l m b) k = if k = m then some b else look l k := by
  induction l with
  | nil =>
    simp only [upd, look]
    by_cases h : k = m
    · subst h; simp
    · have : Nat.beq m k = false := beq_ne fun e => h e.symm
      simp [h, this]
  | cons x r ih =>
    obtain ⟨n, a⟩ := x
    simp only [upd]
    by_cases h : n = m
    · subst h
      simp only [Nat.beq_refl, cond_true, look]
      by_cases hk : k = n
      · subst hk; simp
      · have : Nat.beq n k = false := beq_ne fun e => hk e.symm
        simp [hk, this]
    · have hb : Nat.beq n m = false := beq_ne h
      simp only [hb, cond_false, look]
      by_cases hk : n = k
      · subst hk; simp [h]
      · have : Nat.beq n k = false := beq_ne hk
        simp [this, ih]

def nth : List Value → Nat → Value
  | [], _ => undef
  | v :: _, 0 => v
  | _ :: r, n + 1 => nth r n
def setn : List Value → Nat → Value → List Value
  | [], _, _ => []
  | _ :: r, 0, x => x :: r
  | v :: r, n + 1, x => v :: setn r n x
theorem nth_getD : ∀ (l : List Value) (n : Nat), nth l n = l.getD n undef
  | [], n => by simp [nth]
  | v :: r, 0 => by simp [nth]
  | v :: r, n + 1 => by simp [nth, nth_getD r n]
theorem setn_set : ∀ (l : List Value) (n : Nat) (x : Value), setn l n x = l.set n x
  | [], n, x => by simp [setn]
  | v :: r, 0, x => by simp [setn]
  | v :: r, n + 1, x => by simp [setn, setn_set r n x]
theorem nth_mem_or (l : List Value) (n : Nat) : nth l n ∈ l ∨ nth l n = undef := by
  rw [nth_getD, List.getD_eq_getElem?_getD]
  cases h : l[n]? with
  | none => exact .inr rfl
  | some v => exact .inl (by simpa using List.mem_of_getElem? h)

def putT (T : List Value) (d : Option Nat) (v : Value) : List Value :=
  match d with
  | some n => setn T n v
  | none => T

/-- What an operand is. Constants bear no name. -/
def ev (T : List Value) : Operand → Value
  | .tmp n => nth T n
  | .const v => bif clo 8 v then v else undef
  | .func f => .func (.func f) ⟨[]⟩ ⟨[]⟩
  | .global n => .pointer (some ⟨n, 0, some 0⟩)
/-- Is it an operand that 'ev' tells? -/
def evOk : Operand → Bool
  | .tmp _ => true
  | .const v => clo 8 v
  | .func _ => true
  | .global _ => true

/-- The variables that the runs read hold what is listed. -/
def TabObj (o : Obj) (l : List Value) : Prop := ∃ (C : List Value) (ty : TypeId) (fr : Nat × Nat), o = .cells ⟨C⟩ ty fr ∧ ∀ (i : Nat) (v : Value), l[i]? = some v → C[i]? = some v
def TabOk (w : World) : Prop := ∀ x ∈ TB, ∃ o, w.heap[x.1]? = some o ∧ TabObj o x.2
theorem TabOk.of {w w' : World} (h : TabOk w) (e : ∀ x ∈ TB, w'.heap[x.1]? = w.heap[x.1]?) : TabOk w' := fun x hx => by rw [e x hx]; exact h x hx
/-! ### the world behind a state -/
/-- But for the blocks of 'out' the world is below B as it was. -/
structure Keep (W0 : World) (out : Nat → Prop) (w : World) : Prop where
  os : w.os = W0.os
  tape : w.tape = W0.tape
  output : w.output = W0.output
  size : W0.heap.size ≤ w.heap.size
  block : ∀ k, k < W0.heap.size → ¬ out k → w.heap[k]? = W0.heap[k]?
theorem Keep.refl (W : World) (out : Nat → Prop) : Keep W out W := ⟨rfl, rfl, rfl, Nat.le_refl _, fun _ _ _ => rfl⟩
theorem Keep.below {W w : World} (h : Keep W (fun _ => False) w) : Below W.heap.size W w := ⟨h.os, h.tape, h.output, h.size, fun k hk => h.block k hk (fun x => x)⟩
theorem Keep.trans {W V w : World} {o p : Nat → Prop} (h : Keep W o V) (k : Keep V p w) (hp : ∀ b, b < W.heap.size → p b → o b) : Keep W o w :=
  ⟨k.os.trans h.os, k.tape.trans h.tape, k.output.trans h.output, Nat.le_trans h.size k.size,
    fun b hb hn => (k.block b (Nat.lt_of_lt_of_le hb h.size) (fun x => hn (hp b hb x))).trans (h.block b hb hn)⟩
theorem Keep.of_below {W w : World} (h : Below W.heap.size W w) : Keep W (fun _ => False) w := ⟨h.os, h.tape, h.output, h.size, fun k hk _ => h.block k hk⟩

structure HRel (W0 : World) (out : Nat → Prop) (g : Nat → Nat) (H : Heap) (nx : Nat) (w : World) : Prop where
  dom : ∀ n b, look H n = some b → n < nx
  bnd : ∀ n b, look H n = some b → ∀ v ∈ b.cells, Bnd nx v
  mem : ∀ n b, look H n = some b → w.heap[g n]? = some (.cells ⟨b.cells.map (ren g)⟩ b.ty (0, 0))
  inj : ∀ n m b c, look H n = some b → look H m = some c → g n = g m → n = m
  own : ∀ n b, look H n = some b → W0.heap.size ≤ g n ∨ out (g n)
  keep : Keep W0 out w
  tabs : TabOk w
  ntab : ∀ n b, look H n = some b → ∀ x ∈ TB, g n ≠ x.1

structure TRel (g : Nat → Nat) (T : List Value) (nx : Nat) (a : Act) : Prop where
  tm : a.tmps = ⟨T.map (ren g)⟩
  df : a.defers = []
  tb : ∀ v ∈ T, Bnd nx v

theorem TRel.nth {g : Nat → Nat} {T : List Value} {nx : Nat} {a : Act} (h : TRel g T nx a) (n : Nat) : a.tmps.getD n undef = ren g (RX.nth T n) := by
  rw [h.tm, nth_getD]
  simp only [Array.getD_eq_getD_getElem?, List.getElem?_toArray, List.getElem?_map, List.getD_eq_getElem?_getD]
  cases T[n]? <;> simp
theorem TRel.eval {g : Nat → Nat} {T : List Value} {nx : Nat} {a : Act} (h : TRel g T nx a) {x : Operand} (hx : evOk x = true) : a.eval x = ren g (ev T x) := by
  cases x with
  | tmp n => exact h.nth n
  | const v =>
    simp only [evOk] at hx
    simp [Act.eval, ev, hx, (clo_spec 8 v hx) g]
  | global n => simp [Act.eval, ev]
  | func f => simp [Act.eval, ev]
theorem TRel.bndEv {g : Nat → Nat} {T : List Value} {nx : Nat} {a : Act} (h : TRel g T nx a) (x : Operand) : Bnd nx (ev T x) := by
  cases x with
  | tmp n =>
    rcases nth_mem_or T n with hm | hu
    · exact h.tb _ hm
    · simp only [ev, hu]; exact Clo.undef.bnd _
  | const v =>
    simp only [ev]
    cases hc : clo 8 v
    · exact Clo.undef.bnd _
    · exact (clo_spec 8 v hc).bnd _
  | global n => exact fun g g' _ => by simp [ev]
  | func f => exact fun g g' _ => by simp [ev]
theorem TRel.put {g : Nat → Nat} {T : List Value} {nx : Nat} {a : Act} (h : TRel g T nx a) (d : Option Nat) {v : Value} {u : Value} (hb : Bnd nx v) (hu : u = ren g v) : TRel g (putT T d v) nx (a.put d u) := by
  subst hu
  cases d with
  | none => exact h
  | some n =>
    refine ⟨?_, h.df, ?_⟩
    · simp only [Act.put, h.tm, putT, setn_set, List.setIfInBounds_toArray, List.map_set]
    · intro x hx
      simp only [putT, setn_set] at hx
      rcases List.mem_or_eq_of_mem_set hx with hx | rfl
      · exact h.tb x hx
      · exact hb
theorem TRel.mono {g : Nat → Nat} {T : List Value} {nx nx' : Nat} {a : Act} (h : TRel g T nx a) (hn : nx ≤ nx') : TRel g T nx' a := ⟨h.tm, h.df, fun v hv => (h.tb v hv).mono hn⟩
theorem TRel.agree {g g' : Nat → Nat} {T : List Value} {nx : Nat} {a : Act} (h : TRel g T nx a) (e : ∀ n, n < nx → g n = g' n) : TRel g' T nx a :=
  ⟨by rw [h.tm]; congr 1; exact List.map_congr_left fun v hv => h.tb v hv g g' e, h.df, h.tb⟩
theorem HRel.agree {W0 : World} {out : Nat → Prop} {g g' : Nat → Nat} {H : Heap} {nx : Nat} {w : World} (h : HRel W0 out g H nx w) (e : ∀ n, n < nx → g n = g' n) : HRel W0 out g' H nx w :=
  ⟨h.dom, h.bnd, fun n b hn => by
      rw [← e n (h.dom n b hn), h.mem n b hn]
      congr 3
      exact List.map_congr_left fun v hv => h.bnd n b hn v hv g g' e,
    fun n m b c hn hm he => h.inj n m b c hn hm (by rw [e n (h.dom n b hn), e m (h.dom m c hm)]; exact he),
    fun n b hn => by rw [← e n (h.dom n b hn)]; exact h.own n b hn, h.keep, h.tabs, fun n b hn => by rw [← e n (h.dom n b hn)]; exact h.ntab n b hn⟩
theorem HRel.mono {W0 : World} {out : Nat → Prop} {g : Nat → Nat} {H : Heap} {nx nx' : Nat} {w : World} (h : HRel W0 out g H nx w) (hn : nx ≤ nx') : HRel W0 out g H nx' w :=
  ⟨fun n b hb => Nat.lt_of_lt_of_le (h.dom n b hb) hn, fun n b hb v hv => (h.bnd n b hb v hv).mono hn, h.mem, h.inj, h.own, h.keep, h.tabs, h.ntab⟩
end RX
