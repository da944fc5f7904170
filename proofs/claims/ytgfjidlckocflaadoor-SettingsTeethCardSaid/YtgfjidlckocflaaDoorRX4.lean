/- RX, part 4: what each operation comes to ('effOp'), and that the machine goes that way. -/
import Derived.Test.YtgfjidlckocflaaDoorRX3
import Derived.Laws.Tables
namespace RX
open Go Go.RowKit

/-! ### values built of parts -/
theorem putN_len : ∀ (o : Nat) (xs l r : List Value), putN o xs l = some r → o + xs.length ≤ l.length ∧ r.length = l.length
  | 0, [], l, r, h => by simp [putN] at h; subst h; simp
  | 0, x :: xs, y :: l, r, h => by
    simp only [putN, Option.map_eq_some_iff] at h
    obtain ⟨r', h', rfl⟩ := h
    obtain ⟨h1, h2⟩ := putN_len 0 xs l r' h'
    simp only [List.length_cons]
    omega
  | 0, x :: xs, [], r, h => by simp [putN] at h
  | o + 1, xs, y :: l, r, h => by
    simp only [putN, Option.map_eq_some_iff] at h
    obtain ⟨r', h', rfl⟩ := h
    obtain ⟨h1, h2⟩ := putN_len o xs l r' h'
    simp only [List.length_cons]
    omega
  | o + 1, xs, [], r, h => by simp [putN] at h
theorem fold_put (o : Nat) : ∀ (xs : List Value) (k : Nat) (C C' : List Value), putN (o + k) xs C = some C' →
    (xs.zipIdx k).foldl (fun (cs : Array Value) (x : Value × Nat) => cs.setIfInBounds (o + x.2) x.1) ⟨C⟩ = ⟨C'⟩
  | [], k, C, C', h => by simp [putN_nil _ _ _ h]
  | x :: xs, k, C, C', h => by
    obtain ⟨h1, h2⟩ := putN_cons _ _ _ _ _ h
    simp only [List.zipIdx_cons, List.foldl_cons, List.setIfInBounds_toArray]
    exact fold_put o xs (k + 1) _ C' (by rw [← Nat.add_assoc]; exact h2)
def fillA (place : Nat → Option (Nat × Nat)) : List (Nat × Value) → List Value → Option (List Value)
  | [], cs => some cs
  | (i, v) :: r, cs =>
    match place i with
    | some (o, n) => bif Nat.beq (cellsL v).length n then (putN o (cellsL v) cs).bind (fillA place r) else none
    | none => none
theorem fillA_cons {place : Nat → Option (Nat × Nat)} {i : Nat} {v : Value} {r : List (Nat × Value)} {C C' : List Value} (h : fillA place ((i, v) :: r) C = some C') :
    ∃ o D, place i = some (o, (cellsL v).length) ∧ putN o (cellsL v) C = some D ∧ fillA place r D = some C' := by
  simp only [fillA] at h
  split at h
  · rename_i o n hp
    cases hb : Nat.beq (cellsL v).length n with
    | false => simp [hb] at h
    | true =>
      simp only [hb, cond_true, Option.bind_eq_some_iff] at h
      obtain ⟨D, hD, hr⟩ := h
      have := Nat.eq_of_beq_eq_true hb
      exact ⟨o, D, by rw [hp, this], hD, hr⟩
  · simp at h
theorem cellsL_ren (g : Nat → Nat) (v : Value) : cellsL (ren g v) = (cellsL v).map (ren g) := by
  have h1 := ren_cells g v
  have h2 := cells_eq (ren g v)
  rw [h1] at h2
  injection h2 with h2
  exact h2.symm
theorem fill_eq {place : Nat → Option (Nat × Nat)} : ∀ (parts : List (Nat × Value)) (C C' : List Value), fillA place parts C = some C' → Instr.fill place ⟨C⟩ parts = some ⟨C'⟩
  | [], C, C', h => by simp [fillA] at h; simp [Instr.fill, h]
  | (i, v) :: r, C, C', h => by
    obtain ⟨o, D, hp, hD, hr⟩ := fillA_cons h
    obtain ⟨h1, h2⟩ := putN_len _ _ _ _ hD
    have hf := fold_put o (cellsL v) 0 C D hD
    have hc : v.cells = ⟨cellsL v⟩ := cells_eq v
    have hno : ¬ (o + (cellsL v).length > C.length) := by omega
    have := fill_eq r D C' hr
    simp only [Instr.fill, hp, hc]
    simp only [List.size_toArray, ne_eq, not_true_eq_false, decide_false, hno, Bool.or_self, Bool.false_eq_true, if_false]
    have e : Array.foldl (fun (cs : Array Value) (x : Value × Nat) => match x with | (c, j) => cs.setIfInBounds (o + j) c) ⟨C⟩ (Array.zipIdx ⟨cellsL v⟩) = ⟨D⟩ := by
      rw [← hf]
      simp
    rw [e]
    exact this
theorem fillA_map (g : Nat → Nat) {place : Nat → Option (Nat × Nat)} : ∀ (parts : List (Nat × Value)) (C C' : List Value), fillA place parts C = some C' →
    fillA place (parts.map fun x => (x.1, ren g x.2)) (C.map (ren g)) = some (C'.map (ren g))
  | [], C, C', h => by simp [fillA] at h; simp [fillA, h]
  | (i, v) :: r, C, C', h => by
    obtain ⟨o, D, hp, hD, hr⟩ := fillA_cons h
    have := fillA_map g r D C' hr
    simp only [List.map_cons, fillA, hp, cellsL_ren, List.length_map, Nat.beq_refl, cond_true, putN_map (ren g) _ _ _ _ hD, Option.bind_some]
    exact this
theorem fillA_mem {place : Nat → Option (Nat × Nat)} : ∀ (parts : List (Nat × Value)) (C C' : List Value), fillA place parts C = some C' → ∀ v ∈ C', v ∈ C ∨ ∃ p ∈ parts, v ∈ cellsL p.2
  | [], C, C', h => by simp [fillA] at h; subst h; exact fun v hv => .inl hv
  | (i, v) :: r, C, C', h => by
    obtain ⟨o, D, hp, hD, hr⟩ := fillA_cons h
    intro u hu
    rcases fillA_mem r D C' hr u hu with h1 | ⟨p, hp, h1⟩
    · rcases putN_mem _ _ _ _ hD u h1 with h2 | h2
      · exact .inr ⟨(i, v), by simp, h2⟩
      · exact .inl h2
    · exact .inr ⟨p, by simp [hp], h1⟩

/-- Where the parts of a value of a type lie, and its zero value. -/
def placesOf (P : Program) (t : TypeId) : Option ((Nat → Option (Nat × Nat)) × List Value) :=
  match P.info? t, P.underlying t with
  | some it, some (.array _ e) =>
    match it.zero, P.info? e with
    | some z, some ie => some (fun i => some (i * ie.size, ie.size), cellsL z)
    | _, _ => none
  | some it, some (.struct fields) =>
    match it.zero, fields.toList.mapM (fun f => (P.info? f.type).map fun i => (f.offset, i.size)) with
    | some z, some places => some (fun i => places[i]?, cellsL z)
    | _, _ => none
  | _, _ => none
theorem built_of {P : Program} {t : TypeId} {pl : Nat → Option (Nat × Nat)} {z : List Value} {parts : List (Nat × Value)} {C : List Value} (hp : placesOf P t = some (pl, z)) (hf : fillA pl parts z = some C) :
    P.built t parts = some ⟨C⟩ := by
  unfold placesOf at hp
  unfold Program.built
  split at hp
  · rename_i it n e h1 h2
    split at hp
    · rename_i z' ie h3 h4
      simp only [Option.some.injEq, Prod.mk.injEq] at hp
      obtain ⟨rfl, rfl⟩ := hp
      simp only [h1, h2, h3, h4, cells_eq]
      exact fill_eq _ _ _ hf
    · simp at hp
  · rename_i it fs h1 h2
    split at hp
    · rename_i z' places h3 h4
      simp only [Option.some.injEq, Prod.mk.injEq] at hp
      obtain ⟨rfl, rfl⟩ := hp
      simp only [h1, h2, h3, h4, cells_eq]
      have := fill_eq _ _ _ hf
      simpa using this
    · simp at hp
  · simp at hp

/-! ### the operations -/
def pickV (t : Bool) (a b : Value) : Value :=
  match a, b with
  | .bool x, .bool y => .bool (bif t then x else y)
  | .int k x, .int k' y => bif kbeq k k' then .int k (bif t then x else y) else bif t then .int k x else .int k' y
  | a, b => bif t then a else b
theorem pickV_eq (t : Bool) (a b : Value) : pickV t a b = if t = true then a else b := by
  unfold pickV
  split
  · cases t <;> simp
  · rename_i k x k' y
    cases hk : kbeq k k'
    · cases t <;> simp
    · have := kbeq_eq hk; subst this; cases t <;> simp
  · cases t <;> simp

def loadA (P : Program) (H : Heap) (t : TypeId) (b o : Nat) : Option Value :=
  match look H b with
  | some (.cs C _) => partA P t o C
  | _ => none

/-- A load out of a block of whole numbers whose list may be unknown. -/
def loadI (P : Program) (H : Heap) (t : TypeId) (b o : Nat) : Option Rc :=
  match look H b, tAgg P t with
  | some (.is k xs _), some false => some ⟨Nat.blt o xs.length, ⟨.int k (xs.getD o 0), [b], []⟩⟩
  | _, _ => none
def effLoad (P : Program) (H : Heap) (t : TypeId) : Value → Option Rc
  | .pointer (some ⟨b, o, none⟩) => (match loadA P H t b o with | some v => Rc.of v [b] [] | none => loadI P H t b o)
  | _ => none
def effStore (P : Program) (H : Heap) (t : TypeId) (y : Value) : Value → Option Rc
  | .pointer (some ⟨b, o, none⟩) =>
    match look H b, tSize P t with
    | some (.cs C ty), some n =>
      bif Nat.beq (cellsL y).length n && (cellsL y).all cellOk then
        (match putN o (cellsL y) C with | some C' => Rc.of undef [b] [(b, .cs C' ty)] | none => none)
      else none
    | some (.is k xs ty), some n =>
      (match y with
      | .int k' v => bif kbeq k k' && Nat.beq n 1 then some ⟨Nat.blt o xs.length, ⟨undef, [b], [(b, .is k (xs.set o v) ty)]⟩⟩ else none
      | _ => none)
    | _, _ => none
  | _ => none
def fieldIn (P : Program) (t : TypeId) (f : Nat) : Option Field :=
  match P.underlying t with
  | some (.struct fs) => fs.toList[f]?
  | _ => none
def effFieldAddr (P : Program) (t : TypeId) (f : Nat) : Value → Option Rc
  | .pointer (some ⟨b, o, none⟩) =>
    match fieldIn P t f with
    | some fd => match tSize P fd.type with
      | some (_ + 1) => Rc.of (.pointer (some ⟨b, o + fd.offset, none⟩)) [] []
      | _ => none
    | none => none
  | _ => none
def effField (P : Program) (t : TypeId) (f : Nat) : Value → Option Rc
  | .agg ⟨C⟩ =>
    match fieldIn P t f with
    | some fd => match partA P fd.type fd.offset C with | some v => Rc.of v [] [] | none => none
    | none => none
  | _ => none
def effIndexAddr (P : Program) (t : TypeId) (x i : Value) : Option Rc :=
  match x, i with
  | .slice (some ⟨b, o, none⟩) len _, .int _ n =>
    match P.underlying t with
    | some (.slice e) => match tSize P e with
      | some s => some ⟨decide (0 ≤ n) && decide (n < len), ⟨.pointer (some ⟨b, o + n.toNat * s, none⟩), [], []⟩⟩
      | none => none
    | _ => none
  | .pointer (some ⟨b, o, none⟩), .int _ n =>
    match P.underlying t with
    | some (.array len e) => match tSize P e with
      | some s => some ⟨decide (0 ≤ n) && decide (n < len), ⟨.pointer (some ⟨b, o + n.toNat * s, none⟩), [], []⟩⟩
      | none => none
    | _ => none
  | _, _ => none
/-- An element of an array, a byte of a string. -/
def effIndex (P : Program) (t : TypeId) (x i : Value) : Option Rc :=
  match x, i with
  | .agg ⟨C⟩, .int _ n =>
    match P.underlying t with
    | some (.array len e) =>
      (match tSize P e with
      | some s => (match partA P e (n.toNat * s) C with
        | some v => some ⟨decide (0 ≤ n) && decide (n < len), ⟨v, [], []⟩⟩
        | none => none)
      | none => none)
    | _ => none
  | .string s, .int _ n =>
    match P.underlying t with
    | some .string => some ⟨decide (0 ≤ n) && decide (n < s.size), ⟨.int .u8 ((s.data.toList.getD n.toNat 0).toNat : Int), [], []⟩⟩
    | _ => none
  | _, _ => none
def effBuildSlice (P : Program) (nm : Nat) (t : TypeId) (len : Nat) (parts : List (Nat × Value)) : Option Rc :=
  match P.underlying t with
  | some (.slice e) =>
    match tSize P e, tZero P e with
    | some s, some z =>
      bif Nat.ble (len * s) (2 ^ 24) && Nat.ble 1 (len * s) && clo 8 z then
        match fillA (fun i => some (i * s, s)) parts ((List.range (len * s)).map fun j => (cellsL z).getD (j % (cellsL z).length) default) with
        | some C => Rc.of (.slice (some ⟨nm, 0, none⟩) len len) [] [(nm, .cs C e)]
        | none => none
      else none
    | _, _ => none
  | _ => none
def effUn (op : UnOp) : Value → Option Value
  | .int k n => match op with
    | .neg => some (.int k (k.wrap (0 - n)))
    | .xor => some (.int k (bitsOf .xor k (if k.signed then -1 else k.max) n))
    | _ => none
  | .bool b => match op with
    | .not => some (.bool (!b))
    | _ => none
  | _ => none
def effConv (P : Program) (s d : TypeId) : Value → Option Value
  | .int _ n =>
    match P.underlying s, P.underlying d with
    | some _, some (.int k) => some (.int k (k.wrap n))
    | _, _ => none
  | .string x =>
    match P.underlying s, P.underlying d with
    | some .string, some .string => some (.string x)
    | _, _ => none
  | _ => none
def lenA (P : Program) (t : TypeId) : Value → Option Value
  | .string s => match P.underlying t with | some .string => some (.int .i64 s.size) | _ => none
  | .slice _ n _ => match P.underlying t with | some (.slice _) => some (.int .i64 n) | _ => none
  | _ => none
def minA (mx : Bool) : Value → List Value → Option Value
  | v, [] => some v
  | .int k x, .int k' y :: r => bif kbeq k k' then minA mx (.int k (bif mx then (if y > x then y else x) else (if y < x then y else x))) r else none
  | _, _ => none

def effBuiltin (P : Program) (b : Builtin) (ts : List TypeId) (xs : List Value) : Option Value :=
  match b with
  | .len => match ts, xs with | t :: _, x :: _ => lenA P t x | _, _ => none
  | .min => match xs with | .int k x :: r => minA false (.int k x) r | _ => none
  | .max => match xs with | .int k x :: r => minA true (.int k x) r | _ => none
  | _ => none

def effOp (P : Program) (nm : Nat) (o : Oper) (T : List Value) (H : Heap) : Option Rc :=
  bif o.op.operands.toList.all evOk then
    match o.op with
    | .move x => Rc.of (ev T x) [] []
    | .assign x => Rc.of (ev T x) [] []
    | .pick c a b => (match ev T c with | .bool t => Rc.of (pickV t (ev T a) (ev T b)) [] [] | _ => none)
    | .alloc t => (match tZero P t with | some z => bif clo 8 z then Rc.of (.pointer (some ⟨nm, 0, none⟩)) [] [(nm, .cs (cellsL z) t)] else none | none => none)
    | .box t x => Rc.of (.pointer (some ⟨nm, 0, none⟩)) [] [(nm, .cs (cellsL (ev T x)) t)]
    | .load t x => effLoad P H t (ev T x)
    | .store t x y => effStore P H t (ev T y) (ev T x)
    | .build t ps =>
      (match placesOf P t with
      | some (pl, z) => bif z.all (clo 8) then (match fillA pl (ps.toList.map fun x => (x.1, ev T x.2)) z with | some C => Rc.of (.agg ⟨C⟩) [] [] | none => none) else none
      | none => none)
    | .buildSlice t len ps => effBuildSlice P nm t len (ps.toList.map fun x => (x.1, ev T x.2))
    | .field t x f => effField P t f (ev T x)
    | .fieldAddr t x f => effFieldAddr P t f (ev T x)
    | .indexAddr t x i => effIndexAddr P t (ev T x) (ev T i)
    | .index t x i => effIndex P t (ev T x) (ev T i)
    | .extract x i => (match ev T x with | .tuple ⟨vs⟩ => (match vs[i]? with | some v => Rc.of v [] [] | none => none) | _ => none)
    | .nilCheck x => (match ev T x with | .pointer (some a) => Rc.of (.pointer (some a)) [] [] | _ => none)
    | .binOp op t x y _ => bif eqOk P t (ev T x) && Nat.ble 10 P.depth then (match binA P t op (ev T x) (ev T y) with | some (n, v) => some ⟨n, ⟨v, [], []⟩⟩ | none => none) else none
    | .unOp op _ x => (match effUn op (ev T x) with | some v => Rc.of v [] [] | none => none)
    | .convert s d x => (match effConv P s d (ev T x) with | some v => Rc.of v [] [] | none => none)
    | .makeFunc fn f c => Rc.of (.func fn ⟨f.toList.map (ev T)⟩ ⟨c.toList.map (ev T)⟩) [] []
    | .call c =>
      (match c.callee with
      | .builtin b => (match effBuiltin P b c.argTypes.toList (c.args.toList.map (ev T)) with | some v => Rc.of v [] [] | none => none)
      | _ => none)
    | _ => none
  else none

theorem Rc.of_inv {v : Value} {rs : List Nat} {ws : List (Nat × Blk)} {rc : Rc} (h : Rc.of v rs ws = some rc) : rc = ⟨true, ⟨v, rs, ws⟩⟩ := by
  injection h with h; exact h.symm

section
variable {P : Program} {o : Oper} {nm nx : Nat} {T : List Value} {H : Heap}
theorem partA_mem {t : TypeId} {off : Nat} {C : List Value} {v : Value} (h : partA P t off C = some v) {b : Nat} (hb : ∀ c ∈ C, Bnd b c) : Bnd b v := by
  unfold partA at h
  split at h
  · simp only [Option.map_eq_some_iff] at h
    obtain ⟨l, hl, rfl⟩ := h
    obtain ⟨h1, _⟩ := takeN_spec _ _ _ _ hl
    refine Bnd.agg fun c hc => hb c ?_
    rw [h1] at hc
    exact List.mem_of_mem_drop (List.mem_of_mem_take hc)
  · split at h
    · rename_i x hx
      injection h with h; subst h
      exact hb _ (List.mem_of_getElem? (takeN_one hx))
    · simp at h
  · simp at h
theorem takeN_map (f : Value → Value) : ∀ (o n : Nat) (l r : List Value), takeN o n l = some r → takeN o n (l.map f) = some (r.map f)
  | 0, 0, l, r, h => by simp [takeN] at h; subst h; simp [takeN]
  | 0, n + 1, v :: l, r, h => by
    simp only [takeN, Option.map_eq_some_iff] at h
    obtain ⟨r', h', rfl⟩ := h
    simp [takeN, takeN_map f 0 n l r' h']
  | 0, n + 1, [], r, h => by simp [takeN] at h
  | o + 1, n, v :: l, r, h => by
    simp only [takeN] at h
    simp [takeN, takeN_map f o n l r h]
  | o + 1, n, [], r, h => by simp [takeN] at h
theorem partA_ren (g : Nat → Nat) {t : TypeId} {off : Nat} {C : List Value} {v : Value} (h : partA P t off C = some v) : partA P t off (C.map (ren g)) = some (ren g v) := by
  unfold partA at h ⊢
  split at h
  · simp only [Option.map_eq_some_iff] at h
    obtain ⟨l, hl, rfl⟩ := h
    simp only [*, takeN_map (ren g) _ _ _ _ hl, Option.map_some, ren_agg]
  · split at h
    · rename_i x hx
      injection h with h; subst h
      simp only [*, takeN_map (ren g) _ _ _ _ hx, List.map_cons, List.map_nil]
    · simp at h
  · simp at h
theorem run_fieldIn {t : TypeId} {f : Nat} {fd : Field} (h : fieldIn P t f = some fd) : ∃ fs : Array Field, P.underlying t = some (.struct fs) ∧ fs[f]? = some fd := by
  unfold fieldIn at h
  split at h
  · rename_i fs hu
    exact ⟨fs, hu, by simpa using h⟩
  · simp at h
theorem part_any {t : TypeId} {off : Nat} {C : List Value} {v : Value} (h : partA P t off C = some v) (w : World) : (part t ⟨C⟩ off).run P w = .ok v w := run_part h w
/-- A variable's load out of a block. -/
theorem run_loadVar {t : TypeId} {w : World} {b off : Nat} {C : List Value} {ty : TypeId} {v : Value} (h : w.heap[b]? = some (.cells ⟨C⟩ ty (0, 0))) (hp : partA P t off C = some v) :
    (loadVar t ⟨b, off, none⟩).run P w = .ok v w := by
  unfold partA at hp
  split at hp
  · rename_i n ha hs
    simp only [Option.map_eq_some_iff] at hp
    obtain ⟨l, hl, rfl⟩ := hp
    obtain ⟨h1, h2⟩ := takeN_spec _ _ _ _ hl
    simp [loadVar, run_isAgg ha, run_size hs, loadCells, run_loadCells h n 0 #[] (by omega), h1]
  · rename_i n ha hs
    split at hp
    · rename_i x hx
      injection hp with hp; subst hp
      simp only [loadVar, Sem.run_bind, run_isAgg ha, Result.andThen_ok, Bool.false_eq_true, if_false]
      exact run_load1 h (takeN_one hx)
    · simp at hp
  · simp at hp
end
end RX
