/- RX, part 3: the operations that neither call nor branch. -/
import Derived.Test.YtgfjidlckocflaaDoorRX2
import Derived.Laws.StructEq
import Derived.Laws.Slices
namespace RX
open Go Go.RowKit

/-- What an operation comes to, if 'need' holds. -/
structure Rc where
  need : Bool
  r : Rec
def Rc.of (v : Value) (rs : List Nat) (ws : List (Nat × Blk)) : Option Rc := some ⟨true, ⟨v, rs, ws⟩⟩

/-! ### numbers -/
def bitsOf (op : BinOp) (k : IntKind) (x y : Int) : Int :=
  k.wrap (match op with
    | .and => (BitVec.ofInt k.bits x &&& BitVec.ofInt k.bits y).toNat
    | .or => (BitVec.ofInt k.bits x ||| BitVec.ofInt k.bits y).toNat
    | .xor => (BitVec.ofInt k.bits x ^^^ BitVec.ofInt k.bits y).toNat
    | _ => (BitVec.ofInt k.bits x &&& ~~~ BitVec.ofInt k.bits y).toNat)
def kbeq : IntKind → IntKind → Bool
  | .i8, .i8 | .i16, .i16 | .i32, .i32 | .i64, .i64 | .u8, .u8 | .u16, .u16 | .u32, .u32 | .u64, .u64 => true
  | _, _ => false
theorem kbeq_eq {j k : IntKind} (h : kbeq j k = true) : j = k := by cases j <;> cases k <;> simp_all [kbeq]

/-- Of two numbers of one kind; 'true': whether it can be done. -/
def binI (k : IntKind) (a b : Int) : BinOp → Option (Bool × Value)
  | .add => some (true, .int k (k.wrap (a + b)))
  | .sub => some (true, .int k (k.wrap (a - b)))
  | .mul => some (true, .int k (k.wrap (a * b)))
  | .quo => some (b != 0, .int k (k.wrap (a.tdiv b)))
  | .rem => some (b != 0, .int k (a.tmod b))
  | .and => some (true, .int k (bitsOf .and k a b))
  | .or => some (true, .int k (bitsOf .or k a b))
  | .xor => some (true, .int k (bitsOf .xor k a b))
  | .andNot => some (true, .int k (bitsOf .andNot k a b))
  | .eql => some (true, .bool (a == b))
  | .neq => some (true, .bool (a != b))
  | .lss => some (true, .bool (decide (a < b)))
  | .leq => some (true, .bool (decide (a ≤ b)))
  | .gtr => some (true, .bool (decide (a > b)))
  | .geq => some (true, .bool (decide (a ≥ b)))
  | _ => none
def binS (a b : ByteArray) : BinOp → Option (Bool × Value)
  | .add => some (decide (((a.size + b.size : Nat) : Int) ≤ 9223372036854775807), .string (a ++ b))
  | .eql => some (true, .bool (a.toList == b.toList))
  | .neq => some (true, .bool (!(a.toList == b.toList)))
  | .lss => some (true, .bool (Op.bytesLess a.toList b.toList))
  | .leq => some (true, .bool (Op.bytesLess a.toList b.toList || a.toList == b.toList))
  | .gtr => some (true, .bool (!(Op.bytesLess a.toList b.toList || a.toList == b.toList)))
  | .geq => some (true, .bool (!(Op.bytesLess a.toList b.toList)))
  | _ => none

def isBoolT (P : Program) (t : TypeId) : Bool := match P.underlying t with | some .bool => true | _ => false
def partA (P : Program) (t : TypeId) (off : Nat) (cs : List Value) : Option Value :=
  match tAgg P t, tSize P t with
  | some true, some n => (takeN off n cs).map fun l => .agg ⟨l⟩
  | some false, some _ => match takeN off 1 cs with | some [v] => some v | _ => none
  | _, _ => none
def eqf (P : Program) (E : TypeId → Value → Value → Option Bool) (xs ys : List Value) : List Field → Option Bool
  | [] => some true
  | f :: fs =>
    bif f.name == "_" then none else
    match partA P f.type f.offset xs, partA P f.type f.offset ys with
    | some a, some b => match E f.type a b with
      | some r => match fs with
        | [] => some r
        | _ => match eqf P E xs ys fs with | some r' => some (r && r') | none => none
      | none => none
    | _, _ => none
/-- Equality of values of a type, field by field. -/
def eqv (P : Program) : Nat → TypeId → Value → Value → Option Bool
  | 0, _, _, _ => none
  | d + 1, t, x, y =>
    match P.underlying t with
    | some .bool => match x, y with | .bool a, .bool b => some (a == b) | _, _ => none
    | some (.int _) => match x, y with | .int k a, .int k' b => bif kbeq k k' then some (a == b) else none | _, _ => none
    | some .string => match x, y with | .string a, .string b => some (a.toList == b.toList) | _, _ => none
    | some (.struct fs) => match x, y with | .agg ⟨xs⟩, .agg ⟨ys⟩ => bif P.stoodInHeld t then none else eqf P (eqv P d) xs ys fs.toList | _, _ => none
    | _ => none

def binA (P : Program) (t : TypeId) (op : BinOp) (x y : Value) : Option (Bool × Value) :=
  match x, y with
  | .int k a, .int k' b =>
    match op with
    | .shl => some (decide (0 ≤ b), .int k (k.wrap (a * 2 ^ min b.toNat k.bits)))
    | .shr => some (decide (0 ≤ b), .int k (a.fdiv (2 ^ min b.toNat k.bits)))
    | op => bif kbeq k k' then binI k a b op else none
  | .string a, .string b => binS a b op
  | .bool a, .bool b =>
    bif isBoolT P t then match op with
      | .eql => some (true, .bool (a == b))
      | .neq => some (true, .bool (!(a == b)))
      | _ => none
    else none
  | .agg xs, .agg ys =>
    match op with
    | .eql => (eqv P 10 t (.agg xs) (.agg ys)).map fun b => (true, .bool b)
    | .neq => (eqv P 10 t (.agg xs) (.agg ys)).map fun b => (true, .bool (!b))
    | _ => none
  | _, _ => none

theorem run_binI {P : Program} {k : IntKind} {a b : Int} {op : BinOp} {n : Bool} {v : Value} (t : TypeId) (h : binI k a b op = some (n, v)) (hn : n = true) (w : World) :
    (binOp op t (.int k a) (.int k b)).run P w = .ok v w := by
  subst hn
  cases op <;> simp only [binI, Option.some.injEq, Prod.mk.injEq, reduceCtorEq, true_and] at h
  all_goals first | subst h | (obtain ⟨h0, rfl⟩ := h)
  case quo => simp [binOp, Op.intDiv, (by simpa using h0 : b ≠ 0)]
  case rem => simp [binOp, Op.intDiv, (by simpa using h0 : b ≠ 0)]
  all_goals simp [binOp, Op.intArith, Op.intCmp, Op.intBits, bitsOf]
theorem run_binS {P : Program} {a b : ByteArray} {op : BinOp} {n : Bool} {v : Value} (t : TypeId) (h : binS a b op = some (n, v)) (hn : n = true) (w : World) :
    (binOp op t (.string a) (.string b)).run P w = .ok v w := by
  subst hn
  cases op <;> simp only [binS, Option.some.injEq, Prod.mk.injEq, reduceCtorEq, true_and] at h
  all_goals first | subst h | (obtain ⟨h0, rfl⟩ := h)
  case add =>
    have h1 : ((a.size + b.size : Nat) : Int) ≤ 9223372036854775807 := of_decide_eq_true h0
    simp only [binOp, Op.stringOp, IntKind.max_i64]
    rw [if_neg (by omega)]
    simp
  all_goals simp [binOp, Op.stringOp]

theorem takeN_one {o : Nat} {l : List Value} {v : Value} (h : takeN o 1 l = some [v]) : l[o]? = some v := by
  obtain ⟨h1, h2⟩ := takeN_spec o 1 l _ h
  have hlt : o < l.length := by omega
  rw [List.drop_eq_getElem_cons hlt, List.take_succ_cons] at h1
  simp only [List.take_zero, List.cons.injEq, and_true] at h1
  rw [List.getElem?_eq_getElem hlt, h1]
theorem run_part {P : Program} {t : TypeId} {off : Nat} {cs : List Value} {v : Value} (h : partA P t off cs = some v) (w : World) : (part t ⟨cs⟩ off).run P w = .ok v w := by
  unfold partA at h
  split at h
  · rename_i n ha hs
    simp only [Option.map_eq_some_iff] at h
    obtain ⟨l, hl, rfl⟩ := h
    obtain ⟨h1, h2⟩ := takeN_spec _ _ _ _ hl
    simp [part, run_isAgg ha, run_size hs, h1, List.extract_eq_take_drop]
  · rename_i n ha hs
    split at h
    · rename_i x hx
      injection h with h; subst h
      have := takeN_one hx
      simp [part, run_isAgg ha, this]
    · simp at h
  · simp at h
theorem bytes_toList (a b : ByteArray) : (a == b) = (a.toList == b.toList) := beq_toListBytes a b
theorem run_eqv {P : Program} : ∀ (d e : Nat) (t : TypeId) (x y : Value) (b : Bool) (w : World), eqv P d t x y = some b → (Op.equalIn (e + d) t x y).run P w = .ok b w := by
  intro d
  induction d with
  | zero => intro e t x y b w h; simp [eqv] at h
  | succ d ih =>
    intro e t x y b w h
    unfold eqv at h
    split at h
    · rename_i hu
      split at h
      · injection h with h; subst h
        exact run_equalIn_bool' w (e + d) t _ _ hu
      · simp at h
    · rename_i hu
      split at h
      · rename_i k a k' c
        cases hk : kbeq k k' with
        | false => simp [hk] at h
        | true =>
          have := kbeq_eq hk
          subst this
          simp only [hk, cond_true, Option.some.injEq] at h
          subst h
          exact run_equalIn_int w (e + d) t _ _ _ _ hu
      · simp at h
    · rename_i hu
      split at h
      · injection h with h; subst h
        exact run_equalIn_string w (e + d) t _ _ hu
      · simp at h
    · rename_i fs hu
      split at h
      · rename_i xs ys
        cases hs : P.stoodInHeld t with
        | true => simp [hs] at h
        | false =>
          simp only [hs, cond_false] at h
          have hf : P.fieldsOf t = fs := by simp [Program.fieldsOf, hu]
          have : (Op.equalIn (e + (d + 1)) t (.agg ⟨xs⟩) (.agg ⟨ys⟩)).run P w = (Op.eqFields (e + d) ⟨xs⟩ ⟨ys⟩ fs.toList).run P w := by
            have := run_equalIn_struct (P := P) w (e + d) t ⟨xs⟩ ⟨ys⟩ (by rw [hf]; exact hu) hs
            rw [hf] at this
            exact this
          rw [this]
          have key : ∀ (l : List Field) (b : Bool), eqf P (eqv P d) xs ys l = some b → (Op.eqFields (e + d) ⟨xs⟩ ⟨ys⟩ l).run P w = .ok b w := by
            intro l
            induction l with
            | nil => intro b h; simp [eqf] at h; simp [Op.eqFields, h]
            | cons f l ihl =>
              intro b h
              unfold eqf at h
              cases hn : (f.name == "_") with
              | true => simp [hn] at h
              | false =>
                have hn' : f.name ≠ "_" := by simpa using hn
                simp only [hn, cond_false] at h
                split at h
                · rename_i u v hu' hv'
                  split at h
                  · rename_i r hr
                    simp only [Op.eqFields, ne_eq, hn', not_false_eq_true, if_true, Sem.run_bind, run_part hu' w, run_part hv' w, Result.andThen_ok, ih e _ _ _ _ w hr, Sem.run_ite]
                    split at h
                    · injection h with h; subst h
                      cases r <;> simp [Op.eqFields]
                    · split at h
                      · rename_i r' hr'
                        injection h with h; subst h
                        cases r
                        · simp
                        · simp [ihl _ hr']
                      · simp at h
                  · simp at h
                · simp at h
          exact key _ _ h
      · simp at h
    · simp at h

def eqGuardOk (op : BinOp) (x : Value) : Bool :=
  match op with
  | .eql | .neq => match x with | .agg _ => false | .nilIface => false | _ => true
  | _ => true
/-- No interface is met in the type: two values of it are compared without further ado. -/
def plainEq (P : Program) : Nat → TypeId → Bool
  | 0, _ => false
  | d + 1, t =>
    match P.underlying t with
    | some .bool => true
    | some (.int _) => true
    | some .string => true
    | some (.struct fs) => fs.toList.all fun f => plainEq P d f.type
    | _ => false
theorem eqGuard_plain {P : Program} : ∀ (d e : Nat) (t : TypeId), plainEq P d t = true → P.eqGuardType (e + d) t = false := by
  intro d
  induction d with
  | zero => intro e t h; simp [plainEq] at h
  | succ d ih =>
    intro e t h
    unfold plainEq at h
    show P.eqGuardType (e + d + 1) t = false
    unfold Program.eqGuardType
    split at h
    all_goals rename_i hu; try simp only [hu]
    · rename_i fs
      rw [← Array.any_toList]
      rw [List.any_eq_false]
      intro f hf
      rw [List.all_eq_true] at h
      simp [ih e _ (h f hf)]
    · simp at h

def eqOk (P : Program) (t : TypeId) : Value → Bool
  | .agg _ => plainEq P 10 t
  | _ => true
theorem run_binA {P : Program} {t : TypeId} {op : BinOp} {x y : Value} {n : Bool} {v : Value} (ox oy : Operand) (hd : 10 ≤ P.depth) (h : binA P t op x y = some (n, v)) (hn : n = true)
    (hp : eqOk P t x = true) (w : World) :
    (do eqGuard op t ox oy x y; binOp op t x y : Sem Value).run P w = .ok v w := by
  cases x with
  | int k a =>
    rw [eqGuard_at_int]
    simp only [Sem.run_bind, Sem.run_pure, Result.andThen_ok]
    cases y with
    | int k' b =>
      have hs : op = .shl ∨ op = .shr ∨ (op ≠ .shl ∧ op ≠ .shr) := by cases op <;> simp
      rcases hs with rfl | rfl | ⟨h1, h2⟩
      · simp only [binA, Option.some.injEq, Prod.mk.injEq] at h
        obtain ⟨h0, rfl⟩ := h
        subst hn
        have : ¬ b < 0 := by have := of_decide_eq_true h0; omega
        simp [binOp, Op.shift, this]
      · simp only [binA, Option.some.injEq, Prod.mk.injEq] at h
        obtain ⟨h0, rfl⟩ := h
        subst hn
        have : ¬ b < 0 := by have := of_decide_eq_true h0; omega
        simp [binOp, Op.shift, this]
      · have h' : (bif kbeq k k' then binI k a b op else none) = some (n, v) := by
          cases op <;> first | exact absurd rfl h1 | exact absurd rfl h2 | exact h
        cases hk : kbeq k k' with
        | false => simp [hk] at h'
        | true =>
          have := kbeq_eq hk
          subst this
          simp only [hk, cond_true] at h'
          exact run_binI t h' hn w
    | _ => simp [binA] at h
  | string a =>
    rw [eqGuard_at_string]
    simp only [Sem.run_bind, Sem.run_pure, Result.andThen_ok]
    cases y with
    | string b => exact run_binS t h hn w
    | _ => simp [binA] at h
  | bool a =>
    rw [eqGuard_at_bool]
    simp only [Sem.run_bind, Sem.run_pure, Result.andThen_ok]
    cases y with
    | bool b =>
      cases hb : isBoolT P t with
      | false => simp [binA, hb] at h
      | true =>
        have hu : P.underlying t = some .bool := by
          unfold isBoolT at hb
          split at hb
          · assumption
          · simp at hb
        cases op <;> simp only [binA, hb, cond_true, Option.some.injEq, Prod.mk.injEq, reduceCtorEq] at h
        · obtain ⟨_, rfl⟩ := h
          simp [binOp, Op.equal, Op.maxDepth, run_equalIn_bool' w 9999 t a b hu]
        · obtain ⟨_, rfl⟩ := h
          simp [binOp, Op.equal, Op.maxDepth, run_equalIn_bool' w 9999 t a b hu]
    | _ => simp [binA] at h
  | agg xs =>
    cases y with
    | agg ys =>
      have hg : P.eqGuardType P.depth t = false := by
        have := eqGuard_plain 10 (P.depth - 10) t hp
        rwa [show P.depth - 10 + 10 = P.depth from by omega] at this
      cases op <;> simp only [binA, Option.map_eq_some_iff, Prod.mk.injEq, reduceCtorEq] at h
      · obtain ⟨b, hb, _, rfl⟩ := h
        have := run_eqv 10 9990 t _ _ b w hb
        simp [eqGuard, program, hg, binOp, Op.equal, Op.maxDepth, this, Sem.run]
      · obtain ⟨b, hb, _, rfl⟩ := h
        have := run_eqv 10 9990 t _ _ b w hb
        simp [eqGuard, program, hg, binOp, Op.equal, Op.maxDepth, this, Sem.run]
    | _ => simp [binA] at h
  | _ => simp [binA] at h
end RX
