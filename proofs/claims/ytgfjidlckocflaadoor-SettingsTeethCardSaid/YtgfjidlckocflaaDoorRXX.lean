/- RX, part X: further operations: make, slices of strings, slices and arrays, append in place, bytes to a string. -/
import Derived.Test.YtgfjidlckocflaaDoorRX7
import Derived.Lib.Strings
import Derived.Laws.BytesString
namespace RX
open Go Go.RowKit
set_option linter.unusedVariables false
set_option linter.unusedSimpArgs false

def bnd1 (v : Option Value) (y d : Nat) : Option (Bool × Nat) :=
  match v with
  | none => some (true, d)
  | some (.int _ i) => some (decide (0 ≤ i) && decide (i ≤ (y : Int)), i.toNat)
  | some _ => none
def subL (l : List UInt8) (a b : Nat) : ByteArray := ⟨⟨(l.drop a).take (b - a)⟩⟩
def offBy (lo : Option Value) (cap l o k : Nat) : Nat := match lo with | none => o | some _ => bif Nat.beq cap l then o else o + k
def effSlice (P : Program) (t : TypeId) (x : Value) (lo hi : Option Value) : Option Rc :=
  match P.underlying t, x with
  | some .string, .string s =>
    (match bnd1 hi s.size s.size with
    | some (n1, h) => (match bnd1 lo h 0 with
      | some (n2, l) => some ⟨n1 && n2, ⟨.string (subL s.data.toList l h), [], []⟩⟩
      | none => none)
    | none => none)
  | some (.slice e), .slice none len cap =>
    (match tSize P e, bnd1 hi cap len with
    | some sz, some (n1, h) => (match bnd1 lo h 0 with
      | some (n2, l) => some ⟨n1 && n2, ⟨.slice none (h - l) (cap - l), [], []⟩⟩
      | none => none)
    | _, _ => none)
  | some (.slice e), .slice (some ⟨b, o, none⟩) len cap =>
    (match tSize P e, bnd1 hi cap len with
    | some sz, some (n1, h) => (match bnd1 lo h 0 with
      | some (n2, l) => some ⟨n1 && n2, ⟨.slice (some ⟨b, offBy lo cap l o (l * sz), none⟩) (h - l) (cap - l), [], []⟩⟩
      | none => none)
    | _, _ => none)
  | some (.array n e), .pointer (some ⟨b, o, none⟩) =>
    (match tSize P e, bnd1 hi n n with
    | some sz, some (n1, h) => (match bnd1 lo h 0 with
      | some (n2, l) => some ⟨n1 && n2, ⟨.slice (some ⟨b, offBy lo n l o (l * sz), none⟩) (h - l) (n - l), [], []⟩⟩
      | none => none)
    | _, _ => none)
  | _, _ => none
def zerosL (z : Value) (n : Nat) : List Value := (List.range n).map fun j => (cellsL z).getD (j % (cellsL z).length) default
/-- A new block of zeros. -/
def mkZ (e : TypeId) (z : Value) (n : Nat) : Blk :=
  bif IS then (match z with | .int k 0 => .is k (List.replicate n 0) e | z => .cs (zerosL z n) e) else .cs (zerosL z n) e
def effMakeSlice (P : Program) (nm : Nat) (t : TypeId) (l c : Value) : Option Rc :=
  match P.underlying t, l, c with
  | some (.slice e), .int _ l, .int _ c =>
    (match P.info? e, tSize P e, tZero P e with
    | some ie, some s, some z =>
      bif clo 8 z then some ⟨decide (0 ≤ l) && (decide (l ≤ c) && (decide (c ≤ 140737488355328) && decide (ie.bytes * c ≤ 140737488355328))), ⟨.slice (some ⟨nm, 0, none⟩) l.toNat c.toNat, [], [(nm, mkZ e z (c.toNat * s))]⟩⟩ else none
    | _, _, _ => none)
  | _, _, _ => none
def byteOf : Value → Option UInt8
  | .int .u8 n => some (UInt8.ofNat n.toNat)
  | _ => none
def bytesOf : List Value → Option (List UInt8)
  | [] => some []
  | v :: r => match byteOf v, bytesOf r with
    | some b, some l => some (b :: l)
    | _, _ => none
def effStr (P : Program) (s d : TypeId) (x : Value) (H : Heap) : Option Rc :=
  match P.underlying s, P.underlying d, x with
  | some (.slice e), some .string, .slice none _ _ => (match P.underlying e with | some (.int .u8) => Rc.of (.string ⟨⟨[]⟩⟩) [] [] | _ => none)
  | some (.slice e), some .string, .slice (some ⟨b, o, none⟩) len _ =>
    (match P.underlying e, look H b with
    | some (.int .u8), some (.cs C _) => (match takeN o len C with
      | some cs => (match bytesOf cs with | some l => Rc.of (.string ⟨⟨l⟩⟩) [b] [] | none => none)
      | none => none)
    | some (.int .u8), some (.is .u8 xs _) => some ⟨Nat.ble (o + len) xs.length, ⟨.string ⟨⟨((xs.drop o).take len).map fun n => UInt8.ofNat n.toNat⟩⟩, [b], []⟩⟩
    | _, _ => none)
  | _, _, _ => none
/-- The cells that are appended, how many elements they are, the blocks that were read. -/
def srcCells (H : Heap) (s : Nat) : Value → Option (Nat × List Value × List Nat)
  | .slice none n _ => bif Nat.beq n 0 then some (0, [], []) else none
  | .slice (some ⟨b, o, none⟩) n _ => (match look H b with
    | some (.cs C _) => (match takeN o (n * s) C with | some l => some (n, l, [b]) | none => none)
    | _ => none)
  | _ => none
def isIntT (P : Program) (t : TypeId) : Option Bool := match P.underlying t with | some (.int _) => some true | some _ => some false | none => none
def intsOf (k : IntKind) : List Value → Option (List Int)
  | [] => some []
  | .int k' n :: r => bif kbeq k k' then (match intsOf k r with | some l => some (n :: l) | none => none) else none
  | _ => none
/-- The list xs with vs from place i on. -/
def wr (xs : List Int) : Nat → List Int → List Int
  | _, [] => xs
  | i, v :: r => wr (xs.set i v) (i + 1) r
def effAppend (P : Program) (ts : List TypeId) (xs : List Value) (H : Heap) : Option Rc :=
  match ts, xs with
  | t :: t2 :: _, [.slice (some ⟨b, o, none⟩) len cap, x] =>
    (match P.underlying t, isIntT P t2 with
    | some (.slice e), some false =>
      (match tSize P e with
      | some s => (match srcCells H s x with
        | some (n, cells, rs) =>
          (match look H b with
          | some (.cs C ty) => bif cells.all cellOk then
              (match putN (o + len * s) cells C with
              | some C' => some ⟨decide (len + n ≤ cap), ⟨.slice (some ⟨b, o, none⟩) (len + n) cap, b :: rs, [(b, .cs C' ty)]⟩⟩
              | none => none) else none
          | some (.is k xs ty) =>
            (match intsOf k cells with
            | some vs => some ⟨Nat.ble (len + n) cap && (Nat.beq s 1 && Nat.ble (o + len + vs.length) xs.length), ⟨.slice (some ⟨b, o, none⟩) (len + n) cap, b :: rs, [(b, .is k (wr xs (o + len) vs) ty)]⟩⟩
            | none => none)
          | _ => none)
        | none => none)
      | none => none)
    | _, _ => none)
  | _, _ => none
/-- An element's address in a package-level array, and its load. -/
def effIndexG (P : Program) (t : TypeId) (x i : Value) : Option Rc :=
  match x, i with
  | .pointer (some ⟨b, o, some s⟩), .int _ n =>
    (match P.underlying t with
    | some (.array len e) => (match tSize P e with
      | some sz => some ⟨decide (0 ≤ n) && decide (n < len), ⟨.pointer (some ⟨b, o + n.toNat * sz, some s⟩), [], []⟩⟩
      | none => none)
    | _ => none)
  | _, _ => none
def effLoadG (P : Program) (t : TypeId) : Value → Option Rc
  | .pointer (some ⟨b, o, some _⟩) =>
    (match tAgg P t, look TB b with
    | some false, some C => (match takeN o 1 C with
      | some [v] => bif clo 8 v then Rc.of v [] [] else none
      | _ => none)
    | _, _ => none)
  | _ => none
def effX (P : Program) (nm : Nat) (o : Oper) (T : List Value) (H : Heap) : Option Rc :=
  bif o.op.operands.toList.all evOk then
    match o.op with
    | .indexAddr t x i => effIndexG P t (ev T x) (ev T i)
    | .load t x => effLoadG P t (ev T x)
    | .slice t x lo hi none => effSlice P t (ev T x) (lo.map (ev T)) (hi.map (ev T))
    | .makeSlice t l c => effMakeSlice P nm t (ev T l) (ev T c)
    | .convert s d x => effStr P s d (ev T x) H
    | .call c =>
      (match c.callee with
      | .builtin .append => effAppend P c.argTypes.toList (c.args.toList.map (ev T)) H
      | _ => none)
    | _ => none
  else none

section
variable {P : Program} {o : Oper} {nm nx : Nat} {T : List Value} {H : Heap}
theorem run_bnd1 {v : Option Value} {y d : Nat} {n : Bool} {k : Nat} (h : bnd1 v y d = some (n, k)) (hn : n = true) (g : Nat → Nat) (code : BoundsCode) (w : World) :
    (match v.map (ren g) with | some u => Instr.sliceBound u y code | none => pure d : Sem Nat).run P w = .ok k w := by
  unfold bnd1 at h
  split at h
  · simp only [Option.some.injEq, Prod.mk.injEq] at h
    obtain ⟨_, rfl⟩ := h
    simp
  · rename_i kk i
    simp only [Option.some.injEq, Prod.mk.injEq] at h
    obtain ⟨h1, rfl⟩ := h
    subst hn
    simp only [Bool.and_eq_true, decide_eq_true_eq] at h1
    have hc : 0 ≤ i ∧ i ≤ (y : Int) := h1
    simp only [Option.map_some, ren_int, Instr.sliceBound, asIntOf, Sem.run_bind, Sem.run_pure, Result.andThen_ok]
    rw [if_pos hc]
    simp
  · simp at h
theorem run_bounds {isS : Bool} {len cap : Nat} {lo hi : Option Value} {n1 n2 : Bool} {hh l : Nat} (h1 : bnd1 hi cap len = some (n1, hh)) (h2 : bnd1 lo hh 0 = some (n2, l)) (hn : (n1 && n2) = true) (g : Nat → Nat) (w : World) :
    (Instr.sliceBounds isS len cap (lo.map (ren g)) (hi.map (ren g)) none).run P w = .ok (l, hh, cap) w := by
  rw [Bool.and_eq_true] at hn
  have a1 := run_bnd1 (P := P) h1 hn.1 g (if isS = true then .sliceAcap else .sliceAlen) w
  have a2 := run_bnd1 (P := P) h2 hn.2 g .sliceB w
  unfold Instr.sliceBounds
  cases hi with
  | none =>
    simp only [Option.map_none] at a1
    have e : len = hh := by simpa using a1
    subst e
    cases lo with
    | none =>
      simp only [Option.map_none] at a2
      have e : 0 = l := by simpa using a2
      subst e
      simp
    | some u =>
      simp only [Option.map_some] at a2
      simp [a2]
  | some v =>
    simp only [Option.map_some] at a1
    cases lo with
    | none =>
      simp only [Option.map_none] at a2
      have e : 0 = l := by simpa using a2
      subst e
      simp [a1]
    | some u =>
      simp only [Option.map_some] at a2
      simp [a1, a2]
theorem eval_opt {a : Act} {g : Nat → Nat} (tr : TRel g T nx a) {x : Option Operand} (h : ∀ y, x = some y → evOk y = true) : x.map a.eval = (x.map (ev T)).map (ren g) := by
  cases x with
  | none => rfl
  | some y => simp [tr.eval (h y rfl)]
theorem offBy_eq {lo : Option Value} {n1 : Bool} {y cap l o k s : Nat} (h : bnd1 lo y 0 = some (n1, l)) (hk : k = l * s) : offBy lo cap l o k = if cap = l then o else o + k := by
  unfold offBy
  cases lo with
  | none =>
    simp only [bnd1, Option.some.injEq, Prod.mk.injEq] at h
    obtain ⟨_, rfl⟩ := h
    subst hk
    simp
  | some v =>
    simp only
    by_cases hc : cap = l
    · subst hc; simp
    · rw [if_neg hc, beq_ne hc]; rfl
theorem sub_eq (s : ByteArray) (l h : Nat) : subL s.data.toList l h = s.extract l h := by
  have e := Lib.extract_data s l h
  generalize s.extract l h = t at *
  obtain ⟨⟨m⟩⟩ := t
  simp only at e
  rw [subL, ← e]
theorem ptr_bnd {b o o' : Nat} {l c l' c' : Nat} (h : Bnd nx (.slice (some ⟨b, o, none⟩) l c)) : Bnd nx (.slice (some ⟨b, o', none⟩) l' c') := by
  intro g1 g2 e12
  have := h g1 g2 e12
  simp only [ren_slice, Value.slice.injEq, Option.some.injEq, Addr.mk.injEq, and_true] at this
  simp [this]
theorem ptr_bnd' {b o o' : Nat} {l' c' : Nat} (h : Bnd nx (.pointer (some ⟨b, o, none⟩))) : Bnd nx (.slice (some ⟨b, o', none⟩) l' c') := by
  intro g1 g2 e12
  have := h g1 g2 e12
  simp only [ren_ptr, Value.pointer.injEq, Option.some.injEq, Addr.mk.injEq, and_true] at this
  simp [this]
theorem goes_slice {t : TypeId} {x : Operand} {lo hi : Option Operand} {rc : Rc} (ho : o.op = .slice t x lo hi none) (hx : evOk x = true) (hlo : ∀ y, lo = some y → evOk y = true) (hhi : ∀ y, hi = some y → evOk y = true)
    (h : effSlice P t (ev T x) (lo.map (ev T)) (hi.map (ev T)) = some rc) (hn : rc.need = true) : Goes P o nm nx T H rc.r := by
  unfold effSlice at h
  split at h
  · rename_i s ht hv
    split at h
    · rename_i n1 hh h1
      split at h
      · rename_i n2 l h2
        injection h with h; subst h
        refine Goes.pure fun W0 out g a w tr hr => ⟨fun g1 g2 _ => by simp, ?_⟩
        have hex : a.eval x = .string s := by rw [tr.eval hx, hv]; simp
        have hb := run_bounds (P := P) (isS := false) h1 h2 hn g w
        simp only [execOp, ho, hex, Instr.sliceAt, Instr.slice, Sem.run_bind, run_underlying ht, Result.andThen_ok, eval_opt tr hlo, eval_opt tr hhi, Option.map_none, Option.isSome_none, Bool.false_eq_true, if_false, Sem.run_bind, hb, Result.andThen_ok, Sem.run_pure, ren_string, sub_eq]
      · simp at h
    · simp at h
  · rename_i e len cap ht hv
    split at h
    · rename_i sz n1 hh hs h1
      split at h
      · rename_i n2 l h2
        injection h with h; subst h
        refine Goes.pure fun W0 out g a w tr hr => ⟨fun g1 g2 _ => by simp, ?_⟩
        have hex : a.eval x = .slice none len cap := by rw [tr.eval hx, hv]; simp
        have hb := run_bounds (P := P) (isS := true) h1 h2 hn g w
        simp only [execOp, ho, hex, Instr.sliceAt, Instr.slice, Sem.run_bind, run_underlying ht, Result.andThen_ok, eval_opt tr hlo, eval_opt tr hhi, Option.map_none, hb, run_size hs, Sem.run_pure, ren_nilslice]
        simp
      · simp at h
    · simp at h
  · rename_i e b off len cap ht hv
    split at h
    · rename_i sz n1 hh hs h1
      split at h
      · rename_i n2 l h2
        injection h with h; subst h
        refine Goes.pure fun W0 out g a w tr hr => ⟨?_, ?_⟩
        · have := tr.bndEv x
          rw [hv] at this
          exact ptr_bnd this
        have hex : a.eval x = .slice (some ⟨g b, off, none⟩) len cap := by rw [tr.eval hx, hv]; simp
        have hb := run_bounds (P := P) (isS := true) h1 h2 hn g w
        simp only [execOp, ho, hex, Instr.sliceAt, Instr.slice, Sem.run_bind, run_underlying ht, Result.andThen_ok, eval_opt tr hlo, eval_opt tr hhi, Option.map_none, hb, run_size hs, Sem.run_pure, ren_slice, offBy_eq (s := sz) h2 rfl]
        split <;> simp [add_plain]
      · simp at h
    · simp at h
  · rename_i n e b off ht hv
    split at h
    · rename_i sz n1 hh hs h1
      split at h
      · rename_i n2 l h2
        injection h with h; subst h
        refine Goes.pure fun W0 out g a w tr hr => ⟨?_, ?_⟩
        · have := tr.bndEv x
          rw [hv] at this
          exact ptr_bnd' this
        have hex : a.eval x = .pointer (some ⟨g b, off, none⟩) := by rw [tr.eval hx, hv]; simp
        have hb := run_bounds (P := P) (isS := false) h1 h2 hn g w
        simp only [execOp, ho, hex, Instr.sliceAt, Instr.sureAddr, Sem.run_bind, run_underlying ht, Result.andThen_ok, eval_opt tr hlo, eval_opt tr hhi, Option.map_none, hb, run_size hs, Sem.run_pure, ren_slice, offBy_eq (s := sz) h2 rfl]
        split <;> simp [add_plain]
      · simp at h
    · simp at h
  · simp at h
theorem zeros_clo {z : Value} (hz : Clo z) (n : Nat) : ∀ c ∈ zerosL z n, Clo c := by
  intro c hc
  obtain ⟨j, _, rfl⟩ := List.mem_map.1 hc
  rw [List.getD_eq_getElem?_getD]
  cases hg : (cellsL z)[j % (cellsL z).length]? with
  | none => intro g; simp [default, instInhabitedValue.default]
  | some u =>
    intro g
    have e : (cellsL z).map (ren g) = cellsL z := by rw [← cellsL_ren, hz g]
    have := map_eq_iff (f := ren g) (g := id) (by rw [e]; simp) u (List.mem_of_getElem? hg)
    simpa using this
theorem wid {n : Int} (h : 0 ≤ n) (h' : n ≤ 140737488355328) : IntKind.i64.wrap n = n := by
  simp only [IntKind.wrap, IntKind.signed, IntKind.bits, Bool.true_and]
  split
  · rename_i hc; have := of_decide_eq_true hc; omega
  · omega
theorem mkZ_eq (e : TypeId) (z : Value) (n : Nat) : (mkZ e z n).cells = zerosL z n ∧ (mkZ e z n).ty = e := by
  unfold mkZ
  cases IS with
  | false => exact ⟨rfl, rfl⟩
  | true =>
    simp only [cond_true]
    split
    · rename_i k
      refine ⟨?_, rfl⟩
      show (List.replicate n (0 : Int)).map (Value.int k) = zerosL (.int k 0) n
      rw [List.map_replicate]
      unfold zerosL
      have h1 : cellsL (.int k 0) = [.int k 0] := rfl
      refine List.ext_getElem (by simp) fun i h2 h3 => ?_
      rw [List.getElem_replicate, List.getElem_map]
      simp [h1, Nat.mod_one]
    · exact ⟨rfl, rfl⟩
theorem zeros_eq (z : Value) (n : Nat) : (Array.range n).map (fun x => z.cells[x % z.cells.size]!) = ⟨zerosL z n⟩ := by
  apply Array.toList_inj.1
  simp only [Array.toList_map, Array.toList_range, zerosL]
  refine List.map_congr_left fun j _ => ?_
  rw [cells_eq z]
  simp [List.getD_eq_getElem?_getD]
theorem run_info {t : TypeId} {i : TypeInfo} (h : P.info? t = some i) (w : World) : (typeInfo t).run P w = .ok i w := by simp [typeInfo, h]
theorem goes_makeSlice {t : TypeId} {l c : Operand} {rc : Rc} (hn : nm + 16 ≤ nx) (ho : o.op = .makeSlice t l c) (hl : evOk l = true) (hc : evOk c = true) (h : effMakeSlice P nm t (ev T l) (ev T c) = some rc) (hneed : rc.need = true) : Goes P o nm nx T H rc.r := by
  unfold effMakeSlice at h
  split at h
  · rename_i e kl l' kc c' ht hvl hvc
    split at h
    · rename_i ie s z hi hs hz
      cases hcz : clo 8 z with
      | false => simp [hcz] at h
      | true =>
        simp only [hcz, cond_true, Option.some.injEq] at h
        subst h
        simp only [Bool.and_eq_true, decide_eq_true_eq] at hneed
        obtain ⟨d1, d2, d3, d4⟩ := hneed
        have hcl := zeros_clo (clo_spec 8 z hcz) (c'.toNat * s)
        obtain ⟨mz1, mz2⟩ := mkZ_eq e z (c'.toNat * s)
        refine goes_new (v := fun n => .slice (some ⟨n, 0, none⟩) l'.toNat c'.toNat) hn (fun g => by simp) fun W0 out g a w tr hr fr => ⟨fun u hu => by rw [mz1] at hu; exact ⟨(hcl u hu).bnd nx, ((hcl u hu).bnd nm).fr⟩, ?_⟩
        rw [mz1, mz2]
        have hel : a.eval l = .int kl l' := by rw [tr.eval hl, hvl]; simp
        have hec : a.eval c = .int kc c' := by rw [tr.eval hc, hvc]; simp
        have w1 : IntKind.i64.wrap l' = l' := wid (by omega) (by omega)
        have w2 : IntKind.i64.wrap c' = c' := wid (by omega) (by omega)
        have e1 : (zerosL z (c'.toNat * s)).map (ren g) = zerosL z (c'.toNat * s) := map_clo hcl g
        have t1 : ¬ (decide (c' < 0) || decide ((ie.bytes : Int) * c' > 2 ^ 48)) = true := by simp; omega
        have t2 : ¬ ((decide (c' < 0) || decide ((ie.bytes : Int) * c' > 2 ^ 48)) || decide (l' < 0) || decide (l' > c')) = true := by simp; omega
        have t3 : ¬ (c'.toNat * ie.bytes > roomBytes) := by
          have : ((c'.toNat * ie.bytes : Nat) : Int) = ie.bytes * c' := by rw [Int.natCast_mul, Int.toNat_of_nonneg (by omega), Int.mul_comm]
          simp only [roomBytes]
          omega
        have t4 : ¬ (decide (c' < 0) = true ∨ decide ((ie.bytes : Int) * c' > 2 ^ 48) = true) := by simp; omega
        simp only [execOp, ho, hel, hec, Instr.makeSlice, asInt, asIntOf, Sem.run_bind, run_underlying ht, Result.andThen_ok, Sem.run_pure, run_info hi, w1, w2, run_size hs]
        rw [if_neg t2]
        simp only [askRoom, if_neg t3, Sem.run_bind, Sem.run_pure, Result.andThen_ok]
        by_cases h0 : c'.toNat * s = 0
        · rw [run_size hs]
          simp [h0, newRow, newObj, Sem.run, Blk.cells, Blk.ty, zerosL, World.alloc_eq]
          exact congrArg (fun x => w.alloc (Obj.cells x e)) (Array.toList_inj.1 (by simp))
        · rw [run_size hs]
          simp only [Result.andThen_ok, h0, if_false, Sem.run_bind, run_zero hz, Sem.run_pure, zeros_eq, newRow, newObj, Sem.run, Blk.cells, Blk.ty, e1, World.alloc_eq]
    · simp at h
  · simp at h
theorem byteOf_ren (g : Nat → Nat) {v : Value} {b : UInt8} (h : byteOf v = some b) : ∃ n : Int, v = .int .u8 n ∧ b = UInt8.ofNat n.toNat := by
  unfold byteOf at h
  split at h
  · rename_i n; injection h with h; exact ⟨n, rfl, h.symm⟩
  · simp at h
theorem bytesOf_inv : ∀ {l : List Value} {bs : List UInt8}, bytesOf l = some bs → ∃ ns : List Int, l = ns.map (Value.int .u8) ∧ bs = ns.map fun n => UInt8.ofNat n.toNat
  | [], bs, h => by simp [bytesOf] at h; subst h; exact ⟨[], rfl, rfl⟩
  | v :: r, bs, h => by
    simp only [bytesOf] at h
    split at h
    · rename_i b l hb hl
      injection h with h; subst h
      obtain ⟨n, rfl, rfl⟩ := byteOf_ren id hb
      obtain ⟨ns, rfl, rfl⟩ := bytesOf_inv hl
      exact ⟨n :: ns, rfl, rfl⟩
    · simp at h
theorem push_all : ∀ (ns : List Int) (s : List UInt8), ns.foldl (fun (r : ByteArray) n => r.push (UInt8.ofNat n.toNat)) ⟨⟨s⟩⟩ = ⟨⟨s ++ ns.map fun n => UInt8.ofNat n.toNat⟩⟩
  | [], s => by simp
  | n :: ns, s => by
    simp only [List.foldl_cons]
    have : ByteArray.push ⟨⟨s⟩⟩ (UInt8.ofNat n.toNat) = ⟨⟨s ++ [UInt8.ofNat n.toNat]⟩⟩ := by
      show ByteArray.mk (Array.push ⟨s⟩ _) = _
      simp
    rw [this, push_all ns]
    simp
theorem goes_str {s d : TypeId} {x : Operand} {rc : Rc} (ho : o.op = .convert s d x) (hx : evOk x = true) (h : effStr P s d (ev T x) H = some rc) (hneed : rc.need = true) : Goes P o nm nx T H rc.r := by
  unfold effStr at h
  split at h
  · rename_i e l c hs hd hv
    split at h
    · rename_i he
      have := Rc.of_inv h; subst this
      refine Goes.pure fun W0 out g a w tr hr => ⟨fun g1 g2 _ => by simp, ?_⟩
      have hex : a.eval x = .slice none l c := by rw [tr.eval hx, hv]; simp
      simp [execOp, ho, hex, run_convert_bytes_string w s d e none l c hs he hd, Conv.bytesToString]
      rfl
    · simp at h
  · rename_i e b off len c hs hd hv
    split at h
    · rename_i C ty he hl
      split at h
      · rename_i cs hc
        split at h
        · rename_i bs hb
          have := Rc.of_inv h; subst this
          refine Goes.pure fun W0 out g a w tr hr => ⟨fun g1 g2 _ => by simp, ?_⟩
          have hex : a.eval x = .slice (some ⟨g b, off, none⟩) len c := by rw [tr.eval hx, hv]; simp
          obtain ⟨ns, rfl, rfl⟩ := bytesOf_inv hb
          have hm := hr.mem b _ hl
          have hc' := takeN_map (ren g) _ _ _ _ hc
          have hce : (ns.map (Value.int .u8)).map (ren g) = ns.map (Value.int .u8) := by rw [List.map_map]; exact List.map_congr_left fun n _ => by simp
          rw [hce] at hc'
          obtain ⟨h1, h2⟩ := takeN_spec _ _ _ _ hc'
          have hld : (loadCells ⟨g b, off, none⟩ len).run P w = .ok (ns.map (Value.int .u8)).toArray w := by
            have := run_loadCells (P := P) hm len 0 #[] (by simpa [Blk.cells] using h2)
            simp only [Nat.add_zero] at this
            unfold loadCells
            rw [this, h1]
            simp [Blk.cells]
          have := run_bytesToString w _ len c ns hld
          have e0 : ByteArray.empty = ⟨⟨[]⟩⟩ := rfl
          rw [e0, push_all] at this
          simp only [execOp, ho, hex, Sem.run_bind, run_convert_bytes_string w s d e _ len c hs he hd, this, Result.andThen_ok, Sem.run_pure, ren_string, List.nil_append]
        · simp at h
      · simp at h
    · rename_i xs ty he hl
      injection h with h; subst h
      have hneed' : off + len ≤ xs.length := Nat.le_of_ble_eq_true hneed
      refine Goes.pure fun W0 out g a w tr hr => ⟨fun g1 g2 _ => by simp, ?_⟩
      have hex : a.eval x = .slice (some ⟨g b, off, none⟩) len c := by rw [tr.eval hx, hv]; simp
      have hm := hr.mem b _ hl
      have hld : (loadCells ⟨g b, off, none⟩ len).run P w = .ok (((xs.drop off).take len).map (Value.int .u8)).toArray w := by
        have := run_loadCells (P := P) hm len 0 #[] (by simpa [Blk.cells] using hneed')
        simp only [Nat.add_zero] at this
        unfold loadCells
        rw [this]
        have e1 : (Value.int IntKind.u8 ∘ id) = Value.int IntKind.u8 := rfl
        simp only [Blk.cells, List.map_map, Array.empty_append, List.map_drop, List.map_take]
        congr 3
      have := run_bytesToString w _ len c ((xs.drop off).take len) hld
      have e0 : ByteArray.empty = ⟨⟨[]⟩⟩ := rfl
      rw [e0, push_all] at this
      simp only [execOp, ho, hex, Sem.run_bind, run_convert_bytes_string w s d e _ len c hs he hd, this, Result.andThen_ok, Sem.run_pure, ren_string, List.nil_append]
    · simp at h
  · simp at h
theorem srcCells_run {s : Nat} {x : Value} {n : Nat} {cells : List Value} {rs : List Nat} (h : srcCells H s x = some (n, cells, rs)) {W0 : World} {out : Nat → Prop} {g : Nat → Nat} {w : World} (hr : HRel W0 out g H nx w) :
    (Builtin.lenOf (ren g x)).run P w = .ok n w ∧ (Builtin.firstCells s n (ren g x)).run P w = .ok ⟨cells.map (ren g)⟩ w ∧ ∀ c ∈ cells, Bnd nx c := by
  unfold srcCells at h
  split at h
  · rename_i m c
    cases hb : Nat.beq m 0 with
    | false => simp [hb] at h
    | true =>
      have := Nat.eq_of_beq_eq_true hb
      subst this
      simp only [hb, cond_true, Option.some.injEq, Prod.mk.injEq] at h
      obtain ⟨rfl, rfl, _⟩ := h
      exact ⟨by simp [Builtin.lenOf], by simp [Builtin.firstCells], by simp⟩
  · rename_i b off m c
    split at h
    · rename_i C ty hl
      split at h
      · rename_i l hc
        simp only [Option.some.injEq, Prod.mk.injEq] at h
        obtain ⟨rfl, rfl, _⟩ := h
        have hm := hr.mem b _ hl
        have hc' := takeN_map (ren g) _ _ _ _ hc
        obtain ⟨h1, h2⟩ := takeN_spec _ _ _ _ hc'
        refine ⟨by simp [Builtin.lenOf], ?_, fun u hu => ?_⟩
        · have := run_loadCells (P := P) hm (m * s) 0 #[] (by simpa [Blk.cells] using h2)
          simp only [Nat.add_zero] at this
          simp only [ren_slice, Builtin.firstCells, loadCells]
          rw [this, h1]
          simp [Blk.cells]
        · obtain ⟨h3, _⟩ := takeN_spec _ _ _ _ hc
          rw [h3] at hu
          exact hr.bnd b _ hl u (List.mem_of_mem_drop (List.mem_of_mem_take hu))
      · simp at h
    · simp at h
  · simp at h
theorem intsOf_inv {k : IntKind} : ∀ {l : List Value} {vs : List Int}, intsOf k l = some vs → l = vs.map (Value.int k)
  | [], vs, h => by simp [intsOf] at h; subst h; rfl
  | .int k' n :: r, vs, h => by
    simp only [intsOf] at h
    cases hk : kbeq k k' with
    | false => simp [hk] at h
    | true =>
      obtain rfl := kbeq_eq hk
      simp only [hk, cond_true] at h
      split at h
      · rename_i l hl
        injection h with h; subst h
        rw [intsOf_inv hl]; rfl
      · simp at h
  | .bool _ :: _, _, h => by simp [intsOf] at h
  | .float _ _ :: _, _, h => by simp [intsOf] at h
  | .complex _ _ _ :: _, _, h => by simp [intsOf] at h
  | .string _ :: _, _, h => by simp [intsOf] at h
  | .pointer _ :: _, _, h => by simp [intsOf] at h
  | .slice _ _ _ :: _, _, h => by simp [intsOf] at h
  | .map _ :: _, _, h => by simp [intsOf] at h
  | .chan _ :: _, _, h => by simp [intsOf] at h
  | .func _ _ _ :: _, _, h => by simp [intsOf] at h
  | .nilFunc :: _, _, h => by simp [intsOf] at h
  | .iface _ _ :: _, _, h => by simp [intsOf] at h
  | .nilIface :: _, _, h => by simp [intsOf] at h
  | .agg _ :: _, _, h => by simp [intsOf] at h
  | .tuple _ :: _, _, h => by simp [intsOf] at h
theorem putN_nil_some : ∀ (o : Nat) (C : List Value), o ≤ C.length → putN o [] C = some C
  | 0, [], _ => rfl
  | 0, _ :: _, _ => rfl
  | o + 1, y :: C, h => by simp [putN, putN_nil_some o C (by simpa using h)]
  | o + 1, [], h => by simp at h
theorem putN_step (x : Value) (r : List Value) : ∀ (o : Nat) (C : List Value), o < C.length → putN o (x :: r) C = putN (o + 1) r (C.set o x)
  | 0, y :: C, _ => by simp [putN]
  | o + 1, y :: C, h => by simp [putN, putN_step x r o C (by simpa using h)]
  | o, [], h => by simp at h
theorem wr_length : ∀ (vs : List Int) (xs : List Int) (i : Nat), (wr xs i vs).length = xs.length
  | [], xs, i => rfl
  | v :: r, xs, i => by simp [wr, wr_length r]
theorem putN_wr {k : IntKind} : ∀ (vs xs : List Int) (i : Nat), i + vs.length ≤ xs.length → putN i (vs.map (Value.int k)) (xs.map (Value.int k)) = some ((wr xs i vs).map (Value.int k))
  | [], xs, i, h => by simpa [wr] using putN_nil_some i (xs.map (Value.int k)) (by simpa using h)
  | v :: r, xs, i, h => by
    simp only [List.length_cons] at h
    rw [List.map_cons, putN_step _ _ _ _ (by simp; omega), wr, ← putN_wr r (xs.set i v) (i + 1) (by simp; omega), List.map_set]
theorem isInt_inv {t : TypeId} (h : isIntT P t = some false) : ∃ d, P.underlying t = some d ∧ ∀ k, d ≠ .int k := by
  unfold isIntT at h
  split at h
  · simp at h
  · rename_i d hd hu
    exact ⟨d, hu, fun k e => hd k e⟩
  · simp at h
theorem goes_append {c : Call} {rc : Rc} (ho : o.op = .call c) (hb : c.callee = .builtin .append) (hargs : ∀ x ∈ c.args.toList, evOk x = true) (h : effAppend P c.argTypes.toList (c.args.toList.map (ev T)) H = some rc) (hneed : rc.need = true) : Goes P o nm nx T H rc.r := by
  unfold effAppend at h
  split at h
  · rename_i t t2 ts b off len cap x e1 e2
    obtain ⟨p, q, ha, hp, hq⟩ : ∃ p q, c.args = #[p, q] ∧ ev T p = .slice (some ⟨b, off, none⟩) len cap ∧ ev T q = x := by
      clear h hneed hargs ho
      generalize c.args = A at *
      obtain ⟨l⟩ := A
      match l, e2 with
      | [], e2 => simp at e2
      | [_], e2 => simp at e2
      | _ :: _ :: _ :: _, e2 => simp at e2
      | [p, q], e2 => simp only [List.map_cons, List.map_nil, List.cons.injEq, and_true] at e2; exact ⟨p, q, rfl, e2.1, e2.2⟩
    have hpo : evOk p = true := hargs p (by simp [ha])
    have hqo : evOk q = true := hargs q (by simp [ha])
    obtain ⟨types, hty⟩ : ∃ A : Array TypeId, c.argTypes = ⟨t :: t2 :: ts⟩ ∧ A = c.argTypes := ⟨_, by rw [← e1], rfl⟩
    split at h
    · rename_i e hu hi
      split at h
      · rename_i s hs
        split at h
        · rename_i n cells rs hsrc
          split at h
          · rename_i C ty hl
            cases hok : cells.all cellOk with
            | false => simp [hok] at h
            | true =>
              simp only [hok, cond_true] at h
              split at h
              · rename_i C' hput
                injection h with h; subst h
                simp only [decide_eq_true_eq] at hneed
                refine ⟨fun W0 out g a w next Q tr hr fr k => ?_⟩
                have hm := hr.mem b _ hl
                have hep : a.eval p = .slice (some ⟨g b, off, none⟩) len cap := by rw [tr.eval hpo, hp]; simp
                have heq : a.eval q = ren g x := by rw [tr.eval hqo, hq]
                obtain ⟨r1, r2, r3⟩ := srcCells_run (P := P) hsrc hr
                have hput' := putN_map (ren g) _ _ _ _ hput
                have hcl : ∀ u ∈ cells.map (ren g), (∀ y, u ≠ .agg y) ∧ (∀ y, u ≠ .tuple y) := by
                  intro u hu'
                  obtain ⟨c', hc', rfl⟩ := List.mem_map.1 hu'
                  rw [List.all_eq_true] at hok
                  exact cellOk_ren g c' (hok c' hc')
                have hrun := run_storeCells (P := P) (b := g b) (off := off + len * s) (t := ty) (cells.map (ren g)) w _ _ 0 hm (by simpa [Blk.cells] using hput') hcl
                obtain ⟨dd, hd2, hdn⟩ := isInt_inv (P := P) hi
                have key : ∀ tt : TypeId, (Builtin.append_ c.argTypes tt #[a.eval p, a.eval q]).run P w = .ok (.slice (some ⟨g b, off, none⟩) (len + n) cap) (setBlk w (g b) (.cells ⟨C'.map (ren g)⟩ ty (0, 0))) := by
                  intro tt
                  rw [hty.1, hep, heq]
                  simp only [Builtin.append_, List.getElem?_toArray, List.getElem?_cons_zero, List.getElem?_cons_succ, Sem.run_bind, run_underlying hu, Result.andThen_ok, run_size hs, Sem.run_pure, run_underlying hd2]
                  cases dd <;> first
                    | exact absurd rfl (hdn _)
                    | simp only [Bool.false_eq_true, if_false, Sem.run_bind, r1, r2, Result.andThen_ok, hneed, if_true, Bool.not_false, Sem.run_pure, add_plain, hrun]
                refine wp_of_run (w' := setBlk w (g b) (.cells ⟨C'.map (ren g)⟩ ty (0, 0))) (u := .slice (some ⟨g b, off, none⟩) (len + n) cap) ?_ ?_
                · simp only [execOp, ho, resolve, hb, Sem.run_bind, Sem.run_pure, Result.andThen_ok, invoke, builtin, ha, List.map_cons, List.map_nil, List.map_toArray]
                  rw [key]
                  simp
                · have hbs : Bnd nx (.slice (some ⟨b, off, none⟩) (len + n) cap) := by
                    have := tr.bndEv p
                    rw [hp] at this
                    exact ptr_bnd this
                  have hrel := store_rel (c := .cs C' ty) hr hl rfl (fun u hu' => by
                    rcases putN_mem _ _ _ _ hput u hu' with h1 | h1
                    · exact r3 u h1
                    · exact hr.bnd b _ hl u h1)
                  have := k g _ (fun _ _ => rfl) tr (by simpa [app, Blk.cells, Blk.ty] using hrel) hbs
                  simpa using this
              · simp at h
          · rename_i k xs ty hl
            split at h
            · rename_i vs hvs
              injection h with h; subst h
              simp only [Bool.and_eq_true] at hneed
              obtain ⟨n1, n2, n3⟩ := hneed
              have n1 := Nat.le_of_ble_eq_true n1
              have n3 := Nat.le_of_ble_eq_true n3
              obtain rfl := Nat.eq_of_beq_eq_true n2
              obtain rfl := intsOf_inv hvs
              refine ⟨fun W0 out g a w next Q tr hr fr kk => ?_⟩
              have hm := hr.mem b _ hl
              have hep : a.eval p = .slice (some ⟨g b, off, none⟩) len cap := by rw [tr.eval hpo, hp]; simp
              have heq : a.eval q = ren g x := by rw [tr.eval hqo, hq]
              obtain ⟨r1, r2, r3⟩ := srcCells_run (P := P) hsrc hr
              have hrc : ∀ l : List Int, (l.map (Value.int k)).map (ren g) = l.map (Value.int k) := fun l => by rw [List.map_map]; exact List.map_congr_left fun n _ => by simp
              have hput' : putN (off + len * 1 + 0) (vs.map (Value.int k)) ((Blk.is k xs ty).cells.map (ren g)) = some ((wr xs (off + len) vs).map (Value.int k)) := by
                simp only [Blk.cells, hrc, Nat.mul_one, Nat.add_zero]
                exact putN_wr vs xs _ n3
              have hcl : ∀ u ∈ vs.map (Value.int k), (∀ y, u ≠ .agg y) ∧ (∀ y, u ≠ .tuple y) := by
                intro u hu'
                obtain ⟨c', _, rfl⟩ := List.mem_map.1 hu'
                simp
              have hrun := run_storeCells (P := P) (b := g b) (off := off + len * 1) (t := ty) (vs.map (Value.int k)) w _ _ 0 hm hput' hcl
              rw [hrc] at r2
              obtain ⟨dd, hd2, hdn⟩ := isInt_inv (P := P) hi
              have key : ∀ tt : TypeId, (Builtin.append_ c.argTypes tt #[a.eval p, a.eval q]).run P w = .ok (.slice (some ⟨g b, off, none⟩) (len + n) cap) (setBlk w (g b) (.cells ⟨(wr xs (off + len) vs).map (Value.int k)⟩ ty (0, 0))) := by
                intro tt
                rw [hty.1, hep, heq]
                simp only [Builtin.append_, List.getElem?_toArray, List.getElem?_cons_zero, List.getElem?_cons_succ, Sem.run_bind, run_underlying hu, Result.andThen_ok, run_size hs, Sem.run_pure, run_underlying hd2]
                cases dd <;> first
                  | exact absurd rfl (hdn _)
                  | simp only [Bool.false_eq_true, if_false, Sem.run_bind, r1, r2, Result.andThen_ok, n1, if_true, Bool.not_false, Sem.run_pure, add_plain, hrun]
              refine wp_of_run (w' := setBlk w (g b) (.cells ⟨(wr xs (off + len) vs).map (Value.int k)⟩ ty (0, 0))) (u := .slice (some ⟨g b, off, none⟩) (len + n) cap) ?_ ?_
              · simp only [execOp, ho, resolve, hb, Sem.run_bind, Sem.run_pure, Result.andThen_ok, invoke, builtin, ha, List.map_cons, List.map_nil, List.map_toArray]
                rw [key]
                simp
              · have hbs : Bnd nx (.slice (some ⟨b, off, none⟩) (len + n) cap) := by
                  have := tr.bndEv p
                  rw [hp] at this
                  exact ptr_bnd this
                have hrel := store_rel (c := .is k (wr xs (off + len) vs) ty) hr hl rfl (fun u hu' => by
                  obtain ⟨m, _, rfl⟩ := List.mem_map.1 hu'
                  exact fun g1 g2 _ => by simp)
                have := kk g _ (fun _ _ => rfl) tr (by simpa [app] using hrel) hbs
                simp only [Blk.cells, hrc, Blk.ty, ren_slice] at this
                exact this
            · simp at h
          · simp at h
        · simp at h
      · simp at h
    · simp at h
  · simp at h
theorem goes_indexG {t : TypeId} {x i : Operand} {u v : Value} {rc : Rc} (ho : o.op = .indexAddr t x i) (hx : evOk x = true) (hi : evOk i = true) (hu : ev T x = u) (hv : ev T i = v) (h : effIndexG P t u v = some rc) (hn : rc.need = true) : Goes P o nm nx T H rc.r := by
  unfold effIndexG at h
  split at h
  · rename_i b off s k n
    split at h
    · rename_i len e ht
      split at h
      · rename_i sz hs
        injection h with h; subst h
        simp only [Bool.and_eq_true, decide_eq_true_eq] at hn
        refine Goes.pure fun W0 out g a w tr hr => ⟨fun g1 g2 _ => by simp, ?_⟩
        have hex : a.eval x = .pointer (some ⟨b, off, none⟩) := by rw [tr.eval hx, hu]; simp
        have hei : a.eval i = .int k n := by rw [tr.eval hi, hv]; simp
        simp [execOp, ho, hex, hei, Instr.indexAt, Instr.sureAddr, asIntOf, run_underlying ht, run_size hs, hn.1, hn.2, add_plain]
      · simp at h
    · simp at h
  · simp at h
theorem look_mem {α : Type} {n : Nat} {a : α} : ∀ {l : List (Nat × α)}, look l n = some a → (n, a) ∈ l
  | [], h => by simp [look] at h
  | (m, b) :: r, h => by
    simp only [look] at h
    cases hb : Nat.beq m n with
    | true =>
      have := Nat.eq_of_beq_eq_true hb
      subst this
      simp only [hb, cond_true, Option.some.injEq] at h
      subst h
      simp
    | false =>
      rw [hb] at h
      exact List.mem_cons_of_mem _ (look_mem h)
theorem goes_loadG {t : TypeId} {x : Operand} {v : Value} {rc : Rc} (ho : o.op = .load t x) (hx : evOk x = true) (hv : ev T x = v) (h : effLoadG P t v = some rc) : Goes P o nm nx T H rc.r := by
  unfold effLoadG at h
  split at h
  · rename_i b off s
    split at h
    · rename_i C ha hl
      split at h
      · rename_i u hc
        cases hcl : clo 8 u with
        | false => simp [hcl] at h
        | true =>
          simp only [hcl, cond_true] at h
          have := Rc.of_inv h; subst this
          have hcu := clo_spec 8 u hcl
          refine Goes.pure fun W0 out g a w tr hr => ⟨hcu.bnd nx, ?_⟩
          have hex : a.eval x = .pointer (some ⟨b, off, none⟩) := by rw [tr.eval hx, hv]; simp
          obtain ⟨ob, hw, C', ty, fr, rfl, hC⟩ := hr.tabs _ (look_mem hl)
          have hu := hC off u (takeN_one hc)
          have hcell : w.cell? ⟨b, off, none⟩ = some u := by simp [World.cell?, show w.heap[b]? = some (.cells ⟨C'⟩ ty fr) from hw, hu]
          have hld : (load ⟨b, off, none⟩).run P w = .ok u w := by simp [load, Sem.run, hcell]
          simp only [execOp, ho, hex, Instr.loadAt, Instr.sureAddr, Sem.run_bind, Sem.run_pure, Result.andThen_ok, loadVar, run_isAgg ha, Bool.false_eq_true, if_false, hld, hcu g]
      · simp at h
    · simp at h
  · simp at h
theorem goes_x (hn : nm + 16 ≤ nx) {rc : Rc} (h : effX P nm o T H = some rc) (hneed : rc.need = true) : Goes P o nm nx T H rc.r := by
  unfold effX at h
  cases hall : o.op.operands.toList.all evOk with
  | false => simp [hall] at h
  | true =>
    simp only [hall, cond_true] at h
    rw [List.all_eq_true] at hall
    split at h
    · rename_i t x i ho
      exact goes_indexG ho (hall x (by simp [ho, Op.operands])) (hall i (by simp [ho, Op.operands])) rfl rfl h hneed
    · rename_i t x ho
      exact goes_loadG ho (hall x (by simp [ho, Op.operands])) rfl h
    · rename_i t x lo hi ho
      have hm : ∀ y, y ∈ o.op.operands.toList → evOk y = true := hall
      refine goes_slice ho (hall x (by simp [ho, Op.operands])) (fun y hy => hall y ?_) (fun y hy => hall y ?_) h hneed
      · subst hy; simp [ho, Op.operands]
      · subst hy; simp [ho, Op.operands]
    · rename_i t l c ho
      exact goes_makeSlice hn ho (hall l (by simp [ho, Op.operands])) (hall c (by simp [ho, Op.operands])) h hneed
    · rename_i s d x ho
      exact goes_str ho (hall x (by simp [ho, Op.operands])) h hneed
    · rename_i c ho
      split at h
      · rename_i hb
        exact goes_append ho hb (fun x hx => hall x (by simp [ho, Op.operands, Call.operands, hb]; simpa using hx)) h hneed
      · simp at h
    · simp at h
end
/-- Every operation. -/
def effC (P : Program) (nm : Nat) (o : Oper) (T : List Value) (H : Heap) : Option Rc :=
  match effOp P nm o T H with
  | some rc => some rc
  | none => effX P nm o T H
theorem goes_c {P : Program} {o : Oper} {nm nx : Nat} {T : List Value} {H : Heap} (hn : nm + 16 ≤ nx) {rc : Rc} (h : effC P nm o T H = some rc) (hneed : rc.need = true) : Goes P o nm nx T H rc.r := by
  unfold effC at h
  split at h
  · rename_i rc' hrc
    injection h with h
    subst h
    exact goes_op hn hrc hneed
  · exact goes_x hn h hneed
theorem effX_T {P : Program} {nm : Nat} {o : Oper} {T T' : List Value} {H : Heap} (h : ∀ x ∈ o.op.operands.toList, ev T' x = ev T x) : effX P nm o T' H = effX P nm o T H := by
  have opt : ∀ y : Option Operand, (∀ x, y = some x → ev T' x = ev T x) → y.map (ev T') = y.map (ev T) := fun y hy => by
    cases y with
    | none => rfl
    | some x => simp [hy x rfl]
  unfold effX
  cases hall : o.op.operands.toList.all evOk with
  | false => rfl
  | true =>
    simp only [cond_true]
    split
    · rename_i t x i ho; rw [h x (by simp [ho, Op.operands]), h i (by simp [ho, Op.operands])]
    · rename_i t x ho; rw [h x (by simp [ho, Op.operands])]
    · rename_i t x lo hi ho
      rw [h x (by simp [ho, Op.operands]), opt lo (fun y hy => h y (by subst hy; simp [ho, Op.operands])), opt hi (fun y hy => h y (by subst hy; simp [ho, Op.operands]))]
    · rename_i t l c ho; rw [h l (by simp [ho, Op.operands]), h c (by simp [ho, Op.operands])]
    · rename_i s d x ho; rw [h x (by simp [ho, Op.operands])]
    · rename_i c ho
      have : c.args.toList.map (ev T') = c.args.toList.map (ev T) := List.map_congr_left fun x hx => h x (by simp [ho, Op.operands, Call.operands]; right; simpa using hx)
      rw [this]
    · rfl
theorem effStr_H {P : Program} {s d : TypeId} {x : Value} {H H' : Heap} {rc : Rc} (h : effStr P s d x H = some rc) (hh : ∀ n ∈ rc.r.rs, look H' n = look H n) : effStr P s d x H' = some rc := by
  unfold effStr at h ⊢
  split at h
  · simp only [*] at h ⊢
  · rename_i e b o len c hs hd
    split at h
    · rename_i C ty he hl
      split at h
      · rename_i cs hc
        split at h
        · rename_i l hb
          have := Rc.of_inv h; subst this
          have hb' := hh b (by simp)
          simp [*, hb', hl, hc, hb, Rc.of]
        · simp at h
      · simp at h
    · rename_i xs ty he hl
      injection h with h; subst h
      have hb' := hh b (by simp)
      simp [he, hb', hl]
    · simp at h
  · simp at h
theorem effAppend_H {P : Program} {ts : List TypeId} {xs : List Value} {H H' : Heap} {rc : Rc} (h : effAppend P ts xs H = some rc) (hh : ∀ n ∈ rc.r.rs, look H' n = look H n) : effAppend P ts xs H' = some rc := by
  unfold effAppend at h ⊢
  split at h
  · rename_i t t2 r b o len cap x
    split at h
    · rename_i e hu hi
      split at h
      · rename_i s hs
        split at h
        · rename_i n cells rs hsrc
          split at h
          · rename_i C ty hl
            cases hok : cells.all cellOk with
            | false => simp [hok] at h
            | true =>
              simp only [hok, cond_true] at h
              split at h
              · rename_i C' hp
                injection h with h; subst h
                have hb := hh b (by simp)
                have hsrc' : srcCells H' s x = some (n, cells, rs) := by
                  unfold srcCells at hsrc ⊢
                  split at hsrc
                  · exact hsrc
                  · rename_i b2 o2 m c2
                    split at hsrc
                    · rename_i C2 ty2 hl2
                      split at hsrc
                      · rename_i l2 hc2
                        simp only [Option.some.injEq, Prod.mk.injEq] at hsrc
                        obtain ⟨rfl, rfl, rfl⟩ := hsrc
                        have hb2 := hh b2 (by simp)
                        simp [hb2, hl2, hc2]
                      · simp at hsrc
                    · simp at hsrc
                  · simp at hsrc
                simp [hu, hi, hs, hsrc', hb, hl, hok, hp]
              · simp at h
          · rename_i k xs2 ty hl
            split at h
            · rename_i vs hvs
              injection h with h; subst h
              have hb := hh b (by simp)
              have hsrc' : srcCells H' s x = some (n, cells, rs) := by
                unfold srcCells at hsrc ⊢
                split at hsrc
                · exact hsrc
                · rename_i b2 o2 m c2
                  split at hsrc
                  · rename_i C2 ty2 hl2
                    split at hsrc
                    · rename_i l2 hc2
                      simp only [Option.some.injEq, Prod.mk.injEq] at hsrc
                      obtain ⟨rfl, rfl, rfl⟩ := hsrc
                      have hb2 := hh b2 (by simp)
                      simp [hb2, hl2, hc2]
                    · simp at hsrc
                  · simp at hsrc
                · simp at hsrc
              simp [hu, hi, hs, hsrc', hb, hl, hvs]
            · simp at h
          · simp at h
        · simp at h
      · simp at h
    · simp at h
  · simp at h
theorem effX_H {P : Program} {nm : Nat} {o : Oper} {T : List Value} {H H' : Heap} {rc : Rc} (h : effX P nm o T H = some rc) (hh : ∀ n ∈ rc.r.rs, look H' n = look H n) : effX P nm o T H' = some rc := by
  unfold effX at h ⊢
  cases hall : o.op.operands.toList.all evOk with
  | false => rw [hall] at h; simp at h
  | true =>
    rw [hall] at h
    simp only [cond_true] at h ⊢
    split at h
    all_goals rename_i ho
    any_goals exact h
    · exact effStr_H h hh
    · split at h
      · exact effAppend_H h hh
      · simp at h
theorem effX_excl {P : Program} {nm : Nat} {o : Oper} {T : List Value} {H : Heap} {rc : Rc} (h : effX P nm o T H = some rc) (H' : Heap) : effOp P nm o T H' = none := by
  unfold effX at h
  unfold effOp
  cases hall : o.op.operands.toList.all evOk with
  | false => rfl
  | true =>
    rw [hall] at h
    simp only [cond_true] at h ⊢
    split at h
    · rename_i t x i ho
      unfold effIndexG at h
      split at h
      · rename_i b' o' s' k n hx hi
        simp [ho, hx, hi, effIndexAddr]
      · simp at h
    · rename_i t x ho
      unfold effLoadG at h
      split at h
      · rename_i b' o' s' hx
        simp [ho, hx, effLoad]
      · simp at h
    · rename_i t x lo hi ho; simp [ho]
    · rename_i t l c ho; simp [ho]
    · rename_i s d x ho
      unfold effStr at h
      split at h
      · rename_i hx; simp [ho, hx, effConv]
      · rename_i hx; simp [ho, hx, effConv]
      · simp at h
    · rename_i c ho
      split at h
      · rename_i hb; simp [ho, hb, effBuiltin]
      · simp at h
    · simp at h
theorem effC_T {P : Program} {nm : Nat} {o : Oper} {T T' : List Value} {H : Heap} (hop : effOp P nm o T' H = effOp P nm o T H) (h : ∀ x ∈ o.op.operands.toList, ev T' x = ev T x) : effC P nm o T' H = effC P nm o T H := by
  unfold effC
  rw [hop, effX_T h]
theorem effC_H {P : Program} {nm : Nat} {o : Oper} {T : List Value} {H H' : Heap} {rc : Rc} (hop : ∀ rc', effOp P nm o T H = some rc' → (∀ n ∈ rc'.r.rs, look H' n = look H n) → effOp P nm o T H' = some rc') (h : effC P nm o T H = some rc) (hh : ∀ n ∈ rc.r.rs, look H' n = look H n) : effC P nm o T H' = some rc := by
  unfold effC at h ⊢
  split at h
  · rename_i rc' hrc
    injection h with h; subst h
    rw [hop _ hrc hh]
  · rw [effX_excl h H']
    exact effX_H h hh
end RX
