/- The contracts of the two square roots of whole numbers: loops of 32 rounds. WRITTEN BY mkroot.py of this repo. -/
import Derived.Test.YtpghmdjjkpjnfaaDoorProg
import Derived.Test.YtpghmdjjkpjnfaaDoorS
import Derived.Test.YtpghmdjjkpjnfaaDoorIv
namespace Go.Proofs.YtpghmdjjkpjnfaaDoor.G
open Go Go.Proofs RX
set_option linter.unusedVariables false
set_option linter.unusedSimpArgs false
def bitOf (k : Nat) : Int := ((2 ^ k : Nat) : Int) / 2
theorem bitOf_zero : bitOf 0 = 0 := by decide
theorem bitOf_succ (k : Nat) : bitOf (k + 1) = ((2 ^ k : Nat) : Int) := by
  unfold bitOf
  rw [Nat.pow_succ]
  omega

def root.tree (n r bit : Int) (d1 z d5 d6 d7 d8 d9 d10 d11 d12 d13 d14 d15 d16 d17 d18 d19 : Value) : Option (X × List Value × Heap) :=
  bif decide (bit > 0) then
    bif IntKind.i64.wrap (r + bit) != 0 then
      bif decide (IntKind.i64.wrap (r + bit) ≤ IntKind.i64.wrap (n.tdiv (IntKind.i64.wrap (r + bit)))) then
        some (.normal, [.int .i64 n, d1, z, .int .i64 (IntKind.i64.wrap (r + bit)), .int .i64 (bit.fdiv (2 ^ min (Int.toNat 1) IntKind.i64.bits)), .int .i64 (IntKind.i64.wrap (r + bit)), .int .i64 bit, .bool true, .int .i64 bit, .int .i64 (bit.fdiv (2 ^ min (Int.toNat 1) IntKind.i64.bits)), .int .i64 r, .int .i64 bit, .int .i64 (IntKind.i64.wrap (r + bit)), .int .i64 (IntKind.i64.wrap (r + bit)), .int .i64 n, .int .i64 (IntKind.i64.wrap (r + bit)), .int .i64 (IntKind.i64.wrap (n.tdiv (IntKind.i64.wrap (r + bit)))), .bool true, .int .i64 (IntKind.i64.wrap (r + bit)), d19], [])
      else
        some (.normal, [.int .i64 n, d1, z, .int .i64 r, .int .i64 (bit.fdiv (2 ^ min (Int.toNat 1) IntKind.i64.bits)), .int .i64 (IntKind.i64.wrap (r + bit)), .int .i64 bit, .bool true, .int .i64 bit, .int .i64 (bit.fdiv (2 ^ min (Int.toNat 1) IntKind.i64.bits)), .int .i64 r, .int .i64 bit, .int .i64 (IntKind.i64.wrap (r + bit)), .int .i64 (IntKind.i64.wrap (r + bit)), .int .i64 n, .int .i64 (IntKind.i64.wrap (r + bit)), .int .i64 (IntKind.i64.wrap (n.tdiv (IntKind.i64.wrap (r + bit)))), .bool false, d18, d19], [])
    else
      none
  else
    some (.exit 0, [.int .i64 n, d1, z, .int .i64 r, .int .i64 bit, d5, .int .i64 bit, .bool false, d8, d9, d10, d11, d12, d13, d14, d15, d16, d17, d18, d19], [])

theorem root.round (n r bit : Int) (d1 z d5 d6 d7 d8 d9 d10 d11 d12 d13 d14 d15 d16 d17 d18 d19 : Value) (nx : Nat) : exec Tryd.prog ⟨[], []⟩ [] (hs Tryd.prog ⟨[], []⟩ 3).lf (hs Tryd.prog ⟨[], []⟩ 3).cf (loopCode Tryd.f46 0) ⟨[.int .i64 n, d1, z, .int .i64 r, .int .i64 bit, d5, d6, d7, d8, d9, d10, d11, d12, d13, d14, d15, d16, d17, d18, d19], [], nx⟩ (fun x S => some (x, S.tmps, S.heap)) = root.tree n r bit d1 z d5 d6 d7 d8 d9 d10 d11 d12 d13 d14 d15 d16 d17 d18 d19 := by kernel_rfl

def root.fin : Nat → List Value → List Value
  | 0, T => T
  | k + 1, [.int .i64 n, d1, z, .int .i64 r, .int .i64 bit, d5, d6, d7, d8, d9, d10, d11, d12, d13, d14, d15, d16, d17, d18, d19] => (match root.tree n r bit d1 z d5 d6 d7 d8 d9 d10 d11 d12 d13 d14 d15 d16 d17 d18 d19 with
    | some (.normal, T, _) => root.fin k T
    | some (_, T, _) => T
    | none => [])
  | _ + 1, T => T
def root.rt : Nat → Int → Int → Int
  | 0, n, r => r
  | k + 1, n, r => root.rt k n (if IntKind.i64.wrap (r + bitOf (k + 1)) ≤ IntKind.i64.wrap (n.tdiv (IntKind.i64.wrap (r + bitOf (k + 1)))) then IntKind.i64.wrap (r + bitOf (k + 1)) else r)
theorem bit_half (k : Nat) : (bitOf (k + 1)).fdiv (2 ^ min (Int.toNat 1) IntKind.i64.bits) = bitOf k := by
  rw [bitOf_succ]
  show (((2 ^ k : Nat) : Int)).fdiv 2 = bitOf k
  rw [Int.fdiv_eq_ediv_of_nonneg _ (by omega)]
  rfl
theorem bitOf_le {k : Nat} (h : k ≤ 32) : 0 ≤ bitOf k ∧ bitOf k ≤ 2147483648 := by
  have : 2 ^ k ≤ 2 ^ 32 := Nat.pow_le_pow_right (by omega) h
  unfold bitOf
  generalize 2 ^ k = m at *
  omega
theorem root.lp : ∀ (k : Nat) (n r bit : Int) (d1 z d5 d6 d7 d8 d9 d10 d11 d12 d13 d14 d15 d16 d17 d18 d19 : Value) (nx : Nat), k ≤ 32 → bit = bitOf k → 0 ≤ r → r + 2 * bit ≤ 4294967296 →
    Lp Tryd.prog ⟨[], []⟩ [] 3 (loopCode Tryd.f46 0) ⟨[.int .i64 n, d1, z, .int .i64 r, .int .i64 bit, d5, d6, d7, d8, d9, d10, d11, d12, d13, d14, d15, d16, d17, d18, d19], [], nx⟩ (.exit 0) ⟨[.int .i64 n, RX.nth (root.fin (k + 1) [.int .i64 n, d1, z, .int .i64 r, .int .i64 bit, d5, d6, d7, d8, d9, d10, d11, d12, d13, d14, d15, d16, d17, d18, d19]) 1, RX.nth (root.fin (k + 1) [.int .i64 n, d1, z, .int .i64 r, .int .i64 bit, d5, d6, d7, d8, d9, d10, d11, d12, d13, d14, d15, d16, d17, d18, d19]) 2, .int .i64 (root.rt k n r), RX.nth (root.fin (k + 1) [.int .i64 n, d1, z, .int .i64 r, .int .i64 bit, d5, d6, d7, d8, d9, d10, d11, d12, d13, d14, d15, d16, d17, d18, d19]) 4, RX.nth (root.fin (k + 1) [.int .i64 n, d1, z, .int .i64 r, .int .i64 bit, d5, d6, d7, d8, d9, d10, d11, d12, d13, d14, d15, d16, d17, d18, d19]) 5, RX.nth (root.fin (k + 1) [.int .i64 n, d1, z, .int .i64 r, .int .i64 bit, d5, d6, d7, d8, d9, d10, d11, d12, d13, d14, d15, d16, d17, d18, d19]) 6, RX.nth (root.fin (k + 1) [.int .i64 n, d1, z, .int .i64 r, .int .i64 bit, d5, d6, d7, d8, d9, d10, d11, d12, d13, d14, d15, d16, d17, d18, d19]) 7, RX.nth (root.fin (k + 1) [.int .i64 n, d1, z, .int .i64 r, .int .i64 bit, d5, d6, d7, d8, d9, d10, d11, d12, d13, d14, d15, d16, d17, d18, d19]) 8, RX.nth (root.fin (k + 1) [.int .i64 n, d1, z, .int .i64 r, .int .i64 bit, d5, d6, d7, d8, d9, d10, d11, d12, d13, d14, d15, d16, d17, d18, d19]) 9, RX.nth (root.fin (k + 1) [.int .i64 n, d1, z, .int .i64 r, .int .i64 bit, d5, d6, d7, d8, d9, d10, d11, d12, d13, d14, d15, d16, d17, d18, d19]) 10, RX.nth (root.fin (k + 1) [.int .i64 n, d1, z, .int .i64 r, .int .i64 bit, d5, d6, d7, d8, d9, d10, d11, d12, d13, d14, d15, d16, d17, d18, d19]) 11, RX.nth (root.fin (k + 1) [.int .i64 n, d1, z, .int .i64 r, .int .i64 bit, d5, d6, d7, d8, d9, d10, d11, d12, d13, d14, d15, d16, d17, d18, d19]) 12, RX.nth (root.fin (k + 1) [.int .i64 n, d1, z, .int .i64 r, .int .i64 bit, d5, d6, d7, d8, d9, d10, d11, d12, d13, d14, d15, d16, d17, d18, d19]) 13, RX.nth (root.fin (k + 1) [.int .i64 n, d1, z, .int .i64 r, .int .i64 bit, d5, d6, d7, d8, d9, d10, d11, d12, d13, d14, d15, d16, d17, d18, d19]) 14, RX.nth (root.fin (k + 1) [.int .i64 n, d1, z, .int .i64 r, .int .i64 bit, d5, d6, d7, d8, d9, d10, d11, d12, d13, d14, d15, d16, d17, d18, d19]) 15, RX.nth (root.fin (k + 1) [.int .i64 n, d1, z, .int .i64 r, .int .i64 bit, d5, d6, d7, d8, d9, d10, d11, d12, d13, d14, d15, d16, d17, d18, d19]) 16, RX.nth (root.fin (k + 1) [.int .i64 n, d1, z, .int .i64 r, .int .i64 bit, d5, d6, d7, d8, d9, d10, d11, d12, d13, d14, d15, d16, d17, d18, d19]) 17, RX.nth (root.fin (k + 1) [.int .i64 n, d1, z, .int .i64 r, .int .i64 bit, d5, d6, d7, d8, d9, d10, d11, d12, d13, d14, d15, d16, d17, d18, d19]) 18, RX.nth (root.fin (k + 1) [.int .i64 n, d1, z, .int .i64 r, .int .i64 bit, d5, d6, d7, d8, d9, d10, d11, d12, d13, d14, d15, d16, d17, d18, d19]) 19], [], nx⟩
  | 0, n, r, bit, d1, z, d5, d6, d7, d8, d9, d10, d11, d12, d13, d14, d15, d16, d17, d18, d19, nx, hk, hb, hr, hr' => by
    rw [bitOf_zero] at hb
    subst hb
    have ht : root.tree n r 0 d1 z d5 d6 d7 d8 d9 d10 d11 d12 d13 d14 d15 d16 d17 d18 d19 = some (.exit 0, [.int .i64 n, d1, z, .int .i64 r, .int .i64 0, d5, .int .i64 0, .bool false, d8, d9, d10, d11, d12, d13, d14, d15, d16, d17, d18, d19], []) := rfl
    have hf : root.fin 1 [.int .i64 n, d1, z, .int .i64 r, .int .i64 0, d5, d6, d7, d8, d9, d10, d11, d12, d13, d14, d15, d16, d17, d18, d19] = [.int .i64 n, d1, z, .int .i64 r, .int .i64 0, d5, .int .i64 0, .bool false, d8, d9, d10, d11, d12, d13, d14, d15, d16, d17, d18, d19] := by simp only [root.fin, ht]
    rw [hf]
    simp only [RX.nth, root.rt]
    refine Lp.done ((root.round n r 0 d1 z d5 d6 d7 d8 d9 d10 d11 d12 d13 d14 d15 d16 d17 d18 d19 nx).trans ht) trivial (fun h => h.of fun v hv => by
      simp only [List.mem_cons, List.not_mem_nil, or_false] at hv
      rcases hv with rfl | rfl | rfl | rfl | rfl | rfl | rfl | rfl | rfl | rfl | rfl | rfl | rfl | rfl | rfl | rfl | rfl | rfl | rfl | rfl <;> first | exact .inl (clo_spec 8 _ rfl) | exact .inr (by simp))
  | k + 1, n, r, bit, d1, z, d5, d6, d7, d8, d9, d10, d11, d12, d13, d14, d15, d16, d17, d18, d19, nx, hk, hb, hr, hr' => by
    have hbl := bitOf_le hk
    have hb0 : 0 < bit := by rw [hb, bitOf_succ]; have := Nat.two_pow_pos k; omega
    have hw : IntKind.i64.wrap (r + bit) = r + bit := w64 (by omega) (by omega)
    have hbit : bit.fdiv (2 ^ min (Int.toNat 1) IntKind.i64.bits) = bitOf k := by rw [hb]; exact bit_half k
    have hd1 : decide (bit > 0) = true := decide_eq_true hb0
    have hd2 : (IntKind.i64.wrap (r + bit) != 0) = true := bne_of (by omega)
    have h2 : 2 * bitOf k ≤ bit := by
      rw [hb, bitOf_succ]
      unfold bitOf
      omega
    by_cases hc : IntKind.i64.wrap (r + bit) ≤ IntKind.i64.wrap (n.tdiv (IntKind.i64.wrap (r + bit)))
    · have ht : root.tree n r bit d1 z d5 d6 d7 d8 d9 d10 d11 d12 d13 d14 d15 d16 d17 d18 d19 = some (.normal, [.int .i64 n, d1, z, .int .i64 (IntKind.i64.wrap (r + bit)), .int .i64 (bit.fdiv (2 ^ min (Int.toNat 1) IntKind.i64.bits)), .int .i64 (IntKind.i64.wrap (r + bit)), .int .i64 bit, .bool true, .int .i64 bit, .int .i64 (bit.fdiv (2 ^ min (Int.toNat 1) IntKind.i64.bits)), .int .i64 r, .int .i64 bit, .int .i64 (IntKind.i64.wrap (r + bit)), .int .i64 (IntKind.i64.wrap (r + bit)), .int .i64 n, .int .i64 (IntKind.i64.wrap (r + bit)), .int .i64 (IntKind.i64.wrap (n.tdiv (IntKind.i64.wrap (r + bit)))), .bool true, .int .i64 (IntKind.i64.wrap (r + bit)), d19], []) := by
        simp only [root.tree, hd1, hd2, decide_eq_true hc, cond_true]
      have hf : root.fin (k + 1 + 1) [.int .i64 n, d1, z, .int .i64 r, .int .i64 bit, d5, d6, d7, d8, d9, d10, d11, d12, d13, d14, d15, d16, d17, d18, d19] = root.fin (k + 1) [.int .i64 n, d1, z, .int .i64 (IntKind.i64.wrap (r + bit)), .int .i64 (bit.fdiv (2 ^ min (Int.toNat 1) IntKind.i64.bits)), .int .i64 (IntKind.i64.wrap (r + bit)), .int .i64 bit, .bool true, .int .i64 bit, .int .i64 (bit.fdiv (2 ^ min (Int.toNat 1) IntKind.i64.bits)), .int .i64 r, .int .i64 bit, .int .i64 (IntKind.i64.wrap (r + bit)), .int .i64 (IntKind.i64.wrap (r + bit)), .int .i64 n, .int .i64 (IntKind.i64.wrap (r + bit)), .int .i64 (IntKind.i64.wrap (n.tdiv (IntKind.i64.wrap (r + bit)))), .bool true, .int .i64 (IntKind.i64.wrap (r + bit)), d19] := by simp only [root.fin, ht]
      have hrt : root.rt (k + 1) n r = root.rt k n (IntKind.i64.wrap (r + bit)) := by
        rw [root.rt, ← hb, if_pos hc]
      rw [hf, hrt]
      refine Lp.more ((root.round n r bit d1 z d5 d6 d7 d8 d9 d10 d11 d12 d13 d14 d15 d16 d17 d18 d19 nx).trans ht) (fun h => h.of fun v hv => by
      simp only [List.mem_cons, List.not_mem_nil, or_false] at hv
      rcases hv with rfl | rfl | rfl | rfl | rfl | rfl | rfl | rfl | rfl | rfl | rfl | rfl | rfl | rfl | rfl | rfl | rfl | rfl | rfl | rfl <;> first | exact .inl (clo_spec 8 _ rfl) | exact .inr (by simp)) ?_
      exact root.lp k _ _ _ _ _ _ _ _ _ _ _ _ _ _ _ _ _ _ _ _ nx (by omega) hbit (by omega) (by omega)
    · have ht : root.tree n r bit d1 z d5 d6 d7 d8 d9 d10 d11 d12 d13 d14 d15 d16 d17 d18 d19 = some (.normal, [.int .i64 n, d1, z, .int .i64 r, .int .i64 (bit.fdiv (2 ^ min (Int.toNat 1) IntKind.i64.bits)), .int .i64 (IntKind.i64.wrap (r + bit)), .int .i64 bit, .bool true, .int .i64 bit, .int .i64 (bit.fdiv (2 ^ min (Int.toNat 1) IntKind.i64.bits)), .int .i64 r, .int .i64 bit, .int .i64 (IntKind.i64.wrap (r + bit)), .int .i64 (IntKind.i64.wrap (r + bit)), .int .i64 n, .int .i64 (IntKind.i64.wrap (r + bit)), .int .i64 (IntKind.i64.wrap (n.tdiv (IntKind.i64.wrap (r + bit)))), .bool false, d18, d19], []) := by
        simp only [root.tree, hd1, hd2, decide_eq_false hc, cond_true, cond_false]
      have hf : root.fin (k + 1 + 1) [.int .i64 n, d1, z, .int .i64 r, .int .i64 bit, d5, d6, d7, d8, d9, d10, d11, d12, d13, d14, d15, d16, d17, d18, d19] = root.fin (k + 1) [.int .i64 n, d1, z, .int .i64 r, .int .i64 (bit.fdiv (2 ^ min (Int.toNat 1) IntKind.i64.bits)), .int .i64 (IntKind.i64.wrap (r + bit)), .int .i64 bit, .bool true, .int .i64 bit, .int .i64 (bit.fdiv (2 ^ min (Int.toNat 1) IntKind.i64.bits)), .int .i64 r, .int .i64 bit, .int .i64 (IntKind.i64.wrap (r + bit)), .int .i64 (IntKind.i64.wrap (r + bit)), .int .i64 n, .int .i64 (IntKind.i64.wrap (r + bit)), .int .i64 (IntKind.i64.wrap (n.tdiv (IntKind.i64.wrap (r + bit)))), .bool false, d18, d19] := by simp only [root.fin, ht]
      have hrt : root.rt (k + 1) n r = root.rt k n r := by
        rw [root.rt, ← hb, if_neg hc]
      rw [hf, hrt]
      refine Lp.more ((root.round n r bit d1 z d5 d6 d7 d8 d9 d10 d11 d12 d13 d14 d15 d16 d17 d18 d19 nx).trans ht) (fun h => h.of fun v hv => by
      simp only [List.mem_cons, List.not_mem_nil, or_false] at hv
      rcases hv with rfl | rfl | rfl | rfl | rfl | rfl | rfl | rfl | rfl | rfl | rfl | rfl | rfl | rfl | rfl | rfl | rfl | rfl | rfl | rfl <;> first | exact .inl (clo_spec 8 _ rfl) | exact .inr (by simp)) ?_
      exact root.lp k _ _ _ _ _ _ _ _ _ _ _ _ _ _ _ _ _ _ _ _ nx (by omega) hbit (by omega) (by omega)
def root.t : LSpec
  | ⟨[.int .i64 n, d1, z, .int .i64 r, .int .i64 bit, d5, d6, d7, d8, d9, d10, d11, d12, d13, d14, d15, d16, d17, d18, d19], [], nx⟩ => some (decide (r = 0) && decide (bit = 2147483648), .exit 0, ⟨[.int .i64 n, RX.nth (root.fin 33 [.int .i64 n, d1, z, .int .i64 r, .int .i64 bit, d5, d6, d7, d8, d9, d10, d11, d12, d13, d14, d15, d16, d17, d18, d19]) 1, RX.nth (root.fin 33 [.int .i64 n, d1, z, .int .i64 r, .int .i64 bit, d5, d6, d7, d8, d9, d10, d11, d12, d13, d14, d15, d16, d17, d18, d19]) 2, .int .i64 (root.rt 32 n 0), RX.nth (root.fin 33 [.int .i64 n, d1, z, .int .i64 r, .int .i64 bit, d5, d6, d7, d8, d9, d10, d11, d12, d13, d14, d15, d16, d17, d18, d19]) 4, RX.nth (root.fin 33 [.int .i64 n, d1, z, .int .i64 r, .int .i64 bit, d5, d6, d7, d8, d9, d10, d11, d12, d13, d14, d15, d16, d17, d18, d19]) 5, RX.nth (root.fin 33 [.int .i64 n, d1, z, .int .i64 r, .int .i64 bit, d5, d6, d7, d8, d9, d10, d11, d12, d13, d14, d15, d16, d17, d18, d19]) 6, RX.nth (root.fin 33 [.int .i64 n, d1, z, .int .i64 r, .int .i64 bit, d5, d6, d7, d8, d9, d10, d11, d12, d13, d14, d15, d16, d17, d18, d19]) 7, RX.nth (root.fin 33 [.int .i64 n, d1, z, .int .i64 r, .int .i64 bit, d5, d6, d7, d8, d9, d10, d11, d12, d13, d14, d15, d16, d17, d18, d19]) 8, RX.nth (root.fin 33 [.int .i64 n, d1, z, .int .i64 r, .int .i64 bit, d5, d6, d7, d8, d9, d10, d11, d12, d13, d14, d15, d16, d17, d18, d19]) 9, RX.nth (root.fin 33 [.int .i64 n, d1, z, .int .i64 r, .int .i64 bit, d5, d6, d7, d8, d9, d10, d11, d12, d13, d14, d15, d16, d17, d18, d19]) 10, RX.nth (root.fin 33 [.int .i64 n, d1, z, .int .i64 r, .int .i64 bit, d5, d6, d7, d8, d9, d10, d11, d12, d13, d14, d15, d16, d17, d18, d19]) 11, RX.nth (root.fin 33 [.int .i64 n, d1, z, .int .i64 r, .int .i64 bit, d5, d6, d7, d8, d9, d10, d11, d12, d13, d14, d15, d16, d17, d18, d19]) 12, RX.nth (root.fin 33 [.int .i64 n, d1, z, .int .i64 r, .int .i64 bit, d5, d6, d7, d8, d9, d10, d11, d12, d13, d14, d15, d16, d17, d18, d19]) 13, RX.nth (root.fin 33 [.int .i64 n, d1, z, .int .i64 r, .int .i64 bit, d5, d6, d7, d8, d9, d10, d11, d12, d13, d14, d15, d16, d17, d18, d19]) 14, RX.nth (root.fin 33 [.int .i64 n, d1, z, .int .i64 r, .int .i64 bit, d5, d6, d7, d8, d9, d10, d11, d12, d13, d14, d15, d16, d17, d18, d19]) 15, RX.nth (root.fin 33 [.int .i64 n, d1, z, .int .i64 r, .int .i64 bit, d5, d6, d7, d8, d9, d10, d11, d12, d13, d14, d15, d16, d17, d18, d19]) 16, RX.nth (root.fin 33 [.int .i64 n, d1, z, .int .i64 r, .int .i64 bit, d5, d6, d7, d8, d9, d10, d11, d12, d13, d14, d15, d16, d17, d18, d19]) 17, RX.nth (root.fin 33 [.int .i64 n, d1, z, .int .i64 r, .int .i64 bit, d5, d6, d7, d8, d9, d10, d11, d12, d13, d14, d15, d16, d17, d18, d19]) 18, RX.nth (root.fin 33 [.int .i64 n, d1, z, .int .i64 r, .int .i64 bit, d5, d6, d7, d8, d9, d10, d11, d12, d13, d14, d15, d16, d17, d18, d19]) 19], [], nx⟩)
  | _ => none
theorem root.lok : LOK Tryd.prog (loopCode Tryd.f46 0) root.t := by
  refine lok_of (E := ⟨[], []⟩) (L := []) (f := 3) ⟨specs_nil, inl_nil, mixed_ok⟩ lsOk_nil fun S x S' h => ?_
  unfold root.t at h
  split at h
  · simp only [Option.some.injEq, Prod.mk.injEq, Bool.and_eq_true, decide_eq_true_eq] at h
    obtain ⟨⟨rfl, rfl⟩, rfl, rfl⟩ := h
    exact root.lp 32 _ _ _ _ _ _ _ _ _ _ _ _ _ _ _ _ _ _ _ _ _ (by omega) (by decide) (by omega) (by omega)
  · cases h
def interval_root.sp : HSpec
  | [.int .i64 n], [] => some (true, .int .i64 (root.rt 32 n 0), [])
  | _, _ => none
theorem root.run (n : Int) : xfn Tryd.prog ⟨[], []⟩ [(0, root.t)] 10 Tryd.f46 [.int .i64 n] [] = some (.int .i64 (root.rt 32 n 0), []) := by kernel_rfl
theorem interval_root.ok : SOK Tryd.prog 46 interval_root.sp := by
  refine sok_of (E := ⟨[], []⟩) (L := [(0, root.t)]) ⟨specs_nil, inl_nil, mixed_ok⟩ 10 Tryd.func46 (by decide) rfl (one_loop rfl rfl root.lok) fun vs bl v bl' h => ?_
  unfold interval_root.sp at h
  split at h
  · simp only [Option.some.injEq, Prod.mk.injEq, true_and] at h
    obtain ⟨rfl, rfl⟩ := h
    exact ⟨root.run _, by simp [okV, Nat.blt], clo_spec 8 _ rfl, told_blk rfl⟩
  · cases h

def rroot.tree (n r bit : Int) (d1 z d5 d6 d7 d8 d9 d10 d11 d12 d13 d14 d15 d16 d17 d18 d19 d20 d21 d22 d23 d24 : Value) : Option (X × List Value × Heap) :=
  bif decide (bit ≥ 0) then
    bif decide (0 ≤ bit) then
      bif decide (IntKind.i64.wrap (r + IntKind.i64.wrap (1 * 2 ^ min bit.toNat IntKind.i64.bits)) ≤ 3037000499) then
        bif decide (IntKind.i64.wrap (IntKind.i64.wrap (r + IntKind.i64.wrap (1 * 2 ^ min bit.toNat IntKind.i64.bits)) * IntKind.i64.wrap (r + IntKind.i64.wrap (1 * 2 ^ min bit.toNat IntKind.i64.bits))) ≤ n) then
          some (.normal, [.int .i64 n, d1, z, .int .i64 (IntKind.i64.wrap (r + IntKind.i64.wrap (1 * 2 ^ min bit.toNat IntKind.i64.bits))), .int .i64 (IntKind.i64.wrap (bit - 1)), .int .i64 (IntKind.i64.wrap (r + IntKind.i64.wrap (1 * 2 ^ min bit.toNat IntKind.i64.bits))), .int .i64 bit, .bool true, .int .i64 bit, .int .i64 (IntKind.i64.wrap (bit - 1)), .int .i64 r, .int .i64 bit, .int .i64 (IntKind.i64.wrap (1 * 2 ^ min bit.toNat IntKind.i64.bits)), .int .i64 (IntKind.i64.wrap (r + IntKind.i64.wrap (1 * 2 ^ min bit.toNat IntKind.i64.bits))), .int .i64 (IntKind.i64.wrap (r + IntKind.i64.wrap (1 * 2 ^ min bit.toNat IntKind.i64.bits))), .bool (decide (IntKind.i64.wrap (r + IntKind.i64.wrap (1 * 2 ^ min bit.toNat IntKind.i64.bits)) ≤ 3037000499)), .bool true, .int .i64 (IntKind.i64.wrap (r + IntKind.i64.wrap (1 * 2 ^ min bit.toNat IntKind.i64.bits))), .int .i64 (IntKind.i64.wrap (r + IntKind.i64.wrap (1 * 2 ^ min bit.toNat IntKind.i64.bits))), .int .i64 (IntKind.i64.wrap (IntKind.i64.wrap (r + IntKind.i64.wrap (1 * 2 ^ min bit.toNat IntKind.i64.bits)) * IntKind.i64.wrap (r + IntKind.i64.wrap (1 * 2 ^ min bit.toNat IntKind.i64.bits)))), .int .i64 n, .bool (decide (IntKind.i64.wrap (IntKind.i64.wrap (r + IntKind.i64.wrap (1 * 2 ^ min bit.toNat IntKind.i64.bits)) * IntKind.i64.wrap (r + IntKind.i64.wrap (1 * 2 ^ min bit.toNat IntKind.i64.bits))) ≤ n)), .bool true, .int .i64 (IntKind.i64.wrap (r + IntKind.i64.wrap (1 * 2 ^ min bit.toNat IntKind.i64.bits))), d24], [])
        else
          some (.normal, [.int .i64 n, d1, z, .int .i64 r, .int .i64 (IntKind.i64.wrap (bit - 1)), .int .i64 (IntKind.i64.wrap (r + IntKind.i64.wrap (1 * 2 ^ min bit.toNat IntKind.i64.bits))), .int .i64 bit, .bool true, .int .i64 bit, .int .i64 (IntKind.i64.wrap (bit - 1)), .int .i64 r, .int .i64 bit, .int .i64 (IntKind.i64.wrap (1 * 2 ^ min bit.toNat IntKind.i64.bits)), .int .i64 (IntKind.i64.wrap (r + IntKind.i64.wrap (1 * 2 ^ min bit.toNat IntKind.i64.bits))), .int .i64 (IntKind.i64.wrap (r + IntKind.i64.wrap (1 * 2 ^ min bit.toNat IntKind.i64.bits))), .bool (decide (IntKind.i64.wrap (r + IntKind.i64.wrap (1 * 2 ^ min bit.toNat IntKind.i64.bits)) ≤ 3037000499)), .bool true, .int .i64 (IntKind.i64.wrap (r + IntKind.i64.wrap (1 * 2 ^ min bit.toNat IntKind.i64.bits))), .int .i64 (IntKind.i64.wrap (r + IntKind.i64.wrap (1 * 2 ^ min bit.toNat IntKind.i64.bits))), .int .i64 (IntKind.i64.wrap (IntKind.i64.wrap (r + IntKind.i64.wrap (1 * 2 ^ min bit.toNat IntKind.i64.bits)) * IntKind.i64.wrap (r + IntKind.i64.wrap (1 * 2 ^ min bit.toNat IntKind.i64.bits)))), .int .i64 n, .bool (decide (IntKind.i64.wrap (IntKind.i64.wrap (r + IntKind.i64.wrap (1 * 2 ^ min bit.toNat IntKind.i64.bits)) * IntKind.i64.wrap (r + IntKind.i64.wrap (1 * 2 ^ min bit.toNat IntKind.i64.bits))) ≤ n)), .bool false, d23, d24], [])
      else
        some (.normal, [.int .i64 n, d1, z, .int .i64 r, .int .i64 (IntKind.i64.wrap (bit - 1)), .int .i64 (IntKind.i64.wrap (r + IntKind.i64.wrap (1 * 2 ^ min bit.toNat IntKind.i64.bits))), .int .i64 bit, .bool true, .int .i64 bit, .int .i64 (IntKind.i64.wrap (bit - 1)), .int .i64 r, .int .i64 bit, .int .i64 (IntKind.i64.wrap (1 * 2 ^ min bit.toNat IntKind.i64.bits)), .int .i64 (IntKind.i64.wrap (r + IntKind.i64.wrap (1 * 2 ^ min bit.toNat IntKind.i64.bits))), .int .i64 (IntKind.i64.wrap (r + IntKind.i64.wrap (1 * 2 ^ min bit.toNat IntKind.i64.bits))), .bool (decide (IntKind.i64.wrap (r + IntKind.i64.wrap (1 * 2 ^ min bit.toNat IntKind.i64.bits)) ≤ 3037000499)), .bool false, .tuple ⟨[]⟩, .tuple ⟨[]⟩, .tuple ⟨[]⟩, .tuple ⟨[]⟩, .tuple ⟨[]⟩, .bool false, d23, d24], [])
    else
      none
  else
    some (.exit 0, [.int .i64 n, d1, z, .int .i64 r, .int .i64 bit, d5, .int .i64 bit, .bool false, d8, d9, d10, d11, d12, d13, d14, d15, d16, d17, d18, d19, d20, d21, d22, d23, d24], [])

theorem rroot.round (n r bit : Int) (d1 z d5 d6 d7 d8 d9 d10 d11 d12 d13 d14 d15 d16 d17 d18 d19 d20 d21 d22 d23 d24 : Value) (nx : Nat) : exec Tryd.prog ⟨[], []⟩ [] (hs Tryd.prog ⟨[], []⟩ 3).lf (hs Tryd.prog ⟨[], []⟩ 3).cf (loopCode Tryd.f47 0) ⟨[.int .i64 n, d1, z, .int .i64 r, .int .i64 bit, d5, d6, d7, d8, d9, d10, d11, d12, d13, d14, d15, d16, d17, d18, d19, d20, d21, d22, d23, d24], [], nx⟩ (fun x S => some (x, S.tmps, S.heap)) = rroot.tree n r bit d1 z d5 d6 d7 d8 d9 d10 d11 d12 d13 d14 d15 d16 d17 d18 d19 d20 d21 d22 d23 d24 := by kernel_rfl

def rroot.fin : Nat → List Value → List Value
  | 0, T => T
  | k + 1, [.int .i64 n, d1, z, .int .i64 r, .int .i64 bit, d5, d6, d7, d8, d9, d10, d11, d12, d13, d14, d15, d16, d17, d18, d19, d20, d21, d22, d23, d24] => (match rroot.tree n r bit d1 z d5 d6 d7 d8 d9 d10 d11 d12 d13 d14 d15 d16 d17 d18 d19 d20 d21 d22 d23 d24 with
    | some (.normal, T, _) => rroot.fin k T
    | some (_, T, _) => T
    | none => [])
  | _ + 1, T => T
def rroot.rt : Nat → Int → Int → Int
  | 0, n, r => r
  | k + 1, n, r => rroot.rt k n (if r + 2 ^ k ≤ 3037000499 ∧ (r + 2 ^ k) * (r + 2 ^ k) ≤ n then r + 2 ^ k else r)
theorem rroot.lp : ∀ (k : Nat) (n r bit : Int) (d1 z d5 d6 d7 d8 d9 d10 d11 d12 d13 d14 d15 d16 d17 d18 d19 d20 d21 d22 d23 d24 : Value) (nx : Nat), k ≤ 32 → bit = (k : Int) - 1 → 0 ≤ r → r + ((2 ^ k : Nat) : Int) ≤ 4294967296 →
    Lp Tryd.prog ⟨[], []⟩ [] 3 (loopCode Tryd.f47 0) ⟨[.int .i64 n, d1, z, .int .i64 r, .int .i64 bit, d5, d6, d7, d8, d9, d10, d11, d12, d13, d14, d15, d16, d17, d18, d19, d20, d21, d22, d23, d24], [], nx⟩ (.exit 0) ⟨[.int .i64 n, RX.nth (rroot.fin (k + 1) [.int .i64 n, d1, z, .int .i64 r, .int .i64 bit, d5, d6, d7, d8, d9, d10, d11, d12, d13, d14, d15, d16, d17, d18, d19, d20, d21, d22, d23, d24]) 1, RX.nth (rroot.fin (k + 1) [.int .i64 n, d1, z, .int .i64 r, .int .i64 bit, d5, d6, d7, d8, d9, d10, d11, d12, d13, d14, d15, d16, d17, d18, d19, d20, d21, d22, d23, d24]) 2, .int .i64 (rroot.rt k n r), RX.nth (rroot.fin (k + 1) [.int .i64 n, d1, z, .int .i64 r, .int .i64 bit, d5, d6, d7, d8, d9, d10, d11, d12, d13, d14, d15, d16, d17, d18, d19, d20, d21, d22, d23, d24]) 4, RX.nth (rroot.fin (k + 1) [.int .i64 n, d1, z, .int .i64 r, .int .i64 bit, d5, d6, d7, d8, d9, d10, d11, d12, d13, d14, d15, d16, d17, d18, d19, d20, d21, d22, d23, d24]) 5, RX.nth (rroot.fin (k + 1) [.int .i64 n, d1, z, .int .i64 r, .int .i64 bit, d5, d6, d7, d8, d9, d10, d11, d12, d13, d14, d15, d16, d17, d18, d19, d20, d21, d22, d23, d24]) 6, RX.nth (rroot.fin (k + 1) [.int .i64 n, d1, z, .int .i64 r, .int .i64 bit, d5, d6, d7, d8, d9, d10, d11, d12, d13, d14, d15, d16, d17, d18, d19, d20, d21, d22, d23, d24]) 7, RX.nth (rroot.fin (k + 1) [.int .i64 n, d1, z, .int .i64 r, .int .i64 bit, d5, d6, d7, d8, d9, d10, d11, d12, d13, d14, d15, d16, d17, d18, d19, d20, d21, d22, d23, d24]) 8, RX.nth (rroot.fin (k + 1) [.int .i64 n, d1, z, .int .i64 r, .int .i64 bit, d5, d6, d7, d8, d9, d10, d11, d12, d13, d14, d15, d16, d17, d18, d19, d20, d21, d22, d23, d24]) 9, RX.nth (rroot.fin (k + 1) [.int .i64 n, d1, z, .int .i64 r, .int .i64 bit, d5, d6, d7, d8, d9, d10, d11, d12, d13, d14, d15, d16, d17, d18, d19, d20, d21, d22, d23, d24]) 10, RX.nth (rroot.fin (k + 1) [.int .i64 n, d1, z, .int .i64 r, .int .i64 bit, d5, d6, d7, d8, d9, d10, d11, d12, d13, d14, d15, d16, d17, d18, d19, d20, d21, d22, d23, d24]) 11, RX.nth (rroot.fin (k + 1) [.int .i64 n, d1, z, .int .i64 r, .int .i64 bit, d5, d6, d7, d8, d9, d10, d11, d12, d13, d14, d15, d16, d17, d18, d19, d20, d21, d22, d23, d24]) 12, RX.nth (rroot.fin (k + 1) [.int .i64 n, d1, z, .int .i64 r, .int .i64 bit, d5, d6, d7, d8, d9, d10, d11, d12, d13, d14, d15, d16, d17, d18, d19, d20, d21, d22, d23, d24]) 13, RX.nth (rroot.fin (k + 1) [.int .i64 n, d1, z, .int .i64 r, .int .i64 bit, d5, d6, d7, d8, d9, d10, d11, d12, d13, d14, d15, d16, d17, d18, d19, d20, d21, d22, d23, d24]) 14, RX.nth (rroot.fin (k + 1) [.int .i64 n, d1, z, .int .i64 r, .int .i64 bit, d5, d6, d7, d8, d9, d10, d11, d12, d13, d14, d15, d16, d17, d18, d19, d20, d21, d22, d23, d24]) 15, RX.nth (rroot.fin (k + 1) [.int .i64 n, d1, z, .int .i64 r, .int .i64 bit, d5, d6, d7, d8, d9, d10, d11, d12, d13, d14, d15, d16, d17, d18, d19, d20, d21, d22, d23, d24]) 16, RX.nth (rroot.fin (k + 1) [.int .i64 n, d1, z, .int .i64 r, .int .i64 bit, d5, d6, d7, d8, d9, d10, d11, d12, d13, d14, d15, d16, d17, d18, d19, d20, d21, d22, d23, d24]) 17, RX.nth (rroot.fin (k + 1) [.int .i64 n, d1, z, .int .i64 r, .int .i64 bit, d5, d6, d7, d8, d9, d10, d11, d12, d13, d14, d15, d16, d17, d18, d19, d20, d21, d22, d23, d24]) 18, RX.nth (rroot.fin (k + 1) [.int .i64 n, d1, z, .int .i64 r, .int .i64 bit, d5, d6, d7, d8, d9, d10, d11, d12, d13, d14, d15, d16, d17, d18, d19, d20, d21, d22, d23, d24]) 19, RX.nth (rroot.fin (k + 1) [.int .i64 n, d1, z, .int .i64 r, .int .i64 bit, d5, d6, d7, d8, d9, d10, d11, d12, d13, d14, d15, d16, d17, d18, d19, d20, d21, d22, d23, d24]) 20, RX.nth (rroot.fin (k + 1) [.int .i64 n, d1, z, .int .i64 r, .int .i64 bit, d5, d6, d7, d8, d9, d10, d11, d12, d13, d14, d15, d16, d17, d18, d19, d20, d21, d22, d23, d24]) 21, RX.nth (rroot.fin (k + 1) [.int .i64 n, d1, z, .int .i64 r, .int .i64 bit, d5, d6, d7, d8, d9, d10, d11, d12, d13, d14, d15, d16, d17, d18, d19, d20, d21, d22, d23, d24]) 22, RX.nth (rroot.fin (k + 1) [.int .i64 n, d1, z, .int .i64 r, .int .i64 bit, d5, d6, d7, d8, d9, d10, d11, d12, d13, d14, d15, d16, d17, d18, d19, d20, d21, d22, d23, d24]) 23, RX.nth (rroot.fin (k + 1) [.int .i64 n, d1, z, .int .i64 r, .int .i64 bit, d5, d6, d7, d8, d9, d10, d11, d12, d13, d14, d15, d16, d17, d18, d19, d20, d21, d22, d23, d24]) 24], [], nx⟩
  | 0, n, r, bit, d1, z, d5, d6, d7, d8, d9, d10, d11, d12, d13, d14, d15, d16, d17, d18, d19, d20, d21, d22, d23, d24, nx, hk, hb, hr, hr' => by
    have hb : bit = -1 := hb
    subst hb
    have ht : rroot.tree n r (-1) d1 z d5 d6 d7 d8 d9 d10 d11 d12 d13 d14 d15 d16 d17 d18 d19 d20 d21 d22 d23 d24 = some (.exit 0, [.int .i64 n, d1, z, .int .i64 r, .int .i64 (-1), d5, .int .i64 (-1), .bool false, d8, d9, d10, d11, d12, d13, d14, d15, d16, d17, d18, d19, d20, d21, d22, d23, d24], []) := rfl
    have hf : rroot.fin 1 [.int .i64 n, d1, z, .int .i64 r, .int .i64 (-1), d5, d6, d7, d8, d9, d10, d11, d12, d13, d14, d15, d16, d17, d18, d19, d20, d21, d22, d23, d24] = [.int .i64 n, d1, z, .int .i64 r, .int .i64 (-1), d5, .int .i64 (-1), .bool false, d8, d9, d10, d11, d12, d13, d14, d15, d16, d17, d18, d19, d20, d21, d22, d23, d24] := by simp only [rroot.fin, ht]
    rw [hf]
    simp only [RX.nth, rroot.rt]
    refine Lp.done ((rroot.round n r (-1) d1 z d5 d6 d7 d8 d9 d10 d11 d12 d13 d14 d15 d16 d17 d18 d19 d20 d21 d22 d23 d24 nx).trans ht) trivial (fun h => h.of fun v hv => by
      simp only [List.mem_cons, List.not_mem_nil, or_false] at hv
      rcases hv with rfl | rfl | rfl | rfl | rfl | rfl | rfl | rfl | rfl | rfl | rfl | rfl | rfl | rfl | rfl | rfl | rfl | rfl | rfl | rfl | rfl | rfl | rfl | rfl | rfl <;> first | exact .inl (clo_spec 8 _ rfl) | exact .inr (by simp))
  | k + 1, n, r, bit, d1, z, d5, d6, d7, d8, d9, d10, d11, d12, d13, d14, d15, d16, d17, d18, d19, d20, d21, d22, d23, d24, nx, hk, hb, hr, hr' => by
    have hbk : bit = (k : Int) := by omega
    have hp : 2 ^ k ≤ 2 ^ 31 := Nat.pow_le_pow_right (by omega) (by omega)
    have hps : (2 : Nat) ^ (k + 1) = 2 ^ k * 2 := Nat.pow_succ ..
    have hpi : ((2 ^ k : Nat) : Int) = 2 ^ k := by simp
    have hX : IntKind.i64.wrap (r + IntKind.i64.wrap (1 * 2 ^ min bit.toNat IntKind.i64.bits)) = r + 2 ^ k := by
      have e : min bit.toNat IntKind.i64.bits = k := by rw [hbk]; show min (Int.toNat (k : Int)) 64 = k; omega
      rw [e, Int.one_mul, ← hpi]
      generalize 2 ^ k = m at *
      rw [w64 (n := (m : Int)) (by omega) (by omega), w64 (by omega) (by omega)]
    have hd1 : decide (bit ≥ 0) = true := decide_eq_true (by omega)
    have hd2 : decide (0 ≤ bit) = true := decide_eq_true (by omega)
    have hbit : IntKind.i64.wrap (bit - 1) = (k : Int) - 1 := by rw [hbk]; exact w64 (by omega) (by omega)
    rw [hps] at hr'
    have hr2 : r + (2 : Int) ^ k + ((2 ^ k : Nat) : Int) ≤ 4294967296 := by rw [← hpi]; generalize 2 ^ k = m at *; omega
    have hr3 : 0 ≤ r + (2 : Int) ^ k := by rw [← hpi]; generalize 2 ^ k = m at *; omega
    have hr4 : r + ((2 ^ k : Nat) : Int) ≤ 4294967296 := by generalize 2 ^ k = m at *; omega
    by_cases hc : r + 2 ^ k ≤ 3037000499
    · have hc' : decide (IntKind.i64.wrap (r + IntKind.i64.wrap (1 * 2 ^ min bit.toNat IntKind.i64.bits)) ≤ 3037000499) = true := decide_eq_true (by rw [hX]; exact hc)
      have hW : IntKind.i64.wrap (IntKind.i64.wrap (r + IntKind.i64.wrap (1 * 2 ^ min bit.toNat IntKind.i64.bits)) * IntKind.i64.wrap (r + IntKind.i64.wrap (1 * 2 ^ min bit.toNat IntKind.i64.bits))) = (r + 2 ^ k) * (r + 2 ^ k) := by
        rw [hX]
        have := mul_bnd (A := 3037000499) (B := 3037000499) (x := r + 2 ^ k) (y := r + 2 ^ k) (by omega) (by omega) (by omega) hc (by omega) hc
        exact w64 (by omega) (by omega)
      by_cases hq : (r + 2 ^ k) * (r + 2 ^ k) ≤ n
      · have hq' : decide (IntKind.i64.wrap (IntKind.i64.wrap (r + IntKind.i64.wrap (1 * 2 ^ min bit.toNat IntKind.i64.bits)) * IntKind.i64.wrap (r + IntKind.i64.wrap (1 * 2 ^ min bit.toNat IntKind.i64.bits))) ≤ n) = true := decide_eq_true (by rw [hW]; exact hq)
        have hrt : rroot.rt (k + 1) n r = rroot.rt k n (IntKind.i64.wrap (r + IntKind.i64.wrap (1 * 2 ^ min bit.toNat IntKind.i64.bits))) := by
          rw [rroot.rt, if_pos ⟨hc, hq⟩, hX]
        have ht : rroot.tree n r bit d1 z d5 d6 d7 d8 d9 d10 d11 d12 d13 d14 d15 d16 d17 d18 d19 d20 d21 d22 d23 d24 = some (.normal, [.int .i64 n, d1, z, .int .i64 (IntKind.i64.wrap (r + IntKind.i64.wrap (1 * 2 ^ min bit.toNat IntKind.i64.bits))), .int .i64 (IntKind.i64.wrap (bit - 1)), .int .i64 (IntKind.i64.wrap (r + IntKind.i64.wrap (1 * 2 ^ min bit.toNat IntKind.i64.bits))), .int .i64 bit, .bool true, .int .i64 bit, .int .i64 (IntKind.i64.wrap (bit - 1)), .int .i64 r, .int .i64 bit, .int .i64 (IntKind.i64.wrap (1 * 2 ^ min bit.toNat IntKind.i64.bits)), .int .i64 (IntKind.i64.wrap (r + IntKind.i64.wrap (1 * 2 ^ min bit.toNat IntKind.i64.bits))), .int .i64 (IntKind.i64.wrap (r + IntKind.i64.wrap (1 * 2 ^ min bit.toNat IntKind.i64.bits))), .bool (decide (IntKind.i64.wrap (r + IntKind.i64.wrap (1 * 2 ^ min bit.toNat IntKind.i64.bits)) ≤ 3037000499)), .bool true, .int .i64 (IntKind.i64.wrap (r + IntKind.i64.wrap (1 * 2 ^ min bit.toNat IntKind.i64.bits))), .int .i64 (IntKind.i64.wrap (r + IntKind.i64.wrap (1 * 2 ^ min bit.toNat IntKind.i64.bits))), .int .i64 (IntKind.i64.wrap (IntKind.i64.wrap (r + IntKind.i64.wrap (1 * 2 ^ min bit.toNat IntKind.i64.bits)) * IntKind.i64.wrap (r + IntKind.i64.wrap (1 * 2 ^ min bit.toNat IntKind.i64.bits)))), .int .i64 n, .bool (decide (IntKind.i64.wrap (IntKind.i64.wrap (r + IntKind.i64.wrap (1 * 2 ^ min bit.toNat IntKind.i64.bits)) * IntKind.i64.wrap (r + IntKind.i64.wrap (1 * 2 ^ min bit.toNat IntKind.i64.bits))) ≤ n)), .bool true, .int .i64 (IntKind.i64.wrap (r + IntKind.i64.wrap (1 * 2 ^ min bit.toNat IntKind.i64.bits))), d24], []) := by
          simp only [rroot.tree, hd1, hd2, hc', hq', cond_true, cond_false]
        have hf : rroot.fin (k + 1 + 1) [.int .i64 n, d1, z, .int .i64 r, .int .i64 bit, d5, d6, d7, d8, d9, d10, d11, d12, d13, d14, d15, d16, d17, d18, d19, d20, d21, d22, d23, d24] = rroot.fin (k + 1) [.int .i64 n, d1, z, .int .i64 (IntKind.i64.wrap (r + IntKind.i64.wrap (1 * 2 ^ min bit.toNat IntKind.i64.bits))), .int .i64 (IntKind.i64.wrap (bit - 1)), .int .i64 (IntKind.i64.wrap (r + IntKind.i64.wrap (1 * 2 ^ min bit.toNat IntKind.i64.bits))), .int .i64 bit, .bool true, .int .i64 bit, .int .i64 (IntKind.i64.wrap (bit - 1)), .int .i64 r, .int .i64 bit, .int .i64 (IntKind.i64.wrap (1 * 2 ^ min bit.toNat IntKind.i64.bits)), .int .i64 (IntKind.i64.wrap (r + IntKind.i64.wrap (1 * 2 ^ min bit.toNat IntKind.i64.bits))), .int .i64 (IntKind.i64.wrap (r + IntKind.i64.wrap (1 * 2 ^ min bit.toNat IntKind.i64.bits))), .bool (decide (IntKind.i64.wrap (r + IntKind.i64.wrap (1 * 2 ^ min bit.toNat IntKind.i64.bits)) ≤ 3037000499)), .bool true, .int .i64 (IntKind.i64.wrap (r + IntKind.i64.wrap (1 * 2 ^ min bit.toNat IntKind.i64.bits))), .int .i64 (IntKind.i64.wrap (r + IntKind.i64.wrap (1 * 2 ^ min bit.toNat IntKind.i64.bits))), .int .i64 (IntKind.i64.wrap (IntKind.i64.wrap (r + IntKind.i64.wrap (1 * 2 ^ min bit.toNat IntKind.i64.bits)) * IntKind.i64.wrap (r + IntKind.i64.wrap (1 * 2 ^ min bit.toNat IntKind.i64.bits)))), .int .i64 n, .bool (decide (IntKind.i64.wrap (IntKind.i64.wrap (r + IntKind.i64.wrap (1 * 2 ^ min bit.toNat IntKind.i64.bits)) * IntKind.i64.wrap (r + IntKind.i64.wrap (1 * 2 ^ min bit.toNat IntKind.i64.bits))) ≤ n)), .bool true, .int .i64 (IntKind.i64.wrap (r + IntKind.i64.wrap (1 * 2 ^ min bit.toNat IntKind.i64.bits))), d24] := by simp only [rroot.fin, ht]
        rw [hf, hrt]
        refine Lp.more ((rroot.round n r bit d1 z d5 d6 d7 d8 d9 d10 d11 d12 d13 d14 d15 d16 d17 d18 d19 d20 d21 d22 d23 d24 nx).trans ht) (fun h => h.of fun v hv => by
        simp only [List.mem_cons, List.not_mem_nil, or_false] at hv
        rcases hv with rfl | rfl | rfl | rfl | rfl | rfl | rfl | rfl | rfl | rfl | rfl | rfl | rfl | rfl | rfl | rfl | rfl | rfl | rfl | rfl | rfl | rfl | rfl | rfl | rfl <;> first | exact .inl (clo_spec 8 _ rfl) | exact .inr (by simp)) ?_
        rw [hbit]
        exact rroot.lp k _ _ _ _ _ _ _ _ _ _ _ _ _ _ _ _ _ _ _ _ _ _ _ _ _ nx (by omega) rfl (by omega) (by omega)
      · have hq' : decide (IntKind.i64.wrap (IntKind.i64.wrap (r + IntKind.i64.wrap (1 * 2 ^ min bit.toNat IntKind.i64.bits)) * IntKind.i64.wrap (r + IntKind.i64.wrap (1 * 2 ^ min bit.toNat IntKind.i64.bits))) ≤ n) = false := decide_eq_false (by rw [hW]; exact hq)
        have hrt : rroot.rt (k + 1) n r = rroot.rt k n r := by
          rw [rroot.rt, if_neg (fun h => hq h.2)]
        have ht : rroot.tree n r bit d1 z d5 d6 d7 d8 d9 d10 d11 d12 d13 d14 d15 d16 d17 d18 d19 d20 d21 d22 d23 d24 = some (.normal, [.int .i64 n, d1, z, .int .i64 r, .int .i64 (IntKind.i64.wrap (bit - 1)), .int .i64 (IntKind.i64.wrap (r + IntKind.i64.wrap (1 * 2 ^ min bit.toNat IntKind.i64.bits))), .int .i64 bit, .bool true, .int .i64 bit, .int .i64 (IntKind.i64.wrap (bit - 1)), .int .i64 r, .int .i64 bit, .int .i64 (IntKind.i64.wrap (1 * 2 ^ min bit.toNat IntKind.i64.bits)), .int .i64 (IntKind.i64.wrap (r + IntKind.i64.wrap (1 * 2 ^ min bit.toNat IntKind.i64.bits))), .int .i64 (IntKind.i64.wrap (r + IntKind.i64.wrap (1 * 2 ^ min bit.toNat IntKind.i64.bits))), .bool (decide (IntKind.i64.wrap (r + IntKind.i64.wrap (1 * 2 ^ min bit.toNat IntKind.i64.bits)) ≤ 3037000499)), .bool true, .int .i64 (IntKind.i64.wrap (r + IntKind.i64.wrap (1 * 2 ^ min bit.toNat IntKind.i64.bits))), .int .i64 (IntKind.i64.wrap (r + IntKind.i64.wrap (1 * 2 ^ min bit.toNat IntKind.i64.bits))), .int .i64 (IntKind.i64.wrap (IntKind.i64.wrap (r + IntKind.i64.wrap (1 * 2 ^ min bit.toNat IntKind.i64.bits)) * IntKind.i64.wrap (r + IntKind.i64.wrap (1 * 2 ^ min bit.toNat IntKind.i64.bits)))), .int .i64 n, .bool (decide (IntKind.i64.wrap (IntKind.i64.wrap (r + IntKind.i64.wrap (1 * 2 ^ min bit.toNat IntKind.i64.bits)) * IntKind.i64.wrap (r + IntKind.i64.wrap (1 * 2 ^ min bit.toNat IntKind.i64.bits))) ≤ n)), .bool false, d23, d24], []) := by
          simp only [rroot.tree, hd1, hd2, hc', hq', cond_true, cond_false]
        have hf : rroot.fin (k + 1 + 1) [.int .i64 n, d1, z, .int .i64 r, .int .i64 bit, d5, d6, d7, d8, d9, d10, d11, d12, d13, d14, d15, d16, d17, d18, d19, d20, d21, d22, d23, d24] = rroot.fin (k + 1) [.int .i64 n, d1, z, .int .i64 r, .int .i64 (IntKind.i64.wrap (bit - 1)), .int .i64 (IntKind.i64.wrap (r + IntKind.i64.wrap (1 * 2 ^ min bit.toNat IntKind.i64.bits))), .int .i64 bit, .bool true, .int .i64 bit, .int .i64 (IntKind.i64.wrap (bit - 1)), .int .i64 r, .int .i64 bit, .int .i64 (IntKind.i64.wrap (1 * 2 ^ min bit.toNat IntKind.i64.bits)), .int .i64 (IntKind.i64.wrap (r + IntKind.i64.wrap (1 * 2 ^ min bit.toNat IntKind.i64.bits))), .int .i64 (IntKind.i64.wrap (r + IntKind.i64.wrap (1 * 2 ^ min bit.toNat IntKind.i64.bits))), .bool (decide (IntKind.i64.wrap (r + IntKind.i64.wrap (1 * 2 ^ min bit.toNat IntKind.i64.bits)) ≤ 3037000499)), .bool true, .int .i64 (IntKind.i64.wrap (r + IntKind.i64.wrap (1 * 2 ^ min bit.toNat IntKind.i64.bits))), .int .i64 (IntKind.i64.wrap (r + IntKind.i64.wrap (1 * 2 ^ min bit.toNat IntKind.i64.bits))), .int .i64 (IntKind.i64.wrap (IntKind.i64.wrap (r + IntKind.i64.wrap (1 * 2 ^ min bit.toNat IntKind.i64.bits)) * IntKind.i64.wrap (r + IntKind.i64.wrap (1 * 2 ^ min bit.toNat IntKind.i64.bits)))), .int .i64 n, .bool (decide (IntKind.i64.wrap (IntKind.i64.wrap (r + IntKind.i64.wrap (1 * 2 ^ min bit.toNat IntKind.i64.bits)) * IntKind.i64.wrap (r + IntKind.i64.wrap (1 * 2 ^ min bit.toNat IntKind.i64.bits))) ≤ n)), .bool false, d23, d24] := by simp only [rroot.fin, ht]
        rw [hf, hrt]
        refine Lp.more ((rroot.round n r bit d1 z d5 d6 d7 d8 d9 d10 d11 d12 d13 d14 d15 d16 d17 d18 d19 d20 d21 d22 d23 d24 nx).trans ht) (fun h => h.of fun v hv => by
        simp only [List.mem_cons, List.not_mem_nil, or_false] at hv
        rcases hv with rfl | rfl | rfl | rfl | rfl | rfl | rfl | rfl | rfl | rfl | rfl | rfl | rfl | rfl | rfl | rfl | rfl | rfl | rfl | rfl | rfl | rfl | rfl | rfl | rfl <;> first | exact .inl (clo_spec 8 _ rfl) | exact .inr (by simp)) ?_
        rw [hbit]
        exact rroot.lp k _ _ _ _ _ _ _ _ _ _ _ _ _ _ _ _ _ _ _ _ _ _ _ _ _ nx (by omega) rfl (by omega) (by omega)
    · have hc' : decide (IntKind.i64.wrap (r + IntKind.i64.wrap (1 * 2 ^ min bit.toNat IntKind.i64.bits)) ≤ 3037000499) = false := decide_eq_false (by rw [hX]; exact hc)
      have hrt : rroot.rt (k + 1) n r = rroot.rt k n r := by
        rw [rroot.rt, if_neg (fun h => hc h.1)]
      have ht : rroot.tree n r bit d1 z d5 d6 d7 d8 d9 d10 d11 d12 d13 d14 d15 d16 d17 d18 d19 d20 d21 d22 d23 d24 = some (.normal, [.int .i64 n, d1, z, .int .i64 r, .int .i64 (IntKind.i64.wrap (bit - 1)), .int .i64 (IntKind.i64.wrap (r + IntKind.i64.wrap (1 * 2 ^ min bit.toNat IntKind.i64.bits))), .int .i64 bit, .bool true, .int .i64 bit, .int .i64 (IntKind.i64.wrap (bit - 1)), .int .i64 r, .int .i64 bit, .int .i64 (IntKind.i64.wrap (1 * 2 ^ min bit.toNat IntKind.i64.bits)), .int .i64 (IntKind.i64.wrap (r + IntKind.i64.wrap (1 * 2 ^ min bit.toNat IntKind.i64.bits))), .int .i64 (IntKind.i64.wrap (r + IntKind.i64.wrap (1 * 2 ^ min bit.toNat IntKind.i64.bits))), .bool (decide (IntKind.i64.wrap (r + IntKind.i64.wrap (1 * 2 ^ min bit.toNat IntKind.i64.bits)) ≤ 3037000499)), .bool false, .tuple ⟨[]⟩, .tuple ⟨[]⟩, .tuple ⟨[]⟩, .tuple ⟨[]⟩, .tuple ⟨[]⟩, .bool false, d23, d24], []) := by
        simp only [rroot.tree, hd1, hd2, hc', cond_true, cond_false]
      have hf : rroot.fin (k + 1 + 1) [.int .i64 n, d1, z, .int .i64 r, .int .i64 bit, d5, d6, d7, d8, d9, d10, d11, d12, d13, d14, d15, d16, d17, d18, d19, d20, d21, d22, d23, d24] = rroot.fin (k + 1) [.int .i64 n, d1, z, .int .i64 r, .int .i64 (IntKind.i64.wrap (bit - 1)), .int .i64 (IntKind.i64.wrap (r + IntKind.i64.wrap (1 * 2 ^ min bit.toNat IntKind.i64.bits))), .int .i64 bit, .bool true, .int .i64 bit, .int .i64 (IntKind.i64.wrap (bit - 1)), .int .i64 r, .int .i64 bit, .int .i64 (IntKind.i64.wrap (1 * 2 ^ min bit.toNat IntKind.i64.bits)), .int .i64 (IntKind.i64.wrap (r + IntKind.i64.wrap (1 * 2 ^ min bit.toNat IntKind.i64.bits))), .int .i64 (IntKind.i64.wrap (r + IntKind.i64.wrap (1 * 2 ^ min bit.toNat IntKind.i64.bits))), .bool (decide (IntKind.i64.wrap (r + IntKind.i64.wrap (1 * 2 ^ min bit.toNat IntKind.i64.bits)) ≤ 3037000499)), .bool false, .tuple ⟨[]⟩, .tuple ⟨[]⟩, .tuple ⟨[]⟩, .tuple ⟨[]⟩, .tuple ⟨[]⟩, .bool false, d23, d24] := by simp only [rroot.fin, ht]
      rw [hf, hrt]
      refine Lp.more ((rroot.round n r bit d1 z d5 d6 d7 d8 d9 d10 d11 d12 d13 d14 d15 d16 d17 d18 d19 d20 d21 d22 d23 d24 nx).trans ht) (fun h => h.of fun v hv => by
      simp only [List.mem_cons, List.not_mem_nil, or_false] at hv
      rcases hv with rfl | rfl | rfl | rfl | rfl | rfl | rfl | rfl | rfl | rfl | rfl | rfl | rfl | rfl | rfl | rfl | rfl | rfl | rfl | rfl | rfl | rfl | rfl | rfl | rfl <;> first | exact .inl (clo_spec 8 _ rfl) | exact .inr (by simp)) ?_
      rw [hbit]
      exact rroot.lp k _ _ _ _ _ _ _ _ _ _ _ _ _ _ _ _ _ _ _ _ _ _ _ _ _ nx (by omega) rfl (by omega) (by omega)

def rroot.t : LSpec
  | ⟨[.int .i64 n, d1, z, .int .i64 r, .int .i64 bit, d5, d6, d7, d8, d9, d10, d11, d12, d13, d14, d15, d16, d17, d18, d19, d20, d21, d22, d23, d24], [], nx⟩ => some (decide (r = 0) && decide (bit = 31), .exit 0, ⟨[.int .i64 n, RX.nth (rroot.fin 33 [.int .i64 n, d1, z, .int .i64 r, .int .i64 bit, d5, d6, d7, d8, d9, d10, d11, d12, d13, d14, d15, d16, d17, d18, d19, d20, d21, d22, d23, d24]) 1, RX.nth (rroot.fin 33 [.int .i64 n, d1, z, .int .i64 r, .int .i64 bit, d5, d6, d7, d8, d9, d10, d11, d12, d13, d14, d15, d16, d17, d18, d19, d20, d21, d22, d23, d24]) 2, .int .i64 (rroot.rt 32 n 0), RX.nth (rroot.fin 33 [.int .i64 n, d1, z, .int .i64 r, .int .i64 bit, d5, d6, d7, d8, d9, d10, d11, d12, d13, d14, d15, d16, d17, d18, d19, d20, d21, d22, d23, d24]) 4, RX.nth (rroot.fin 33 [.int .i64 n, d1, z, .int .i64 r, .int .i64 bit, d5, d6, d7, d8, d9, d10, d11, d12, d13, d14, d15, d16, d17, d18, d19, d20, d21, d22, d23, d24]) 5, RX.nth (rroot.fin 33 [.int .i64 n, d1, z, .int .i64 r, .int .i64 bit, d5, d6, d7, d8, d9, d10, d11, d12, d13, d14, d15, d16, d17, d18, d19, d20, d21, d22, d23, d24]) 6, RX.nth (rroot.fin 33 [.int .i64 n, d1, z, .int .i64 r, .int .i64 bit, d5, d6, d7, d8, d9, d10, d11, d12, d13, d14, d15, d16, d17, d18, d19, d20, d21, d22, d23, d24]) 7, RX.nth (rroot.fin 33 [.int .i64 n, d1, z, .int .i64 r, .int .i64 bit, d5, d6, d7, d8, d9, d10, d11, d12, d13, d14, d15, d16, d17, d18, d19, d20, d21, d22, d23, d24]) 8, RX.nth (rroot.fin 33 [.int .i64 n, d1, z, .int .i64 r, .int .i64 bit, d5, d6, d7, d8, d9, d10, d11, d12, d13, d14, d15, d16, d17, d18, d19, d20, d21, d22, d23, d24]) 9, RX.nth (rroot.fin 33 [.int .i64 n, d1, z, .int .i64 r, .int .i64 bit, d5, d6, d7, d8, d9, d10, d11, d12, d13, d14, d15, d16, d17, d18, d19, d20, d21, d22, d23, d24]) 10, RX.nth (rroot.fin 33 [.int .i64 n, d1, z, .int .i64 r, .int .i64 bit, d5, d6, d7, d8, d9, d10, d11, d12, d13, d14, d15, d16, d17, d18, d19, d20, d21, d22, d23, d24]) 11, RX.nth (rroot.fin 33 [.int .i64 n, d1, z, .int .i64 r, .int .i64 bit, d5, d6, d7, d8, d9, d10, d11, d12, d13, d14, d15, d16, d17, d18, d19, d20, d21, d22, d23, d24]) 12, RX.nth (rroot.fin 33 [.int .i64 n, d1, z, .int .i64 r, .int .i64 bit, d5, d6, d7, d8, d9, d10, d11, d12, d13, d14, d15, d16, d17, d18, d19, d20, d21, d22, d23, d24]) 13, RX.nth (rroot.fin 33 [.int .i64 n, d1, z, .int .i64 r, .int .i64 bit, d5, d6, d7, d8, d9, d10, d11, d12, d13, d14, d15, d16, d17, d18, d19, d20, d21, d22, d23, d24]) 14, RX.nth (rroot.fin 33 [.int .i64 n, d1, z, .int .i64 r, .int .i64 bit, d5, d6, d7, d8, d9, d10, d11, d12, d13, d14, d15, d16, d17, d18, d19, d20, d21, d22, d23, d24]) 15, RX.nth (rroot.fin 33 [.int .i64 n, d1, z, .int .i64 r, .int .i64 bit, d5, d6, d7, d8, d9, d10, d11, d12, d13, d14, d15, d16, d17, d18, d19, d20, d21, d22, d23, d24]) 16, RX.nth (rroot.fin 33 [.int .i64 n, d1, z, .int .i64 r, .int .i64 bit, d5, d6, d7, d8, d9, d10, d11, d12, d13, d14, d15, d16, d17, d18, d19, d20, d21, d22, d23, d24]) 17, RX.nth (rroot.fin 33 [.int .i64 n, d1, z, .int .i64 r, .int .i64 bit, d5, d6, d7, d8, d9, d10, d11, d12, d13, d14, d15, d16, d17, d18, d19, d20, d21, d22, d23, d24]) 18, RX.nth (rroot.fin 33 [.int .i64 n, d1, z, .int .i64 r, .int .i64 bit, d5, d6, d7, d8, d9, d10, d11, d12, d13, d14, d15, d16, d17, d18, d19, d20, d21, d22, d23, d24]) 19, RX.nth (rroot.fin 33 [.int .i64 n, d1, z, .int .i64 r, .int .i64 bit, d5, d6, d7, d8, d9, d10, d11, d12, d13, d14, d15, d16, d17, d18, d19, d20, d21, d22, d23, d24]) 20, RX.nth (rroot.fin 33 [.int .i64 n, d1, z, .int .i64 r, .int .i64 bit, d5, d6, d7, d8, d9, d10, d11, d12, d13, d14, d15, d16, d17, d18, d19, d20, d21, d22, d23, d24]) 21, RX.nth (rroot.fin 33 [.int .i64 n, d1, z, .int .i64 r, .int .i64 bit, d5, d6, d7, d8, d9, d10, d11, d12, d13, d14, d15, d16, d17, d18, d19, d20, d21, d22, d23, d24]) 22, RX.nth (rroot.fin 33 [.int .i64 n, d1, z, .int .i64 r, .int .i64 bit, d5, d6, d7, d8, d9, d10, d11, d12, d13, d14, d15, d16, d17, d18, d19, d20, d21, d22, d23, d24]) 23, RX.nth (rroot.fin 33 [.int .i64 n, d1, z, .int .i64 r, .int .i64 bit, d5, d6, d7, d8, d9, d10, d11, d12, d13, d14, d15, d16, d17, d18, d19, d20, d21, d22, d23, d24]) 24], [], nx⟩)
  | _ => none
theorem rroot.lok : LOK Tryd.prog (loopCode Tryd.f47 0) rroot.t := by
  refine lok_of (E := ⟨[], []⟩) (L := []) (f := 3) ⟨specs_nil, inl_nil, mixed_ok⟩ lsOk_nil fun S x S' h => ?_
  unfold rroot.t at h
  split at h
  · simp only [Option.some.injEq, Prod.mk.injEq, Bool.and_eq_true, decide_eq_true_eq] at h
    obtain ⟨⟨rfl, rfl⟩, rfl, rfl⟩ := h
    exact rroot.lp 32 _ _ _ _ _ _ _ _ _ _ _ _ _ _ _ _ _ _ _ _ _ _ _ _ _ _ (by omega) (by decide) (by omega) (by decide)
  · cases h
def culetref27_Root.sp : HSpec
  | [.int .i64 n], [] => some (true, .int .i64 (rroot.rt 32 n 0), [])
  | _, _ => none
theorem rroot.run (n : Int) : xfn Tryd.prog ⟨[], []⟩ [(0, rroot.t)] 10 Tryd.f47 [.int .i64 n] [] = some (.int .i64 (rroot.rt 32 n 0), []) := by kernel_rfl
theorem culetref27_Root.ok : SOK Tryd.prog 47 culetref27_Root.sp := by
  refine sok_of (E := ⟨[], []⟩) (L := [(0, rroot.t)]) ⟨specs_nil, inl_nil, mixed_ok⟩ 10 Tryd.func47 (by decide) rfl (one_loop rfl rfl rroot.lok) fun vs bl v bl' h => ?_
  unfold culetref27_Root.sp at h
  split at h
  · simp only [Option.some.injEq, Prod.mk.injEq, true_and] at h
    obtain ⟨rfl, rfl⟩ := h
    exact ⟨rroot.run _, by simp [okV, Nat.blt], clo_spec 8 _ rfl, told_blk rfl⟩
  · cases h
end Go.Proofs.YtpghmdjjkpjnfaaDoor.G
