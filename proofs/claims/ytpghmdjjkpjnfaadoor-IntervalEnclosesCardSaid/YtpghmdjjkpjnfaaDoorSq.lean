/- Square roots of whole numbers, rounded down, and of intervals. -/
import Derived.Test.YtpghmdjjkpjnfaaDoorFr
namespace Go.Proofs.YtpghmdjjkpjnfaaDoor.G
open Go
set_option linter.unusedVariables false
def rts : Nat → Int → Int → Int
  | 0, n, r => r
  | k + 1, n, r => rts k n (if (r + 2 ^ k) * (r + 2 ^ k) ≤ n then r + 2 ^ k else r)
def sqt (n : Int) : Int := rts 32 n 0
theorem pow_succ_int (k : Nat) : (2 : Int) ^ (k + 1) = 2 ^ k + 2 ^ k := by rw [Int.pow_succ]; omega
theorem pow_nonneg_int (k : Nat) : (0 : Int) < 2 ^ k := by
  induction k with
  | zero => decide
  | succ k ih => rw [pow_succ_int]; omega
theorem rts_spec : ∀ (k : Nat) (n r : Int), 0 ≤ r → r * r ≤ n → n < (r + 2 ^ k) * (r + 2 ^ k) → 0 ≤ rts k n r ∧ rts k n r * rts k n r ≤ n ∧ n < (rts k n r + 1) * (rts k n r + 1)
  | 0, n, r, h0, h1, h2 => by
    simp only [rts]
    exact ⟨h0, h1, by simpa using h2⟩
  | k + 1, n, r, h0, h1, h2 => by
    simp only [rts]
    have hp := pow_nonneg_int k
    rw [pow_succ_int] at h2
    split
    · rename_i h
      refine rts_spec k n (r + 2 ^ k) (by omega) h ?_
      rw [Int.add_assoc]; exact h2
    · rename_i h
      exact rts_spec k n r h0 h1 (by omega)
theorem sqt_spec {n : Int} (h0 : 0 ≤ n) (h : n ≤ 4611686018427387904) : 0 ≤ sqt n ∧ sqt n * sqt n ≤ n ∧ n < (sqt n + 1) * (sqt n + 1) :=
  rts_spec 32 n 0 (by omega) (by omega) (by
    have : ((0 : Int) + 2 ^ 32) * (0 + 2 ^ 32) = 18446744073709551616 := by decide
    omega)
theorem le_of_sq {a b : Int} (hb : 0 ≤ b) (h : a * a < (b + 1) * (b + 1)) : a ≤ b := by
  by_cases hab : a ≤ b
  · exact hab
  · have : (b + 1) * (b + 1) ≤ a * a := sq_mono (by omega) (by omega)
    omega
theorem sqt_uniq {n a : Int} (h0 : 0 ≤ n) (h : n ≤ 4611686018427387904) (ha : 0 ≤ a) (h1 : a * a ≤ n) (h2 : n < (a + 1) * (a + 1)) : a = sqt n := by
  have hs := sqt_spec h0 h
  have e1 : a ≤ sqt n := le_of_sq hs.1 (by omega)
  have e2 : sqt n ≤ a := le_of_sq ha (by omega)
  omega
theorem sqt_mono {m n : Int} (h0 : 0 ≤ m) (hmn : m ≤ n) (h : n ≤ 4611686018427387904) : sqt m ≤ sqt n := by
  have h1 := sqt_spec h0 (by omega)
  have h2 := sqt_spec (n := n) (by omega) h
  exact le_of_sq h2.1 (by omega)
def sqc (n : Int) : Int := if sqt n * sqt n < n then sqt n + 1 else sqt n
theorem sqc_spec {n : Int} (h0 : 0 ≤ n) (h : n ≤ 4611686018427387904) : 0 ≤ sqc n ∧ n ≤ sqc n * sqc n ∧ (0 < sqc n → (sqc n - 1) * (sqc n - 1) < n) ∧ sqt n ≤ sqc n ∧ sqc n ≤ sqt n + 1 := by
  have hs := sqt_spec h0 h
  unfold sqc
  split
  · refine ⟨by omega, by omega, fun _ => ?_, by omega, by omega⟩
    rw [Int.add_sub_cancel]; assumption
  · refine ⟨hs.1, by omega, fun hp => ?_, by omega, by omega⟩
    have : (sqt n - 1) * (sqt n - 1) < sqt n * sqt n := by
      have := sq_mono (x := sqt n - 1) (y := sqt n) (by omega) (by omega)
      have e : sqt n * sqt n = (sqt n - 1) * (sqt n - 1) + 2 * (sqt n - 1) + 1 := by
        have : sqt n = (sqt n - 1) + 1 := by omega
        generalize sqt n - 1 = q at *
        rw [this, Int.add_mul, Int.mul_add]; omega
      omega
    omega
theorem sqc_le {n q : Int} (h0 : 0 ≤ n) (h : n ≤ 4611686018427387904) (hq : 0 ≤ q) (hn : n ≤ q * q) : sqc n ≤ q := by
  have hs := sqc_spec h0 h
  by_cases hp : 0 < sqc n
  · have := le_of_sq (a := sqc n - 1) (b := q - 1 + 0) (by
      by_cases hq0 : q = 0
      · subst hq0
        have h1 := hs.2.2.1 hp
        have h2 := sq_nonneg (sqc n - 1)
        omega
      · omega) (by
      have e : q - 1 + 0 + 1 = q := by omega
      rw [e]
      have := hs.2.2.1 hp
      omega)
    omega
  · omega
theorem sqc_mono {m n : Int} (h0 : 0 ≤ m) (hmn : m ≤ n) (h : n ≤ 4611686018427387904) : sqc m ≤ sqc n := by
  have h2 := sqc_spec (n := n) (by omega) h
  exact sqc_le h0 (by omega) h2.1 (by omega)
/-- The interval of square roots: 2 is the error of a number out of range. -/
def isr (a b : Int) : Int × Int × Int := bif V a b then (if a < 0 then (0, 0, 2) else (sqt (a * 16777216), sqc (b * 16777216), 0)) else (0, 0, 1)
theorem isr_range {a b : Int} (h0 : 0 ≤ a) (h1 : a ≤ b) (h2 : b ≤ 1073741824) : 0 ≤ sqt (a * 16777216) ∧ sqt (a * 16777216) ≤ sqc (b * 16777216) ∧ sqc (b * 16777216) ≤ 134217728 := by
  have s1 := sqt_spec (n := a * 16777216) (by omega) (by omega)
  have s2 := sqc_spec (n := b * 16777216) (by omega) (by omega)
  have s3 := sqt_mono (m := a * 16777216) (n := b * 16777216) (by omega) (by omega) (by omega)
  have s4 := sqc_le (n := b * 16777216) (q := 134217728) (by omega) (by omega) (by omega) (by omega)
  omega
theorem isr_ok {a b L H : Int} (h : isr a b = (L, H, 0)) : V a b = true ∧ 0 ≤ a ∧ L = sqt (a * 16777216) ∧ H = sqc (b * 16777216) := by
  unfold isr at h
  cases hv : V a b with
  | false => simp [hv] at h
  | true =>
    by_cases ha : a < 0
    · simp [hv, ha] at h
    · simp only [hv, cond_true, ha, if_false, Prod.mk.injEq, and_true] at h
      exact ⟨rfl, by omega, h.1.symm, h.2.symm⟩
theorem isr_inc {a b A B L H : Int} (h1 : In a b A B) (h : isr A B = (L, H, 0)) : ∃ l r, isr a b = (l, r, 0) ∧ In l r L H ∧ V L H = true := by
  obtain ⟨hv, h0, e1, e2⟩ := isr_ok h
  have hV := V_iff.1 hv
  have hva := h1.v hv
  unfold In at h1
  have m1 := sqt_mono (m := A * 16777216) (n := a * 16777216) (by omega) (by omega) (by omega)
  have m2 := sqc_mono (m := b * 16777216) (n := B * 16777216) (by omega) (by omega) (by omega)
  have r1 := isr_range (a := a) (b := b) (by omega) (by omega) (by omega)
  have r2 := isr_range (a := A) (b := B) (by omega) (by omega) (by omega)
  refine ⟨sqt (a * 16777216), sqc (b * 16777216), ?_, ?_, V_iff.2 (by omega)⟩
  · rw [isr, hva, cond_true, if_neg (by omega)]
  · unfold In; omega
def ineg (a b : Int) : Int × Int × Int := bif V a b then (-b, -a, 0) else (0, 0, 1)
theorem ineg_inc {a b A B L H : Int} (h1 : In a b A B) (h : ineg A B = (L, H, 0)) : ∃ l r, ineg a b = (l, r, 0) ∧ In l r L H ∧ V L H = true := by
  unfold ineg at h
  cases hv : V A B with
  | false => simp [hv] at h
  | true =>
    simp only [hv, cond_true, Prod.mk.injEq, and_true] at h
    have hV := V_iff.1 hv
    have hva := h1.v hv
    unfold In at h1
    refine ⟨-b, -a, by rw [ineg, hva, cond_true], ?_, V_iff.2 (by omega)⟩
    unfold In; omega
def isg (a b : Int) : Int := bif V a b then (if 0 < a then 1 else if b < 0 then -1 else 0) else 0
end Go.Proofs.YtpghmdjjkpjnfaaDoor.G
