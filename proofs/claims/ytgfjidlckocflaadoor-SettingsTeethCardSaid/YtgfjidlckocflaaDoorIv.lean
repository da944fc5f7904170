/- Intervals of whole numbers in units of 2^-24: the plain functions and their laws. -/
import Derived.Test.YtgfjidlckocflaaDoorM
namespace Go.Proofs.YtgfjidlckocflaaDoor.G
open Go
set_option linter.unusedVariables false
def V (a b : Int) : Bool := decide (-1073741824 ≤ a ∧ a ≤ b ∧ b ≤ 1073741824)
theorem V_iff {a b : Int} : V a b = true ↔ -1073741824 ≤ a ∧ a ≤ b ∧ b ≤ 1073741824 := by simp [V]
theorem V_not {a b : Int} : V a b = false ↔ ¬ (-1073741824 ≤ a ∧ a ≤ b ∧ b ≤ 1073741824) := by simp only [V, decide_eq_false_iff_not]
def chk (lo hi : Int) : Int × Int × Int := bif V lo hi then (lo, hi, 0) else (0, 0, 3)
def cl (x y : Int) : Int := -((-x) / y)
def mn4 (x y z w : Int) : Int := min (min x y) (min z w)
def mx4 (x y z w : Int) : Int := max (max x y) (max z w)
def iadd (a b c d : Int) : Int × Int × Int := bif V a b && V c d then chk (a + c) (b + d) else (0, 0, 1)
def isub (a b c d : Int) : Int × Int × Int := bif V a b && V c d then chk (a - d) (b - c) else (0, 0, 1)
def imul (a b c d : Int) : Int × Int × Int := bif V a b && V c d then chk (mn4 (a * c) (a * d) (b * c) (b * d) / 16777216) (cl (mx4 (a * c) (a * d) (b * c) (b * d)) 16777216) else (0, 0, 1)
def pdiv (a b c d : Int) : Int × Int × Int := chk (min (a * 16777216 / c) (a * 16777216 / d)) (max (cl (b * 16777216) c) (cl (b * 16777216) d))
def idiv (a b c d : Int) : Int × Int × Int := bif V a b && V c d then (if c ≤ 0 ∧ 0 ≤ d then (0, 0, 10) else if d < 0 then pdiv (-b) (-a) (-d) (-c) else pdiv a b c d) else (0, 0, 1)
def isq (a b : Int) : Int × Int × Int := bif V a b then chk ((if a ≤ 0 ∧ 0 ≤ b then 0 else min (a * a) (b * b)) / 16777216) (cl (max (a * a) (b * b)) 16777216) else (0, 0, 1)
def cut (x : Int) : Int := max 0 (min 16777216 x)

/-! ### products -/
theorem mul_bnd {x y A B : Int} (hA : 0 ≤ A) (hB : 0 ≤ B) (h1 : -A ≤ x) (h2 : x ≤ A) (h3 : -B ≤ y) (h4 : y ≤ B) : -(A * B) ≤ x * y ∧ x * y ≤ A * B := by
  have key : (x * y).natAbs ≤ A.natAbs * B.natAbs := by
    rw [Int.natAbs_mul]
    exact Nat.mul_le_mul (by omega) (by omega)
  have h5 : ((A.natAbs * B.natAbs : Nat) : Int) = A * B := by
    rw [Int.natCast_mul, Int.natAbs_of_nonneg hA, Int.natAbs_of_nonneg hB]
  omega
theorem mul_bnd30 {x y : Int} (h1 : -1073741824 ≤ x) (h2 : x ≤ 1073741824) (h3 : -1073741824 ≤ y) (h4 : y ≤ 1073741824) : -1152921504606846976 ≤ x * y ∧ x * y ≤ 1152921504606846976 := by
  have := mul_bnd (A := 1073741824) (B := 1073741824) (by omega) (by omega) h1 h2 h3 h4
  omega
theorem lin {a c d y : Int} (h1 : c ≤ y) (h2 : y ≤ d) : min (a * c) (a * d) ≤ a * y ∧ a * y ≤ max (a * c) (a * d) := by
  by_cases ha : 0 ≤ a
  · have := Int.mul_le_mul_of_nonneg_left h1 ha
    have := Int.mul_le_mul_of_nonneg_left h2 ha
    omega
  · have := Int.mul_le_mul_of_nonpos_left (a := a) (by omega) h1
    have := Int.mul_le_mul_of_nonpos_left (a := a) (by omega) h2
    omega
theorem lin' {a c d y : Int} (h1 : c ≤ y) (h2 : y ≤ d) : min (c * a) (d * a) ≤ y * a ∧ y * a ≤ max (c * a) (d * a) := by
  rw [Int.mul_comm c, Int.mul_comm d, Int.mul_comm y]
  exact lin h1 h2
theorem mul_in {a b c d x y : Int} (h1 : a ≤ x) (h2 : x ≤ b) (h3 : c ≤ y) (h4 : y ≤ d) : mn4 (a * c) (a * d) (b * c) (b * d) ≤ x * y ∧ x * y ≤ mx4 (a * c) (a * d) (b * c) (b * d) := by
  have e1 := lin' (a := y) h1 h2
  have e2 := lin (a := a) h3 h4
  have e3 := lin (a := b) h3 h4
  simp only [mn4, mx4]
  omega
theorem sq_nonneg (x : Int) : 0 ≤ x * x := by
  by_cases h : 0 ≤ x
  · exact Int.mul_nonneg h h
  · have := Int.mul_nonneg_of_nonpos_of_nonpos (a := x) (b := x) (by omega) (by omega)
    exact this
theorem sq_mono {x y : Int} (h : -y ≤ x) (h' : x ≤ y) : x * x ≤ y * y := by
  have := mul_bnd (A := y) (B := y) (by omega) (by omega) h h' h h'
  omega

/-! ### quotients -/
theorem fl_mono {x y k : Int} (hk : 0 < k) (h : x ≤ y) : x / k ≤ y / k := Int.ediv_le_ediv hk h
theorem cl_mono {x y k : Int} (hk : 0 < k) (h : x ≤ y) : cl x k ≤ cl y k := by
  have := Int.ediv_le_ediv hk (Int.neg_le_neg h)
  simp only [cl]
  omega
theorem fl_spec {x k : Int} (hk : 0 < k) : x / k * k ≤ x ∧ x < x / k * k + k := by
  have h1 := Int.emod_add_mul_ediv x k
  have h2 := Int.emod_nonneg x (show k ≠ 0 by omega)
  have h3 := Int.emod_lt_of_pos x hk
  rw [Int.mul_comm] at h1
  omega
theorem cl_spec {x k : Int} (hk : 0 < k) : x ≤ cl x k * k ∧ cl x k * k < x + k := by
  have := fl_spec (x := -x) hk
  simp only [cl, Int.neg_mul]
  omega
theorem fl_le_cl {x k : Int} (hk : 0 < k) : x / k ≤ cl x k := by
  have h1 := fl_spec (x := x) hk
  have h2 := cl_spec (x := x) hk
  exact Int.le_of_mul_le_mul_right (a := k) (by omega) hk
theorem fl_le_cl' {x y k : Int} (hk : 0 < k) (h : x ≤ y) : x / k ≤ cl y k := Int.le_trans (fl_mono hk h) (fl_le_cl hk)
theorem le_fl {x k q : Int} (hk : 0 < k) : q ≤ x / k ↔ q * k ≤ x := Int.le_ediv_iff_mul_le hk
theorem cl_le {x k q : Int} (hk : 0 < k) : cl x k ≤ q ↔ x ≤ q * k := by
  have := le_fl (x := -x) (q := -q) hk
  simp only [cl, Int.neg_mul] at *
  omega
theorem cl_nonneg {x k : Int} (hk : 0 < k) (h : 0 ≤ x) : 0 ≤ cl x k := by
  have := cl_mono hk h
  simpa [cl] using this
theorem fl_nonneg {x k : Int} (hk : 0 < k) (h : 0 ≤ x) : 0 ≤ x / k := by
  have := fl_mono hk h
  simpa using this
/-- A quotient by a bound between bounds: between those by the bounds. -/
theorem fl_div_in {a c d y : Int} (hc : 0 < c) (h1 : c ≤ y) (h2 : y ≤ d) : min (a / c) (a / d) ≤ a / y := by
  have hy : 0 < y := by omega
  have hd : 0 < d := by omega
  by_cases ha : 0 ≤ a
  · have : a / d ≤ a / y := by
      rw [le_fl hy]
      have e := (fl_spec (x := a) hd).1
      have : a / d * y ≤ a / d * d := Int.mul_le_mul_of_nonneg_left h2 (fl_nonneg hd ha)
      omega
    omega
  · have hneg : a / c ≤ 0 := by
      have := fl_mono (x := a) (y := 0) hc (by omega)
      simpa using this
    have : a / c ≤ a / y := by
      rw [le_fl hy]
      have e := (fl_spec (x := a) hc).1
      have : a / c * y ≤ a / c * c := Int.mul_le_mul_of_nonpos_left hneg h1
      omega
    omega
theorem cl_div_in {a c d y : Int} (hc : 0 < c) (h1 : c ≤ y) (h2 : y ≤ d) : cl a y ≤ max (cl a c) (cl a d) := by
  have := fl_div_in (a := -a) hc h1 h2
  simp only [cl]
  omega

/-! ### results -/
theorem chk_of {lo hi : Int} (h1 : -1073741824 ≤ lo) (h2 : lo ≤ hi) (h3 : hi ≤ 1073741824) : chk lo hi = (lo, hi, 0) := by
  simp only [chk, V_iff.2 ⟨h1, h2, h3⟩, cond_true]
theorem chk_ok {lo hi a b : Int} (h : chk lo hi = (a, b, 0)) : lo = a ∧ hi = b ∧ -1073741824 ≤ a ∧ a ≤ b ∧ b ≤ 1073741824 := by
  unfold chk at h
  cases hv : V lo hi with
  | true =>
    have := V_iff.1 hv
    simp only [hv, cond_true, Prod.mk.injEq, and_true] at h
    omega
  | false => simp [hv] at h
theorem chk_eq (lo hi : Int) : chk lo hi = (lo, hi, 0) ∧ V lo hi = true ∨ chk lo hi = (0, 0, 3) ∧ V lo hi = false := by
  unfold chk
  cases V lo hi <;> simp
theorem chk_lim {lo hi lo' hi' : Int} (h : lo ≤ hi) (h1 : lo' ≤ lo) (h2 : hi ≤ hi') (h3 : (chk lo' hi').2.2 = 0) : chk lo hi = (lo, hi, 0) := by
  rcases chk_eq lo' hi' with ⟨_, e⟩ | ⟨e, _⟩
  · have := V_iff.1 e
    exact chk_of (by omega) h (by omega)
  · rw [e] at h3; simp at h3
theorem tdiv_bnd {a b : Int} (hb : 0 < b) (h1 : -4611686018427387904 ≤ a) (h2 : a ≤ 4611686018427387904) : -4611686018427387904 ≤ a / b ∧ a / b ≤ 4611686018427387904 := by
  constructor
  · rw [le_fl hb]
    have : (4611686018427387904 : Int) * 1 ≤ 4611686018427387904 * b := Int.mul_le_mul_of_nonneg_left (by omega) (by omega)
    omega
  · by_cases ha : 0 ≤ a
    · exact Int.le_trans (Int.ediv_le_self b ha) h2
    · have := fl_mono (x := a) (y := 0) hb (by omega)
      have : (0 : Int) / b = 0 := Int.zero_ediv b
      omega
theorem mnE (x y : Int) : (if y < x then y else x) = min x y := by split <;> omega
theorem mxE (x y : Int) : (if y > x then y else x) = max x y := by split <;> omega
theorem chk_congr {a b a' b' : Int} (h : a = a') (h' : b = b') : chk a b = chk a' b' := by rw [h, h']
def kp (s : Int) (e : Int) : Int := bif s == 0 then e else s
theorem kp0 (e : Int) : kp 0 e = e := rfl
theorem kpn {s : Int} (e : Int) (h : s ≠ 0) : kp s e = s := by simp [kp, beq_of h]
end Go.Proofs.YtgfjidlckocflaaDoor.G
