/- Settings: the plain functions of chapter 48 and their laws. -/
import Derived.Test.YtgfjidlckocflaaDoorGc
namespace Go.Proofs.YtgfjidlckocflaaDoor.G
open Go
set_option linter.unusedVariables false
def val (h v i : Int) : Bool := decide (0 ≤ h ∧ h ≤ 1000 ∧ -1000 ≤ v ∧ v ≤ 1000 ∧ Nat.gcd h.natAbs v.natAbs = 1 ∧ 0 ≤ i ∧ i < 24 ∧ (h ≠ 0 ∨ i = 0))
theorem val_iff {h v i : Int} : val h v i = true ↔ 0 ≤ h ∧ h ≤ 1000 ∧ -1000 ≤ v ∧ v ≤ 1000 ∧ Nat.gcd h.natAbs v.natAbs = 1 ∧ 0 ≤ i ∧ i < 24 ∧ (h ≠ 0 ∨ i = 0) := by simp only [val, decide_eq_true_eq]
def ab (v : Int) : Int := (v.natAbs : Int)
def stp (h v i h' v' i' : Int) : Bool := val h v i && (val h' v' i' && decide (h * ab v' > h' * ab v))
def sld (h v i : Int) : Int × Bool × Int := bif val h v i then (if v = 0 then (0, false, 15) else (1000 * h / ab v, decide (1000 * h % ab v = 0), 0)) else (0, false, 1)
def gg (h v : Int) : Int := (Nat.gcd h.natAbs v.natAbs : Int)
def red (h v i : Int) : Int × Int × Int × Int :=
  if h < 0 ∨ h = 0 ∧ v = 0 then (0, 0, 0, 1) else if h / gg h v > 1000 ∨ ab v / gg h v > 1000 then (0, 0, 0, 15)
  else (h / gg h v, if v < 0 then -(ab v / gg h v) else ab v / gg h v, if h = 0 then 0 else i % 24, 0)
theorem gg_pos {h v : Int} (hn : ¬ (h = 0 ∧ v = 0)) : 0 < gg h v := by
  unfold gg
  have : 0 < Nat.gcd h.natAbs v.natAbs := Nat.gcd_pos_iff.2 (by omega)
  omega
theorem gg_dvd (h v : Int) : (gg h v ∣ h) ∧ gg h v ∣ ab v := by
  unfold gg ab
  exact ⟨Int.ofNat_dvd_left.2 (Nat.gcd_dvd_left _ _), Int.natCast_dvd_natCast.2 (Nat.gcd_dvd_right _ _)⟩
theorem nn {x : Int} (h : 0 ≤ x) : (x.natAbs : Int) = x := by omega
theorem red_gcd {h v : Int} (h0 : 0 ≤ h) (hn : ¬ (h = 0 ∧ v = 0)) {w : Int} (hw : w.natAbs = (ab v / gg h v).natAbs) : Nat.gcd (h / gg h v).natAbs w.natAbs = 1 := by
  rw [hw]
  have e1 : (h / gg h v).natAbs = h.natAbs / Nat.gcd h.natAbs v.natAbs := by
    unfold gg
    have : h = (h.natAbs : Int) := by omega
    rw [this, ← Int.natCast_ediv, Int.natAbs_natCast, Int.natAbs_natCast]
  have e2 : (ab v / gg h v).natAbs = v.natAbs / Nat.gcd h.natAbs v.natAbs := by
    unfold gg ab
    rw [← Int.natCast_ediv, Int.natAbs_natCast]
  have hp : 0 < Nat.gcd h.natAbs v.natAbs := Nat.gcd_pos_iff.2 (by omega)
  rw [e1, e2, Nat.gcd_div (Nat.gcd_dvd_left _ _) (Nat.gcd_dvd_right _ _), Nat.div_self hp]
theorem div_nonneg' {x g : Int} (hx : 0 ≤ x) (hg : 0 < g) : 0 ≤ x / g := Int.ediv_nonneg hx (by omega)
theorem ab_nonneg (v : Int) : 0 ≤ ab v := by unfold ab; omega
theorem red_ok {h v i a b c : Int} (hr : red h v i = (a, b, c, 0)) : 0 ≤ h ∧ ¬ (h = 0 ∧ v = 0) ∧ a = h / gg h v ∧ b = (if v < 0 then -(ab v / gg h v) else ab v / gg h v) ∧ a ≤ 1000 ∧ ab v / gg h v ≤ 1000 ∧ c = (if h = 0 then 0 else i % 24) := by
  unfold red at hr
  split at hr
  · simp at hr
  · split at hr
    · simp at hr
    · simp only [Prod.mk.injEq, and_true] at hr
      obtain ⟨rfl, rfl, rfl⟩ := hr
      exact ⟨by omega, by omega, rfl, rfl, by omega, by omega, rfl⟩
theorem red_err (h v i : Int) : (red h v i).2.2.2 = 0 ∨ red h v i = (0, 0, 0, 1) ∧ (h < 0 ∨ h = 0 ∧ v = 0) ∨ red h v i = (0, 0, 0, 15) := by
  unfold red
  split
  · right; left; exact ⟨rfl, by assumption⟩
  · split
    · right; right; rfl
    · left; rfl
theorem red_val {h v i a b c : Int} (hr : red h v i = (a, b, c, 0)) : val a b c = true ∧ a * v = b * h ∧ (0 < v → 0 < b) ∧ (v < 0 → b < 0) ∧ ab b = ab v / gg h v := by
  obtain ⟨h0, hn, rfl, rfl, h1, h2, rfl⟩ := red_ok hr
  have hg := gg_pos hn
  obtain ⟨d1, d2⟩ := gg_dvd h v
  have a1 := div_nonneg' h0 hg
  have a2 := div_nonneg' (ab_nonneg v) hg
  have m1 : h / gg h v * gg h v = h := Int.ediv_mul_cancel d1
  have m2 : ab v / gg h v * gg h v = ab v := Int.ediv_mul_cancel d2
  have hv : v ≠ 0 → 0 < ab v / gg h v := fun hv => by
    have h3 : ab v / gg h v ≠ 0 := fun e => by rw [e] at m2; unfold ab at m2; omega
    omega
  have hq : h ≠ 0 → h / gg h v ≠ 0 := fun hh e => by rw [e] at m1; omega
  have key : ∀ w : Int, w = (if v < 0 then -(ab v / gg h v) else ab v / gg h v) → w.natAbs = (ab v / gg h v).natAbs := fun w e => by rw [e]; split <;> omega
  refine ⟨?_, ?_, ?_, ?_, ?_⟩
  · rw [val_iff]
    refine ⟨a1, by omega, by split <;> omega, by split <;> omega, red_gcd h0 hn (key _ rfl), ?_, ?_, ?_⟩
    · split; omega; exact Int.emod_nonneg _ (by omega)
    · split; omega; exact Int.emod_lt_of_pos _ (by omega)
    · by_cases hh : h = 0
      · right; rw [if_pos hh]
      · left; exact hq hh
  · by_cases hv' : v < 0
    · rw [if_pos hv']
      have e : v = -(ab v / gg h v * gg h v) := by rw [m2]; unfold ab; omega
      calc h / gg h v * v = h / gg h v * -(ab v / gg h v * gg h v) := by rw [← e]
        _ = -(ab v / gg h v) * (h / gg h v * gg h v) := by
          rw [Int.mul_neg, Int.neg_mul, ← Int.mul_assoc, ← Int.mul_assoc, Int.mul_comm (h / gg h v) (ab v / gg h v)]
        _ = -(ab v / gg h v) * h := by rw [m1]
    · rw [if_neg hv']
      have e : v = ab v / gg h v * gg h v := by rw [m2]; unfold ab; omega
      calc h / gg h v * v = h / gg h v * (ab v / gg h v * gg h v) := by rw [← e]
        _ = ab v / gg h v * (h / gg h v * gg h v) := by rw [← Int.mul_assoc, ← Int.mul_assoc, Int.mul_comm (h / gg h v) (ab v / gg h v)]
        _ = ab v / gg h v * h := by rw [m1]
  · intro hp; have := hv (by omega); rw [if_neg (by omega)]; omega
  · intro hp; have := hv (by omega); rw [if_pos hp]; omega
  · have := key _ rfl
    unfold ab at *
    omega
theorem gg_mul {h v n : Int} (hn : 0 < n) : gg (h * n) (v * n) = gg h v * n := by
  unfold gg
  rw [Int.natAbs_mul, Int.natAbs_mul, Nat.mul_comm, Nat.mul_comm v.natAbs, Nat.gcd_mul_left, Int.natCast_mul, Int.mul_comm]
  congr 1
  omega
theorem red_mul {h v i n : Int} (hn : 0 < n) (h0 : 0 ≤ h) : red (h * n) (v * n) i = red h v i := by
  have e1 : h * n < 0 ↔ h < 0 := ⟨fun e => by by_cases hh : h < 0; exact hh; have := Int.mul_nonneg (a := h) (b := n) (by omega) (by omega); omega, fun e => by omega⟩
  have e2 : ∀ x : Int, x * n = 0 ↔ x = 0 := fun x => by rw [Int.mul_eq_zero]; omega
  have e3 : ∀ x : Int, x * n < 0 ↔ x < 0 := fun x => ⟨fun e => by
    by_cases hh : x < 0
    · exact hh
    · have := Int.mul_nonneg (a := x) (b := n) (by omega) (by omega); omega, fun e => Int.mul_neg_of_neg_of_pos e hn⟩
  have e4 : ab (v * n) = ab v * n := by unfold ab; rw [Int.natAbs_mul, Int.natCast_mul]; congr 1; omega
  have e5 : ∀ x : Int, x * n / (gg h v * n) = x / gg h v := fun x => Int.mul_ediv_mul_of_pos_left _ _ hn
  unfold red
  simp only [gg_mul hn, e2, e3, e4, e5]
theorem sld_of {h v i : Int} (hv : val h v i = true) (h0 : v ≠ 0) : sld h v i = (1000 * h / ab v, decide (1000 * h % ab v = 0), 0) := by
  unfold sld; rw [hv, cond_true, if_neg h0]
theorem sld_ok {h v i : Int} (he : (sld h v i).2.2 = 0) : val h v i = true ∧ v ≠ 0 := by
  unfold sld at he
  cases hv : val h v i with
  | false => simp [hv] at he
  | true =>
    by_cases h0 : v = 0
    · exfalso; rw [hv, cond_true, if_pos h0] at he; exact absurd he (by decide)
    · exact ⟨rfl, h0⟩
/-- The setting of a slide has this slide. -/
theorem slide_law {n w i a b c : Int} (hn : 0 ≤ n) (hw : w = 1000 ∨ w = -1000) (hr : red n w i = (a, b, c, 0)) : sld a b c = (n, true, 0) ∧ (0 < b ↔ w = 1000) := by
  obtain ⟨h1, h2, h3, h4, h5⟩ := red_val hr
  obtain ⟨_, hz, rfl, hb, _, _, _⟩ := red_ok hr
  have hg := gg_pos hz
  obtain ⟨d1, d2⟩ := gg_dvd n w
  have m1 : n / gg n w * gg n w = n := Int.ediv_mul_cancel d1
  have m2 : ab w / gg n w * gg n w = ab w := Int.ediv_mul_cancel d2
  have hab : ab w = 1000 := by unfold ab; omega
  have hb0 : b ≠ 0 := by
    rcases hw with e | e
    · subst e; have := h3 (by omega); omega
    · subst e; have := h4 (by omega); omega
  rw [sld_of h1 hb0, h5, hab]
  rw [hab] at m2
  have hq : 0 < 1000 / gg n w := by
    have := div_nonneg' (x := 1000) (by omega) hg
    have : 1000 / gg n w ≠ 0 := fun e => by rw [e] at m2; omega
    omega
  have e : 1000 * (n / gg n w) = n * (1000 / gg n w) := by
    calc 1000 * (n / gg n w) = 1000 / gg n w * gg n w * (n / gg n w) := by rw [m2]
      _ = n / gg n w * gg n w * (1000 / gg n w) := by rw [Int.mul_comm, ← Int.mul_assoc, Int.mul_comm (n / gg n w) (1000 / gg n w), Int.mul_assoc, Int.mul_comm (1000 / gg n w)]
      _ = n * (1000 / gg n w) := by rw [m1]
  rw [e, Int.mul_ediv_cancel _ (by omega), Int.mul_emod_left]
  refine ⟨by simp, ?_⟩
  rcases hw with e | e <;> subst e
  · exact ⟨fun _ => rfl, fun _ => h3 (by omega)⟩
  · exact ⟨fun hp => by have := h4 (by omega); omega, fun e => by omega⟩
theorem stp_iff {h v i h' v' i' : Int} : stp h v i h' v' i' = true ↔ val h v i = true ∧ val h' v' i' = true ∧ h' * ab v < h * ab v' := by simp only [stp, Bool.and_eq_true, decide_eq_true_eq, gt_iff_lt]
theorem stp_asym {h v i h' v' i' : Int} (s : stp h v i h' v' i' = true) : stp h' v' i' h v i = false := by
  rw [stp_iff] at s
  cases hb : stp h' v' i' h v i with
  | false => rfl
  | true => rw [stp_iff] at hb; omega
theorem pos_of_lt {h a h' b : Int} (h0 : 0 ≤ h) (h0' : 0 ≤ h') (a0 : 0 ≤ a) (b0 : 0 ≤ b) (hl : h' * a < h * b) : 0 < h ∧ 0 < b := by
  have := Int.mul_nonneg h0' a0
  constructor
  · by_cases e : h = 0
    · subst e; rw [Int.zero_mul] at hl; omega
    · omega
  · by_cases e : b = 0
    · subst e; rw [Int.mul_zero] at hl; omega
    · omega
theorem stp_trans {h v i h' v' i' h'' v'' i'' : Int} (s : stp h v i h' v' i' = true) (t : stp h' v' i' h'' v'' i'' = true) : stp h v i h'' v'' i'' = true := by
  rw [stp_iff] at *
  have v1 := val_iff.1 s.1
  have v2 := val_iff.1 s.2.1
  have v3 := val_iff.1 t.2.1
  refine ⟨s.1, t.2.1, ?_⟩
  have n1 := ab_nonneg v
  have n2 := ab_nonneg v'
  have n3 := ab_nonneg v''
  obtain ⟨p1, p2⟩ := pos_of_lt v1.1 v2.1 n1 n2 s.2.2
  obtain ⟨p3, p4⟩ := pos_of_lt v2.1 v3.1 n2 n3 t.2.2
  have k1 : h' * ab v * ab v'' < h * ab v' * ab v'' := Int.mul_lt_mul_of_pos_right s.2.2 p4
  have k2 : ab v * (h'' * ab v') ≤ ab v * (h' * ab v'') := Int.mul_le_mul_of_nonneg_left (by omega) n1
  have e1 : h' * ab v * ab v'' = ab v * (h' * ab v'') := by rw [Int.mul_comm h', Int.mul_assoc]
  have e2 : ab v * (h'' * ab v') = h'' * ab v * ab v' := by rw [← Int.mul_assoc, Int.mul_comm (ab v)]
  have e3 : h * ab v' * ab v'' = h * ab v'' * ab v' := by rw [Int.mul_assoc, Int.mul_comm (ab v'), ← Int.mul_assoc]
  exact Int.lt_of_mul_lt_mul_right (a := ab v') (by omega) (by omega)
theorem stp_slide {h v i h' v' i' : Int} (s : stp h v i h' v' i' = true) (hv : v ≠ 0) : v' ≠ 0 ∧ 1000 * h' / ab v' ≤ 1000 * h / ab v := by
  rw [stp_iff] at s
  have v1 := val_iff.1 s.1
  have v2 := val_iff.1 s.2.1
  have n1 := ab_nonneg v
  have n2 := ab_nonneg v'
  obtain ⟨p1, p2⟩ := pos_of_lt v1.1 v2.1 n1 n2 s.2.2
  have p3 : 0 < ab v := by unfold ab at *; omega
  refine ⟨fun e => by subst e; unfold ab at p2; omega, ?_⟩
  rw [Int.le_ediv_iff_mul_le p3]
  have hd : 1000 * h' / ab v' * ab v' ≤ 1000 * h' := Int.ediv_mul_le _ (by omega)
  have k1 : 1000 * h' / ab v' * ab v' * ab v ≤ 1000 * h' * ab v := Int.mul_le_mul_of_nonneg_right hd n1
  have e1 : 1000 * h' / ab v' * ab v' * ab v = 1000 * h' / ab v' * ab v * ab v' := by rw [Int.mul_assoc, Int.mul_comm (ab v'), ← Int.mul_assoc]
  have e2 : 1000 * h' * ab v = 1000 * (h' * ab v) := Int.mul_assoc _ _ _
  have e3 : 1000 * h * ab v' = 1000 * (h * ab v') := Int.mul_assoc _ _ _
  exact Int.le_of_mul_le_mul_right (a := ab v') (by omega) p2
end Go.Proofs.YtgfjidlckocflaaDoor.G
