/- Euclid's algorithm: the rounds, and what they come to. -/
import Derived.Test.YtgfjidlckocflaaDoorM
namespace Go.Proofs.YtgfjidlckocflaaDoor.G
open Go
set_option linter.unusedVariables false
def gc : Nat → Int → Int → Int
  | 0, a, b => a
  | k + 1, a, b => if b = 0 then a else gc k b (a.tmod b)
def gfin (K : IntKind) : Nat → Int → Int → Value → Value → Value → Value → List Value
  | 0, a, b, x, y, z, t => [x, y, z, t]
  | k + 1, a, b, x, y, z, t => if b = 0 then [x, y, z, t] else gfin K k b (a.tmod b) (.int K b) (.int K a) (.int K b) (.int K (a.tmod b))
/- The same as long as the second number is positive. -/
def gcp : Nat → Int → Int → Int
  | 0, a, b => a
  | k + 1, a, b => if b > 0 then gcp k b (a.tmod b) else a
def gcq : Nat → Int → Int → Int
  | 0, a, b => b
  | k + 1, a, b => if b > 0 then gcq k b (a.tmod b) else b
def gpfin (K : IntKind) : Nat → Int → Int → Value → Value → Value → Value → List Value
  | 0, a, b, x, y, z, t => [x, y, z, t]
  | k + 1, a, b, x, y, z, t => if b > 0 then gpfin K k b (a.tmod b) (.int K b) (.int K a) (.int K b) (.int K (a.tmod b)) else [x, y, z, t]
/-- Euclid's algorithm; the greatest common divisor, but for the sign. -/
def gcd (a b : Int) : Int := gc b.natAbs a b
def gcdp (a b : Int) : Int := gcp b.natAbs a b
theorem tmod_lt {a b : Int} {n : Nat} (h : b.natAbs ≤ n + 1) (hb : b ≠ 0) : (a.tmod b).natAbs ≤ n := by
  have := Int.natAbs_tmod a b
  rw [this]
  have := Nat.mod_lt a.natAbs (show 0 < b.natAbs by omega)
  omega
theorem gc_zero (n : Nat) (a : Int) : gc n a 0 = a := by cases n <;> simp [gc]
theorem gfin_zero (K : IntKind) (n : Nat) (a : Int) (x y z t : Value) : gfin K n a 0 x y z t = [x, y, z, t] := by cases n <;> simp [gfin]

theorem gc_abs : ∀ (n : Nat) (a b : Int), b.natAbs ≤ n → (gc n a b).natAbs = Nat.gcd a.natAbs b.natAbs
  | 0, a, b, h => by
    have : b = 0 := by omega
    subst this
    simp [gc]
  | n + 1, a, b, h => by
    by_cases hb : b = 0
    · subst hb; simp [gc]
    · have := gc_abs n b (a.tmod b) (tmod_lt h hb)
      simp only [gc, hb, if_false]
      rw [this, Int.natAbs_tmod, Nat.gcd_comm, ← Nat.gcd_rec, Nat.gcd_comm]
theorem gc_nonneg : ∀ (n : Nat) (a b : Int), 0 ≤ a → 0 ≤ b → 0 ≤ gc n a b
  | 0, a, b, ha, _ => ha
  | n + 1, a, b, ha, hb => by
    simp only [gc]
    split
    · exact ha
    · exact gc_nonneg n b _ hb (Int.tmod_nonneg _ ha)
theorem gcp_eq : ∀ (n : Nat) (a b : Int), 0 ≤ a → 0 ≤ b → gcp n a b = gc n a b
  | 0, a, b, _, _ => rfl
  | n + 1, a, b, ha, hb => by
    simp only [gc, gcp]
    by_cases h : b = 0
    · subst h; simp
    · rw [if_pos (by omega), if_neg h]
      exact gcp_eq n b _ hb (Int.tmod_nonneg _ ha)
theorem gcd_eq {a b : Int} (ha : 0 ≤ a) (hb : 0 ≤ b) : gcd a b = (Nat.gcd a.natAbs b.natAbs : Int) := by
  have h1 := gc_abs b.natAbs a b (Nat.le_refl _)
  have h2 := gc_nonneg b.natAbs a b ha hb
  unfold gcd
  omega
theorem gcdp_eq {a b : Int} (ha : 0 ≤ a) (hb : 0 ≤ b) : gcdp a b = (Nat.gcd a.natAbs b.natAbs : Int) := by
  have := gcd_eq ha hb
  unfold gcd at this
  unfold gcdp
  rw [gcp_eq _ _ _ ha hb, this]
end Go.Proofs.YtgfjidlckocflaaDoor.G
