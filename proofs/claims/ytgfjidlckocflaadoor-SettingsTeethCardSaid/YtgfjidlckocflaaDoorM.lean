/- Small arithmetic for the functions' texts. -/
import Derived.Test.YtgfjidlckocflaaDoorRX9
namespace Go.Proofs.YtgfjidlckocflaaDoor.G
open Go
theorem w64 {n : Int} (h : -9223372036854775808 ≤ n) (h' : n ≤ 9223372036854775807) : IntKind.i64.wrap n = n := by
  simp only [IntKind.wrap, IntKind.signed, IntKind.bits]
  simp only [Bool.true_and]
  split
  · rename_i hc
    have := of_decide_eq_true hc
    omega
  · rename_i hc
    have : ¬ (n % 2 ^ 64 ≥ 2 ^ (64 - 1)) := fun h => hc (decide_eq_true h)
    omega
theorem cond_true' {α : Type} {b : Bool} {x y : α} (h : b = true) : (bif b then x else y) = x := by rw [h]; rfl
theorem cond_false' {α : Type} {b : Bool} {x y : α} (h : b = false) : (bif b then x else y) = y := by rw [h]; rfl
theorem bne_of {a b : Int} (h : a ≠ b) : (a != b) = true := by simp [h]
theorem beq_of {a b : Int} (h : a ≠ b) : (a == b) = false := by simp [h]
theorem isSome_cond {α : Type} (b : Bool) (x y : Option α) : (bif b then x else y).isSome = bif b then x.isSome else y.isSome := by cases b <;> rfl
theorem bool_cond_true (b : Bool) : (bif b then true else true) = true := by cases b <;> rfl
end Go.Proofs.YtgfjidlckocflaaDoor.G
