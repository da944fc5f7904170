/- The contract of the variadic culetlaw27.near, at two, three and four numbers. WRITTEN BY mknear.py of this repo. -/
import Derived.Test.YtpghmdjjkpjnfaaDoorProg
import Derived.Test.YtpghmdjjkpjnfaaDoorS
namespace Go.Proofs.YtpghmdjjkpjnfaaDoor.G
open Go Go.Proofs RX
set_option linter.unusedVariables false
/-- Is a number of the list less than n away from u n, above it (or below it)? -/
def nearD (up : Bool) (u n x : Int) : Int := bif up then IntKind.i64.wrap (0 - IntKind.i64.wrap (x - IntKind.i64.wrap (u * n))) else IntKind.i64.wrap (x - IntKind.i64.wrap (u * n))
def nearB (up : Bool) (u n : Int) : List Int → Bool
  | [] => false
  | x :: r => bif decide (nearD up u n x ≥ 0) then (bif decide (nearD up u n x < n) then true else nearB up u n r) else nearB up u n r
def nearK {R : Type} (up : Bool) (u n : Int) (k : Bool → R) : List Int → R
  | [] => k false
  | x :: r => bif decide (nearD up u n x ≥ 0) then (bif decide (nearD up u n x < n) then k true else nearK up u n k r) else nearK up u n k r
theorem nearK_eq {R : Type} (up : Bool) (u n : Int) (k : Bool → R) : ∀ l, nearK up u n k l = k (nearB up u n l)
  | [] => rfl
  | x :: r => by
    simp only [nearK, nearB, nearK_eq up u n k r]
    cases decide (nearD up u n x ≥ 0) <;> cases decide (nearD up u n x < n) <;> rfl

theorem near_true2 (u n x0 x1 : Int) : xfn Tryd.prog ⟨[], []⟩ [] 20 Tryd.f25 [.int .i64 u, .int .i64 n, .bool true, .slice (some ⟨0, 0, none⟩) 2 2] [.cs [.int .i64 x0, .int .i64 x1] 3] = nearK true u n (fun b => some (.bool b, [.cs [.int .i64 x0, .int .i64 x1] 3])) [x0, x1] := by kernel_rfl
theorem near_false3 (u n x0 x1 x2 : Int) : xfn Tryd.prog ⟨[], []⟩ [] 20 Tryd.f25 [.int .i64 u, .int .i64 n, .bool false, .slice (some ⟨0, 0, none⟩) 3 3] [.cs [.int .i64 x0, .int .i64 x1, .int .i64 x2] 3] = nearK false u n (fun b => some (.bool b, [.cs [.int .i64 x0, .int .i64 x1, .int .i64 x2] 3])) [x0, x1, x2] := by kernel_rfl
theorem near_false4 (u n x0 x1 x2 x3 : Int) : xfn Tryd.prog ⟨[], []⟩ [] 20 Tryd.f25 [.int .i64 u, .int .i64 n, .bool false, .slice (some ⟨0, 0, none⟩) 4 4] [.cs [.int .i64 x0, .int .i64 x1, .int .i64 x2, .int .i64 x3] 3] = nearK false u n (fun b => some (.bool b, [.cs [.int .i64 x0, .int .i64 x1, .int .i64 x2, .int .i64 x3] 3])) [x0, x1, x2, x3] := by kernel_rfl
theorem near_true4 (u n x0 x1 x2 x3 : Int) : xfn Tryd.prog ⟨[], []⟩ [] 20 Tryd.f25 [.int .i64 u, .int .i64 n, .bool true, .slice (some ⟨0, 0, none⟩) 4 4] [.cs [.int .i64 x0, .int .i64 x1, .int .i64 x2, .int .i64 x3] 3] = nearK true u n (fun b => some (.bool b, [.cs [.int .i64 x0, .int .i64 x1, .int .i64 x2, .int .i64 x3] 3])) [x0, x1, x2, x3] := by kernel_rfl
def culetlaw27_near.sp : HSpec
  | [.int .i64 u, .int .i64 n, .bool true, .slice (some ⟨0, 0, none⟩) 2 2], [.cs [.int .i64 x0, .int .i64 x1] 3] => some (true, .bool (nearB true u n [x0, x1]), [.cs [.int .i64 x0, .int .i64 x1] 3])
  | [.int .i64 u, .int .i64 n, .bool false, .slice (some ⟨0, 0, none⟩) 3 3], [.cs [.int .i64 x0, .int .i64 x1, .int .i64 x2] 3] => some (true, .bool (nearB false u n [x0, x1, x2]), [.cs [.int .i64 x0, .int .i64 x1, .int .i64 x2] 3])
  | [.int .i64 u, .int .i64 n, .bool false, .slice (some ⟨0, 0, none⟩) 4 4], [.cs [.int .i64 x0, .int .i64 x1, .int .i64 x2, .int .i64 x3] 3] => some (true, .bool (nearB false u n [x0, x1, x2, x3]), [.cs [.int .i64 x0, .int .i64 x1, .int .i64 x2, .int .i64 x3] 3])
  | [.int .i64 u, .int .i64 n, .bool true, .slice (some ⟨0, 0, none⟩) 4 4], [.cs [.int .i64 x0, .int .i64 x1, .int .i64 x2, .int .i64 x3] 3] => some (true, .bool (nearB true u n [x0, x1, x2, x3]), [.cs [.int .i64 x0, .int .i64 x1, .int .i64 x2, .int .i64 x3] 3])
  | _, _ => none
theorem culetlaw27_near.ok : SOK Tryd.prog 25 culetlaw27_near.sp := by
  refine sok_of (E := ⟨[], []⟩) (L := []) ⟨specs_nil, inl_nil, mixed_ok⟩ 20 Tryd.func25 (by decide) rfl no_loops fun vs bl v bl' h => ?_
  unfold culetlaw27_near.sp at h
  split at h
  · simp only [Option.some.injEq, Prod.mk.injEq, true_and] at h
    obtain ⟨rfl, rfl⟩ := h
    exact ⟨(near_true2 _ _ _ _).trans (nearK_eq _ _ _ _ _), by simp [okV, Nat.blt], clo_spec 8 _ rfl, told_blk rfl⟩
  · simp only [Option.some.injEq, Prod.mk.injEq, true_and] at h
    obtain ⟨rfl, rfl⟩ := h
    exact ⟨(near_false3 _ _ _ _ _).trans (nearK_eq _ _ _ _ _), by simp [okV, Nat.blt], clo_spec 8 _ rfl, told_blk rfl⟩
  · simp only [Option.some.injEq, Prod.mk.injEq, true_and] at h
    obtain ⟨rfl, rfl⟩ := h
    exact ⟨(near_false4 _ _ _ _ _ _).trans (nearK_eq _ _ _ _ _), by simp [okV, Nat.blt], clo_spec 8 _ rfl, told_blk rfl⟩
  · simp only [Option.some.injEq, Prod.mk.injEq, true_and] at h
    obtain ⟨rfl, rfl⟩ := h
    exact ⟨(near_true4 _ _ _ _ _ _).trans (nearK_eq _ _ _ _ _), by simp [okV, Nat.blt], clo_spec 8 _ rfl, told_blk rfl⟩
  · cases h
end Go.Proofs.YtpghmdjjkpjnfaaDoor.G
