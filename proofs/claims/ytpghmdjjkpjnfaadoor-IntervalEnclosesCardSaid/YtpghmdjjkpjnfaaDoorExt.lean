/- The contract of the variadic interval.extremes, at two and four numbers. -/
import Derived.Test.YtpghmdjjkpjnfaaDoorProg
import Derived.Test.YtpghmdjjkpjnfaaDoorS
namespace Go.Proofs.YtpghmdjjkpjnfaaDoor.G
open Go Go.Proofs RX
set_option linter.unusedVariables false
def mn (x y : Int) : Int := if y < x then y else x
def mx (x y : Int) : Int := if y > x then y else x
theorem mn_eq (x y : Int) : mn x y = min x y := by unfold mn; split <;> omega
theorem mx_eq (x y : Int) : mx x y = max x y := by unfold mx; split <;> omega
def interval_extremes.sp : HSpec
  | [.slice (some ⟨0, 0, none⟩) 2 2], [.cs [.int .i64 a, .int .i64 b] 3] => some (true, .tuple ⟨[.int .i64 (mn (mn a a) b), .int .i64 (mx (mx a a) b)]⟩, [.cs [.int .i64 a, .int .i64 b] 3])
  | [.slice (some ⟨0, 0, none⟩) 4 4], [.cs [.int .i64 a, .int .i64 b, .int .i64 c, .int .i64 d] 3] => some (true, .tuple ⟨[.int .i64 (mn (mn (mn (mn a a) b) c) d), .int .i64 (mx (mx (mx (mx a a) b) c) d)]⟩, [.cs [.int .i64 a, .int .i64 b, .int .i64 c, .int .i64 d] 3])
  | _, _ => none
theorem extremes2 (a b : Int) : xfn Tryd.prog ⟨[], []⟩ [] 10 Tryd.f40 [.slice (some ⟨0, 0, none⟩) 2 2] [.cs [.int .i64 a, .int .i64 b] 3] = some (.tuple ⟨[.int .i64 (mn (mn a a) b), .int .i64 (mx (mx a a) b)]⟩, [.cs [.int .i64 a, .int .i64 b] 3]) := by kernel_rfl
theorem extremes4 (a b c d : Int) : xfn Tryd.prog ⟨[], []⟩ [] 10 Tryd.f40 [.slice (some ⟨0, 0, none⟩) 4 4] [.cs [.int .i64 a, .int .i64 b, .int .i64 c, .int .i64 d] 3] = some (.tuple ⟨[.int .i64 (mn (mn (mn (mn a a) b) c) d), .int .i64 (mx (mx (mx (mx a a) b) c) d)]⟩, [.cs [.int .i64 a, .int .i64 b, .int .i64 c, .int .i64 d] 3]) := by kernel_rfl
theorem interval_extremes.ok : SOK Tryd.prog 40 interval_extremes.sp := by
  refine sok_of (E := ⟨[], []⟩) ⟨specs_nil, inl_nil, mixed_ok⟩ 10 Tryd.func40 (by decide) rfl no_loops fun vs bl v bl' h => ?_
  unfold interval_extremes.sp at h
  split at h
  · simp only [Option.some.injEq, Prod.mk.injEq, true_and] at h
    obtain ⟨rfl, rfl⟩ := h
    exact ⟨extremes2 _ _, by simp [okV, Nat.blt], clo_spec 8 _ rfl, told_blk rfl⟩
  · simp only [Option.some.injEq, Prod.mk.injEq, true_and] at h
    obtain ⟨rfl, rfl⟩ := h
    exact ⟨extremes4 _ _ _ _, by simp [okV, Nat.blt], clo_spec 8 _ rfl, told_blk rfl⟩
  · cases h
end Go.Proofs.YtpghmdjjkpjnfaaDoor.G
