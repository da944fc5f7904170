/- Runs that are reckoned out whole. WRITTEN BY gen.py of this repo. -/
import Derived.Test.YtgfjidlckocflaaDoorS
namespace Go.Proofs.YtgfjidlckocflaaDoor.G
open Go Go.Proofs Go.RowKit RX
set_option linter.unusedVariables false
set_option linter.unusedSimpArgs false
def culetlaw48_awake.sp : HSpec
  | [], [] => some (true, .bool true, [])
  | _, _ => none
set_option maxRecDepth 100000 in
theorem culetlaw48_awake.run : xfn Tryd.prog ⟨[], [(11, Tryd.f11), (11, Tryd.f11), (34, Tryd.f34), (35, Tryd.f35), (13, Tryd.f13), (15, Tryd.f15), (20, Tryd.f20), (40, Tryd.f40), (48, Tryd.f48), (32, Tryd.f32), (18, Tryd.f18), (38, Tryd.f38), (46, Tryd.f46), (50, Tryd.f50), (53, Tryd.f53), (55, Tryd.f55), (56, Tryd.f56), (60, Tryd.f60), (61, Tryd.f61), (62, Tryd.f62), (57, Tryd.f57)]⟩ [] 60 Tryd.f10 [] [] = some (.bool true, []) := by kernel_rfl
theorem culetlaw48_awake.ok : SOK Tryd.prog 10 culetlaw48_awake.sp := by
  refine sok_of (E := ⟨[], [(11, Tryd.f11), (11, Tryd.f11), (34, Tryd.f34), (35, Tryd.f35), (13, Tryd.f13), (15, Tryd.f15), (20, Tryd.f20), (40, Tryd.f40), (48, Tryd.f48), (32, Tryd.f32), (18, Tryd.f18), (38, Tryd.f38), (46, Tryd.f46), (50, Tryd.f50), (53, Tryd.f53), (55, Tryd.f55), (56, Tryd.f56), (60, Tryd.f60), (61, Tryd.f61), (62, Tryd.f62), (57, Tryd.f57)]⟩) ⟨specs_nil, (inl_cons ⟨Tryd.func11, by decide, rfl⟩ (inl_cons ⟨Tryd.func11, by decide, rfl⟩ (inl_cons ⟨Tryd.func34, by decide, rfl⟩ (inl_cons ⟨Tryd.func35, by decide, rfl⟩ (inl_cons ⟨Tryd.func13, by decide, rfl⟩ (inl_cons ⟨Tryd.func15, by decide, rfl⟩ (inl_cons ⟨Tryd.func20, by decide, rfl⟩ (inl_cons ⟨Tryd.func40, by decide, rfl⟩ (inl_cons ⟨Tryd.func48, by decide, rfl⟩ (inl_cons ⟨Tryd.func32, by decide, rfl⟩ (inl_cons ⟨Tryd.func18, by decide, rfl⟩ (inl_cons ⟨Tryd.func38, by decide, rfl⟩ (inl_cons ⟨Tryd.func46, by decide, rfl⟩ (inl_cons ⟨Tryd.func50, by decide, rfl⟩ (inl_cons ⟨Tryd.func53, by decide, rfl⟩ (inl_cons ⟨Tryd.func55, by decide, rfl⟩ (inl_cons ⟨Tryd.func56, by decide, rfl⟩ (inl_cons ⟨Tryd.func60, by decide, rfl⟩ (inl_cons ⟨Tryd.func61, by decide, rfl⟩ (inl_cons ⟨Tryd.func62, by decide, rfl⟩ (inl_cons ⟨Tryd.func57, by decide, rfl⟩ inl_nil))))))))))))))))))))), mixed_ok⟩ 60 Tryd.func10 (by decide) rfl no_loops fun vs bl v bl' h => ?_
  unfold culetlaw48_awake.sp at h
  split at h
  · simp only [Option.some.injEq, Prod.mk.injEq, true_and] at h
    obtain ⟨rfl, rfl⟩ := h
    exact ⟨culetlaw48_awake.run, by simp [okV], clo_spec 8 _ rfl, told_blk rfl⟩
  · cases h
end Go.Proofs.YtgfjidlckocflaaDoor.G
