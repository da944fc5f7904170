import Derived.Test.YtdadecjefafflaaDoorRows
import Derived.Test.YtdadecjefafflaaDoorCards
import Derived.Test.YtdadecjefafflaaDoorTie
import Derived.Test.YtdadecjefafflaaDoorC7
import Derived.WalkKit
import Derived.ProofKit
import Derived.OpenShut
import Derived.ShutString
import Derived.ChangeOld
import Derived.Below
import Derived.LaidMore
import Derived.Lay
import Derived.SevenTiedAt
import Derived.Stop.Joined
import Derived.Lib.LaidTab
import Derived.Stop.LaidErr
namespace Go.Proofs.YtdadecjefafflaaDoor.scheduleCheck
open Go.ChangeShapes Go.WideShapes Go.ChangeAt Go.RowKit
set_option linter.unusedVariables false
theorem own : ownKnob Tryd.prog.godebug = none := by kernel_rfl
theorem Er : laidOutB Tryd.prog = true := by kernel_rfl
theorem tab_of {W : World} (h : laidMetH Tryd.prog Rows.scheduleCheckRow.laid W) : PChk.Tab W := by
  rw [MakeChecks.laidMetH_plain _ _ _ zE] at h
  have h2 := laidMet.tail (laidMet.tail h)
  have e : (Rows.laid_internal_strconv_uint64pow10 : DataW Unit) = Go.Lib.tabData .u64 Go.Lib.pow10Tab := by kernel_rfl
  rw [e] at h2
  have hg : ∃ g, Tryd.prog.globalNamed "internal/strconv.uint64pow10" = some g ∧ (Tryd.prog.globals[g]?).map (·.type) = some 133 := ⟨0, by kernel_rfl, by kernel_rfl⟩
  obtain ⟨g, hg, hty⟩ := hg
  exact Go.Lib.tabIs_of_head (n := 20) (e := 110) hg hty Tryd.underlying133 Tryd.underlying110 zE zE h2
set_option maxRecDepth 100000 in
theorem lifted (os : Os) (started : os.Started) (H : Type) (enc : TypeId × Value → H) :
    ReturnsInHanded {} Tryd.checked os 3 .any (fun w args => (Rows.scheduleCheckSpec.pre enc Tryd.prog Tryd.f3 Rows.scheduleCheckRow.domain false w args ∧ laidMetH Tryd.prog Rows.scheduleCheckRow.laid w) ∧ sizedMet enc Tryd.prog Tryd.f3 (OpenSpec.ofChange Rows.scheduleCheckSpec) false w args) (Rows.scheduleCheckSpec.post enc Tryd.prog Tryd.f3 false true false false) := by
  refine returnsInHanded_of_change_and (C := Tryd.checked) (X := fun w _ => laidMetH Tryd.prog Rows.scheduleCheckRow.laid w) (fun _ _ _ hh h => h.of_heap hh) own started zE Tryd.func3
    (ChangeSpec.witness_shaped (enc := enc) (C := Tryd.checked) (os := os) (X := fun w _ => laidMetH Tryd.prog Rows.scheduleCheckRow.laid w) false (World.laidAll Tryd.prog os Rows.scheduleCheckRow.laid) #[.agg #[.int .i64 0, .slice none 0 0], .slice none 0 0] 8 (World.laidAll_os _ _ _)
      (World.shaped_of_ZipB zE zE) zE zE zE
      (by rw [MakeChecks.laidMetH_plain _ _ _ zE]; exact laidMet_laidAll _ zE zE)) ?_
  intro W base args ds gs before hval0 hW hcnd hsz0 hL _
  have hval : ∀ (j : Nat) t v, Tryd.f3.params[j]? = some t → args[j]? = some v → Value.okWide Tryd.prog W .any base t v := hval0
  have hW' := hW
  obtain ⟨p, q, hA0, hV, rfl, hfz, hnd⟩ := hW
  have hA : DataW.TrodAll enc Tryd.prog W 0 (fun _ => true) true Tryd.f3.params.toList args.toList ds p := hA0
  rw [Tryd.params3] at hA hval
  obtain ⟨v0, vs0, d0, ds0, p0, q0, hargs, rfl, rfl, h0, r0⟩ := trodAll_cons hA
  obtain ⟨v1, vs1, d1, ds1, p1, q1, rfl, rfl, rfl, h1, r1⟩ := trodAll_cons r0
  obtain ⟨rfl, rfl, rfl⟩ := trodAll_nil r1
  obtain rfl : args = #[v0, v1] := by cases args; simp_all
  obtain ⟨rfl, rfl⟩ := trodVars_none hV
  have k0 := h0
  have lt0 : ∀ x ∈ p0, x.block < W.heap.size := by obtain ⟨m, hm⟩ := k0; exact DataW.trod_lt m _ _ _ hm
  obtain ⟨m0, A0, c0, l0, rfl, g0, hr0⟩ := PChk.open_problem (hval 0 24 v0 rfl rfl) h0
  have k1 := h1
  have lt1 : ∀ x ∈ p1, x.block < W.heap.size := by obtain ⟨m, hm⟩ := k1; exact DataW.trod_lt m _ _ _ hm
  obtain ⟨A1, c1, l1, rfl, g1, hr1⟩ := PChk.open_slots_arg (hval 1 25 v1 rfl rfl) h1
  clear hA0 hval0 hsz0
  obtain ⟨k, hk⟩ := PChk.check_law m0 l0 l1
  refine (PChk.QCk.calls k m0 A0 c0 l0 A1 c1 l1 true W hr0 g0 hr1 g1 hk ⟨rfl⟩ (tab_of hL)).mono ?_
  rintro e W' ⟨rfl, bel⟩
  exact ⟨_, rfl, _, _, _, [], _, [], hW', trodAll_mk1 (shut_bool Tryd.underlying4 _), (trodAll_cons_mk (Below.trod Er zE (of_decide_eq_true zE) k0 bel lt0) (trodAll_cons_mk (Below.trod Er zE (of_decide_eq_true zE) k1 bel lt1) trodAll_mk0)), rfl, bel.frame _, fun h => by cases h⟩
theorem over : Rows.scheduleCheckRow.holds Tryd.pinned (OpenSpec.ofChange Rows.scheduleCheckSpec) :=
  OpenClaim.holds_of_wide 3 Tryd.f3 rfl rfl rfl rfl rfl rfl rfl ⟨rfl, rfl, rfl, rfl, rfl⟩ rfl rfl rfl rfl rfl zE Tryd.func3 zE
    (of_decide_eq_true zE) (by unfold Func.isWrapper; first | (rw [if_pos (by decide +kernel)]; kernel_rfl) | (rw [if_neg (by decide +kernel)]; exact ⟨rfl, rfl⟩))
    (fun os started H enc _ => lifted os started H enc)
theorem proved : Rows.ScheduleCheckSaid := over
theorem card : Rows.ScheduleCheckCardSaid :=
  Claim7.holds_tied_plain_at .later [] [.data, .data, .data] true (true, "d912ba0d30831ee2e61ed9eab6e33a6336158e07f3e26d94c728602a2c56caaa") false proved (fun _ h => by cases h) zE (fun _ h => by cases h) scheduleCheck_row_tie rfl ⟨rfl, rfl⟩ zE rfl
    (fun f fn hf hfn => by
      obtain rfl : f = 3 := Option.some.inj ((show Tryd.prog.funcNamed "culet/culetlaw55.ScheduleCheck" = some 3 by kernel_rfl).symm.trans hf) |>.symm
      obtain rfl : fn = Tryd.f3 := (Option.some.inj (Tryd.func3.symm.trans hfn)).symm
      exact ⟨by kernel_rfl, fun j t ht => by
        rw [Tryd.params3] at ht
        have hm : t ∈ [24, 25] := by simpa using Array.mem_of_getElem? ht
        have hall : ([24, 25].all fun u => !Tryd.prog.wantsStandIn u) = true := by kernel_rfl
        exact (show Tryd.prog.wantsStandIn t = false by simpa using List.all_eq_true.1 hall t hm)⟩)
    zE
end Go.Proofs.YtdadecjefafflaaDoor.scheduleCheck
namespace Go.Proofs.YtdadecjefafflaaDoor
/-- The card, under a short name, for the claim. -/
theorem scheduleCheck_holds : Rows.ScheduleCheckCardSaid := scheduleCheck.card
end Go.Proofs.YtdadecjefafflaaDoor
