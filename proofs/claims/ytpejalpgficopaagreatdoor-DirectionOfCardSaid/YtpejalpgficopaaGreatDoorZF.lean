/- The tied card of the law DirectionOf, out of its pure law and its run. WRITTEN BY gen.py of this repo. -/
import Derived.Test.YtpejalpgficopaaGreatDoorRows
import Derived.Test.YtpejalpgficopaaGreatDoorF17
import Derived.Test.YtpejalpgficopaaGreatDoorCards
import Derived.Test.YtpejalpgficopaaGreatDoorTie
import Derived.LaidMore
import Derived.Lay
import Derived.SevenTiedAt
import Derived.Stop.Joined
import Derived.OpenShut
import Derived.ProofKit
namespace Go.Proofs.YtpejalpgficopaaGreatDoor.directionOf
open Go.ChangeShapes Go.WideShapes Go.ChangeAt Go.RowKit Go.Proofs.YtpejalpgficopaaGreatDoor.G
open Go.ChangeMaps (open_string shut_string)
set_option linter.unusedVariables false
theorem own : ownKnob Tryz.prog.godebug = none := by kernel_rfl
theorem MW : laidOutB Tryz.prog = true := by kernel_rfl
set_option maxRecDepth 100000 in
theorem lifted (os : Os) (started : os.Started) (H : Type) (enc : TypeId × Value → H) :
    ReturnsInHanded {} Tryz.checked os 9 .any (fun w args => (Rows.directionOfSpec.pre enc Tryz.prog Tryz.f9 Rows.directionOfRow.domain false w args ∧ laidMetH Tryz.prog Rows.directionOfRow.laid w) ∧ sizedMet enc Tryz.prog Tryz.f9 (OpenSpec.ofChange Rows.directionOfSpec) false w args) (Rows.directionOfSpec.post enc Tryz.prog Tryz.f9 false true false false) := by
  refine returnsInHanded_of_change_and (C := Tryz.checked) (X := fun w _ => laidMetH Tryz.prog Rows.directionOfRow.laid w) (fun _ _ _ hh h => h.of_heap hh) own started (by kernel_rfl) Tryz.func9
    (ChangeSpec.witness_shaped (enc := enc) (C := Tryz.checked) (os := os) (X := fun w _ => laidMetH Tryz.prog Rows.directionOfRow.laid w) false (World.laidAll Tryz.prog os Rows.directionOfRow.laid) #[.agg #[.int .i64 0, .int .i64 0], .agg #[.int .i64 0, .int .i64 0], .agg #[.int .i64 0, .int .i64 0, .int .i64 0, .int .i64 0, .int .i64 0, .int .i64 0]] 8 (World.laidAll_os _ _ _)
      (World.shaped_of_ZipB (by kernel_rfl) (by kernel_rfl)) (by kernel_rfl) (by kernel_rfl) (by kernel_rfl)
      (by rw [MakeChecks.laidMetH_plain _ _ _ (by kernel_rfl)]; exact laidMet_laidAll _ (by kernel_rfl) (by kernel_rfl))) ?_
  intro W base args ds gs before hval0 hW hcnd hsz0 hL _
  have hval : ∀ (j : Nat) t v, Tryz.f9.params[j]? = some t → args[j]? = some v → Value.okWide Tryz.prog W .any base t v := hval0
  have hW' := hW
  obtain ⟨p, q, hA0, hV, rfl, hfz, hnd⟩ := hW
  have hA : DataW.TrodAll enc Tryz.prog W 0 (fun _ => true) true Tryz.f9.params.toList args.toList ds p := hA0
  rw [Tryz.params9] at hA hval
  obtain ⟨v0, vs0, d0, ds0, p0, q0, hargs, rfl, rfl, h0, r0⟩ := trodAll_cons hA
  obtain ⟨v1, vs1, d1, ds1, p1, q1, rfl, rfl, rfl, h1, r1⟩ := trodAll_cons r0
  obtain ⟨v2, vs2, d2, ds2, p2, q2, rfl, rfl, rfl, h2, r2⟩ := trodAll_cons r1
  obtain ⟨rfl, rfl, rfl⟩ := trodAll_nil r2
  obtain rfl : args = #[v0, v1, v2] := by cases args; simp_all
  obtain ⟨rfl, rfl⟩ := trodVars_none hV
  have lt0 := RX.trod_lt h0
  obtain ⟨x0, rfl, n0_0, c0⟩ := RX.okWide_agg (ts := [3, 3]) (by kernel_rfl) (by kernel_rfl) (by kernel_rfl) (hval 0 39 v0 rfl rfl)
  obtain ⟨y0_0, x0, rfl, n0_1⟩ := RX.len_succ n0_0
  obtain ⟨y0_1, x0, rfl, n0_2⟩ := RX.len_succ n0_1
  obtain rfl := RX.len_zero n0_2
  obtain ⟨a0_0, rfl, w0_0⟩ := RX.cell_int Tryz.underlying3 (c0 0 _ _ rfl rfl)
  obtain ⟨a0_1, rfl, w0_1⟩ := RX.cell_int Tryz.underlying3 (c0 1 _ _ rfl rfl)
  have lt1 := RX.trod_lt h1
  obtain ⟨x1, rfl, n1_0, c1⟩ := RX.okWide_agg (ts := [3, 3]) (by kernel_rfl) (by kernel_rfl) (by kernel_rfl) (hval 1 39 v1 rfl rfl)
  obtain ⟨y1_0, x1, rfl, n1_1⟩ := RX.len_succ n1_0
  obtain ⟨y1_1, x1, rfl, n1_2⟩ := RX.len_succ n1_1
  obtain rfl := RX.len_zero n1_2
  obtain ⟨a1_0, rfl, w1_0⟩ := RX.cell_int Tryz.underlying3 (c1 0 _ _ rfl rfl)
  obtain ⟨a1_1, rfl, w1_1⟩ := RX.cell_int Tryz.underlying3 (c1 1 _ _ rfl rfl)
  have lt2 := RX.trod_lt h2
  obtain ⟨x2, rfl, n2_0, c2⟩ := RX.okWide_agg (ts := [3, 3, 3, 3, 3, 3]) (by kernel_rfl) (by kernel_rfl) (by kernel_rfl) (hval 2 41 v2 rfl rfl)
  obtain ⟨y2_0, x2, rfl, n2_1⟩ := RX.len_succ n2_0
  obtain ⟨y2_1, x2, rfl, n2_2⟩ := RX.len_succ n2_1
  obtain ⟨y2_2, x2, rfl, n2_3⟩ := RX.len_succ n2_2
  obtain ⟨y2_3, x2, rfl, n2_4⟩ := RX.len_succ n2_3
  obtain ⟨y2_4, x2, rfl, n2_5⟩ := RX.len_succ n2_4
  obtain ⟨y2_5, x2, rfl, n2_6⟩ := RX.len_succ n2_5
  obtain rfl := RX.len_zero n2_6
  obtain ⟨a2_0, rfl, w2_0⟩ := RX.cell_int Tryz.underlying3 (c2 0 _ _ rfl rfl)
  obtain ⟨a2_1, rfl, w2_1⟩ := RX.cell_int Tryz.underlying3 (c2 1 _ _ rfl rfl)
  obtain ⟨a2_2, rfl, w2_2⟩ := RX.cell_int Tryz.underlying3 (c2 2 _ _ rfl rfl)
  obtain ⟨a2_3, rfl, w2_3⟩ := RX.cell_int Tryz.underlying3 (c2 3 _ _ rfl rfl)
  obtain ⟨a2_4, rfl, w2_4⟩ := RX.cell_int Tryz.underlying3 (c2 4 _ _ rfl rfl)
  obtain ⟨a2_5, rfl, w2_5⟩ := RX.cell_int Tryz.underlying3 (c2 5 _ _ rfl rfl)
  clear hA0 hval0 hsz0
  refine (Dg.calls a0_0 a0_1 a1_0 a1_1 a2_0 a2_1 a2_2 a2_3 a2_4 a2_5 (DirectionOf.law a0_0 a0_1 a1_0 a1_1 a2_0 a2_1 a2_2 a2_3 a2_4 a2_5) W (tabok hL)).mono fun e W' ⟨he, bel⟩ => ?_
  subst he
  exact ⟨_, rfl, _, _, _, [], _, [], hW', trodAll_mk1 (shut_bool Tryz.underlying4 _), (trodAll_cons_mk (Below.trod MW (by kernel_rfl) (of_decide_eq_true (by kernel_rfl)) h0 bel lt0) (trodAll_cons_mk (Below.trod MW (by kernel_rfl) (of_decide_eq_true (by kernel_rfl)) h1 bel lt1) (trodAll_cons_mk (Below.trod MW (by kernel_rfl) (of_decide_eq_true (by kernel_rfl)) h2 bel lt2) trodAll_mk0))), rfl, bel.frame _, fun h => by cases h⟩
theorem over : Rows.directionOfRow.holds Tryz.pinned (OpenSpec.ofChange Rows.directionOfSpec) :=
  OpenClaim.holds_of_wide 9 Tryz.f9 rfl rfl rfl rfl rfl rfl rfl ⟨rfl, rfl, rfl, rfl, rfl⟩ rfl rfl rfl rfl rfl (by kernel_rfl) Tryz.func9 (by kernel_rfl)
    (of_decide_eq_true (by kernel_rfl)) (by unfold Func.isWrapper; first | (rw [if_pos (by decide +kernel)]; kernel_rfl) | (rw [if_neg (by decide +kernel)]; exact ⟨rfl, rfl⟩))
    (fun os started H enc _ => lifted os started H enc)
theorem proved : Rows.DirectionOfSaid := over
theorem card : Rows.DirectionOfCardSaid :=
  Claim7.holds_tied_plain_at .later [] [.data, .data, .data, .data, .pinned] true (true, "f7ad1422b82cd000ac5ac8a52567934553907c327eb9533e5e064f81a51bf0fc") false proved (fun _ h => by cases h) (by kernel_rfl) (fun _ h => by cases h) directionOf_row_tie rfl ⟨rfl, rfl⟩ (by kernel_rfl) rfl
    (fun f fn hf hfn => by
      obtain rfl : f = 9 := Option.some.inj ((show Tryz.prog.funcNamed "culet/culetlaw28.DirectionOf" = some 9 by kernel_rfl).symm.trans hf) |>.symm
      obtain rfl : fn = Tryz.f9 := (Option.some.inj (Tryz.func9.symm.trans hfn)).symm
      exact ⟨by kernel_rfl, fun j t ht => by
        rw [Tryz.params9] at ht
        have hm : t ∈ [39, 39, 41] := by simpa using Array.mem_of_getElem? ht
        have hall : ([39, 39, 41].all fun u => !Tryz.prog.wantsStandIn u) = true := by kernel_rfl
        exact (show Tryz.prog.wantsStandIn t = false by simpa using List.all_eq_true.1 hall t hm)⟩)
    (by kernel_rfl)
end Go.Proofs.YtpejalpgficopaaGreatDoor.directionOf
namespace Go.Proofs.YtpejalpgficopaaGreatDoor
/-- The card, under a short name, for the claim. -/
theorem directionOf_holds : Rows.DirectionOfCardSaid := directionOf.card
end Go.Proofs.YtpejalpgficopaaGreatDoor
