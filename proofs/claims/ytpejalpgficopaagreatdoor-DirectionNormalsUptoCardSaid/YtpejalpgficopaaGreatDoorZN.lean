/- The tied card of the law DirectionNormals, out of its pure law and its run. WRITTEN BY gen.py of this repo. -/
import Derived.Test.YtpejalpgficopaaGreatDoorRows
import Derived.Test.YtpejalpgficopaaGreatDoorN16
import Derived.Test.YtpejalpgficopaaGreatDoorCards
import Derived.Test.YtpejalpgficopaaGreatDoorTie
import Derived.LaidMore
import Derived.Lay
import Derived.SevenTiedAt
import Derived.Stop.Joined
import Derived.OpenShut
import Derived.ProofKit
import Derived.Deep.DeepHandedRow
import Derived.Lib.LaidTab
namespace Go.Proofs.YtpejalpgficopaaGreatDoor.directionNormals
open Go.ChangeShapes Go.WideShapes Go.ChangeAt Go.RowKit Go.Proofs.YtpejalpgficopaaGreatDoor.G
open Go.ChangeMaps (open_string shut_string)
set_option linter.unusedVariables false
theorem own : ownKnob Tryz.prog.godebug = none := by kernel_rfl
theorem laidOut : laidOutB Tryz.prog = true := by kernel_rfl
/-- The arguments' zero values: an input that fits. -/
def zargs : Array Value := ⟨[.agg ⟨.bool false :: .string ⟨#[]⟩ :: .bool false :: .string ⟨#[]⟩ :: .bool false :: .string ⟨#[]⟩ :: .bool false :: .string ⟨#[]⟩ :: .bool false :: .string ⟨#[]⟩ :: .bool false :: .string ⟨#[]⟩ :: .bool false :: .string ⟨#[]⟩ :: .bool false :: .string ⟨#[]⟩ :: .bool false :: .string ⟨#[]⟩ :: .bool false :: .string ⟨#[]⟩ :: .bool false :: .string ⟨#[]⟩ :: .bool false :: .string ⟨#[]⟩ :: .bool false :: .string ⟨#[]⟩ :: .bool false :: .string ⟨#[]⟩ :: .bool false :: .string ⟨#[]⟩ :: .bool false :: .string ⟨#[]⟩ :: .bool false :: .string ⟨#[]⟩ :: .bool false :: .string ⟨#[]⟩ :: .bool false :: .string ⟨#[]⟩ :: .bool false :: .string ⟨#[]⟩ :: []⟩, .int .u8 0]⟩
theorem laid_met (os : Os) : laidMet Tryz.prog Rows.directionNormalsUptoRow.laid ((World.laidAll Tryz.prog os Rows.directionNormalsUptoRow.laid).forCall (fun _ _ => 0) ⟨#[], zargs, []⟩).memory := laidMet_laidAll _ (by kernel_rfl) (by kernel_rfl)
theorem reads (os : Os) {H : Type} (enc : TypeId × Value → H) : ∃ ds places, DataW.whole enc Tryz.prog ((World.laidAll Tryz.prog os Rows.directionNormalsUptoRow.laid).forCall (fun _ _ => 0) ⟨#[], zargs, []⟩).memory Tryz.f3.params.toList Rows.directionNormalsSpec.vars false zargs.toList 8 = some (ds, [], places) ∧ Rows.uptoSmall H (ds ++ []) = true := ⟨[.agg [.agg [.agg [.agg [.agg [.lit (.bool false), .lit (.string [])], .agg [.lit (.bool false), .lit (.string [])], .agg [.lit (.bool false), .lit (.string [])], .agg [.lit (.bool false), .lit (.string [])]], .agg [.lit (.bool false), .lit (.string [])]], .agg [.agg [.agg [.lit (.bool false), .lit (.string [])], .agg [.lit (.bool false), .lit (.string [])], .agg [.lit (.bool false), .lit (.string [])], .agg [.lit (.bool false), .lit (.string [])]], .agg [.lit (.bool false), .lit (.string [])]], .agg [.agg [.agg [.lit (.bool false), .lit (.string [])], .agg [.lit (.bool false), .lit (.string [])], .agg [.lit (.bool false), .lit (.string [])], .agg [.lit (.bool false), .lit (.string [])]], .agg [.lit (.bool false), .lit (.string [])]]], .agg [.agg [.agg [.lit (.bool false), .lit (.string [])], .agg [.lit (.bool false), .lit (.string [])], .agg [.lit (.bool false), .lit (.string [])], .agg [.lit (.bool false), .lit (.string [])]], .agg [.lit (.bool false), .lit (.string [])]]], .lit (.int .u8 0)], [], by kernel_rfl, by kernel_rfl⟩
set_option maxRecDepth 100000 in
theorem lifted (os : Os) (started : os.Started) (H : Type) (enc : TypeId × Value → H) (F : Stop.Interp) :
    ReturnsInHanded {} Tryz.checked os 3 .any ((Rows.OpenSpec.upto Rows.directionNormalsSpec).preRow enc Tryz.prog Tryz.f3 Rows.directionNormalsUptoRow.domain false Rows.directionNormalsUptoRow.laid) (((Rows.OpenSpec.upto Rows.directionNormalsSpec).at F).post enc Tryz.prog Tryz.f3 false true false false) := by
  obtain ⟨ds0, places, hx, hk0⟩ := reads os enc
  refine returnsInHanded_of_row (C := Tryz.checked) (s := (Rows.OpenSpec.upto Rows.directionNormalsSpec)) own started (by kernel_rfl) Tryz.func3
    (witness_row_at (enc := enc) (C := Tryz.checked) false (World.laidAll Tryz.prog os Rows.directionNormalsUptoRow.laid) zargs (World.laidAll_os _ _ _) (by kernel_rfl) (by kernel_rfl) (by kernel_rfl)
      (OpenSpec.preRow_of_cond 8 hx (by kernel_rfl) (fun k hk => by cases hk; exact hk0) (by kernel_rfl) (laid_met os))) ?_
  intro W base args ds gs before hval0 hW hcnd hcond hsz0 hL _ _
  have hk := hcond _ rfl
  have hval : ∀ (j : Nat) t v, Tryz.f3.params[j]? = some t → args[j]? = some v → Value.okWide Tryz.prog W .any base t v := hval0
  have hW' := hW
  obtain ⟨p, q, hA0, hV, rfl, hfz, hnd⟩ := hW
  have hA : DataW.TrodAll enc Tryz.prog W 0 (fun _ => true) true Tryz.f3.params.toList args.toList ds p := hA0
  rw [Tryz.params3] at hA hval
  obtain ⟨v0, vs0, d0, ds0, p0, q0, hargs, rfl, rfl, h0, r0⟩ := trodAll_cons hA
  obtain ⟨v1, vs1, d1, ds1, p1, q1, rfl, rfl, rfl, h1, r1⟩ := trodAll_cons r0
  obtain ⟨rfl, rfl, rfl⟩ := trodAll_nil r1
  obtain rfl : args = #[v0, v1] := by cases args; simp_all
  obtain ⟨rfl, rfl⟩ := trodVars_none hV
  have hB := of_decide_eq_true hk
  rw [List.append_nil] at hB
  have lt0 := RX.trod_lt h0
  obtain ⟨x0, rfl, n0_0, c0⟩ := RX.okWide_agg (ts := [4, 9, 4, 9, 4, 9, 4, 9, 4, 9, 4, 9, 4, 9, 4, 9, 4, 9, 4, 9, 4, 9, 4, 9, 4, 9, 4, 9, 4, 9, 4, 9, 4, 9, 4, 9, 4, 9, 4, 9]) (by kernel_rfl) (by kernel_rfl) (by kernel_rfl) (hval 0 30 v0 rfl rfl)
  obtain ⟨y0_0, x0, rfl, n0_1⟩ := RX.len_succ n0_0
  obtain ⟨y0_1, x0, rfl, n0_2⟩ := RX.len_succ n0_1
  obtain ⟨y0_2, x0, rfl, n0_3⟩ := RX.len_succ n0_2
  obtain ⟨y0_3, x0, rfl, n0_4⟩ := RX.len_succ n0_3
  obtain ⟨y0_4, x0, rfl, n0_5⟩ := RX.len_succ n0_4
  obtain ⟨y0_5, x0, rfl, n0_6⟩ := RX.len_succ n0_5
  obtain ⟨y0_6, x0, rfl, n0_7⟩ := RX.len_succ n0_6
  obtain ⟨y0_7, x0, rfl, n0_8⟩ := RX.len_succ n0_7
  obtain ⟨y0_8, x0, rfl, n0_9⟩ := RX.len_succ n0_8
  obtain ⟨y0_9, x0, rfl, n0_10⟩ := RX.len_succ n0_9
  obtain ⟨y0_10, x0, rfl, n0_11⟩ := RX.len_succ n0_10
  obtain ⟨y0_11, x0, rfl, n0_12⟩ := RX.len_succ n0_11
  obtain ⟨y0_12, x0, rfl, n0_13⟩ := RX.len_succ n0_12
  obtain ⟨y0_13, x0, rfl, n0_14⟩ := RX.len_succ n0_13
  obtain ⟨y0_14, x0, rfl, n0_15⟩ := RX.len_succ n0_14
  obtain ⟨y0_15, x0, rfl, n0_16⟩ := RX.len_succ n0_15
  obtain ⟨y0_16, x0, rfl, n0_17⟩ := RX.len_succ n0_16
  obtain ⟨y0_17, x0, rfl, n0_18⟩ := RX.len_succ n0_17
  obtain ⟨y0_18, x0, rfl, n0_19⟩ := RX.len_succ n0_18
  obtain ⟨y0_19, x0, rfl, n0_20⟩ := RX.len_succ n0_19
  obtain ⟨y0_20, x0, rfl, n0_21⟩ := RX.len_succ n0_20
  obtain ⟨y0_21, x0, rfl, n0_22⟩ := RX.len_succ n0_21
  obtain ⟨y0_22, x0, rfl, n0_23⟩ := RX.len_succ n0_22
  obtain ⟨y0_23, x0, rfl, n0_24⟩ := RX.len_succ n0_23
  obtain ⟨y0_24, x0, rfl, n0_25⟩ := RX.len_succ n0_24
  obtain ⟨y0_25, x0, rfl, n0_26⟩ := RX.len_succ n0_25
  obtain ⟨y0_26, x0, rfl, n0_27⟩ := RX.len_succ n0_26
  obtain ⟨y0_27, x0, rfl, n0_28⟩ := RX.len_succ n0_27
  obtain ⟨y0_28, x0, rfl, n0_29⟩ := RX.len_succ n0_28
  obtain ⟨y0_29, x0, rfl, n0_30⟩ := RX.len_succ n0_29
  obtain ⟨y0_30, x0, rfl, n0_31⟩ := RX.len_succ n0_30
  obtain ⟨y0_31, x0, rfl, n0_32⟩ := RX.len_succ n0_31
  obtain ⟨y0_32, x0, rfl, n0_33⟩ := RX.len_succ n0_32
  obtain ⟨y0_33, x0, rfl, n0_34⟩ := RX.len_succ n0_33
  obtain ⟨y0_34, x0, rfl, n0_35⟩ := RX.len_succ n0_34
  obtain ⟨y0_35, x0, rfl, n0_36⟩ := RX.len_succ n0_35
  obtain ⟨y0_36, x0, rfl, n0_37⟩ := RX.len_succ n0_36
  obtain ⟨y0_37, x0, rfl, n0_38⟩ := RX.len_succ n0_37
  obtain ⟨y0_38, x0, rfl, n0_39⟩ := RX.len_succ n0_38
  obtain ⟨y0_39, x0, rfl, n0_40⟩ := RX.len_succ n0_39
  obtain rfl := RX.len_zero n0_40
  obtain ⟨A3, rfl⟩ := RX.cell_bool Tryz.underlying4 (c0 0 _ _ rfl rfl)
  obtain ⟨A2, rfl⟩ := RX.cell_string Tryz.underlying9 (c0 1 _ _ rfl rfl)
  obtain ⟨A6, rfl⟩ := RX.cell_bool Tryz.underlying4 (c0 2 _ _ rfl rfl)
  obtain ⟨A5, rfl⟩ := RX.cell_string Tryz.underlying9 (c0 3 _ _ rfl rfl)
  obtain ⟨A4, rfl⟩ := RX.cell_bool Tryz.underlying4 (c0 4 _ _ rfl rfl)
  obtain ⟨A9, rfl⟩ := RX.cell_string Tryz.underlying9 (c0 5 _ _ rfl rfl)
  obtain ⟨A8, rfl⟩ := RX.cell_bool Tryz.underlying4 (c0 6 _ _ rfl rfl)
  obtain ⟨A7, rfl⟩ := RX.cell_string Tryz.underlying9 (c0 7 _ _ rfl rfl)
  obtain ⟨AB, rfl⟩ := RX.cell_bool Tryz.underlying4 (c0 8 _ _ rfl rfl)
  obtain ⟨AA, rfl⟩ := RX.cell_string Tryz.underlying9 (c0 9 _ _ rfl rfl)
  obtain ⟨B5, rfl⟩ := RX.cell_bool Tryz.underlying4 (c0 10 _ _ rfl rfl)
  obtain ⟨B4, rfl⟩ := RX.cell_string Tryz.underlying9 (c0 11 _ _ rfl rfl)
  obtain ⟨B3, rfl⟩ := RX.cell_bool Tryz.underlying4 (c0 12 _ _ rfl rfl)
  obtain ⟨B2, rfl⟩ := RX.cell_string Tryz.underlying9 (c0 13 _ _ rfl rfl)
  obtain ⟨AZ, rfl⟩ := RX.cell_bool Tryz.underlying4 (c0 14 _ _ rfl rfl)
  obtain ⟨AY, rfl⟩ := RX.cell_string Tryz.underlying9 (c0 15 _ _ rfl rfl)
  obtain ⟨AX, rfl⟩ := RX.cell_bool Tryz.underlying4 (c0 16 _ _ rfl rfl)
  obtain ⟨AW, rfl⟩ := RX.cell_string Tryz.underlying9 (c0 17 _ _ rfl rfl)
  obtain ⟨AV, rfl⟩ := RX.cell_bool Tryz.underlying4 (c0 18 _ _ rfl rfl)
  obtain ⟨AU, rfl⟩ := RX.cell_string Tryz.underlying9 (c0 19 _ _ rfl rfl)
  obtain ⟨AT, rfl⟩ := RX.cell_bool Tryz.underlying4 (c0 20 _ _ rfl rfl)
  obtain ⟨AS, rfl⟩ := RX.cell_string Tryz.underlying9 (c0 21 _ _ rfl rfl)
  obtain ⟨AR, rfl⟩ := RX.cell_bool Tryz.underlying4 (c0 22 _ _ rfl rfl)
  obtain ⟨AQ, rfl⟩ := RX.cell_string Tryz.underlying9 (c0 23 _ _ rfl rfl)
  obtain ⟨AP, rfl⟩ := RX.cell_bool Tryz.underlying4 (c0 24 _ _ rfl rfl)
  obtain ⟨AO, rfl⟩ := RX.cell_string Tryz.underlying9 (c0 25 _ _ rfl rfl)
  obtain ⟨AN, rfl⟩ := RX.cell_bool Tryz.underlying4 (c0 26 _ _ rfl rfl)
  obtain ⟨AM, rfl⟩ := RX.cell_string Tryz.underlying9 (c0 27 _ _ rfl rfl)
  obtain ⟨AL, rfl⟩ := RX.cell_bool Tryz.underlying4 (c0 28 _ _ rfl rfl)
  obtain ⟨AK, rfl⟩ := RX.cell_string Tryz.underlying9 (c0 29 _ _ rfl rfl)
  obtain ⟨BJ, rfl⟩ := RX.cell_bool Tryz.underlying4 (c0 30 _ _ rfl rfl)
  obtain ⟨BI, rfl⟩ := RX.cell_string Tryz.underlying9 (c0 31 _ _ rfl rfl)
  obtain ⟨BH, rfl⟩ := RX.cell_bool Tryz.underlying4 (c0 32 _ _ rfl rfl)
  obtain ⟨BG, rfl⟩ := RX.cell_string Tryz.underlying9 (c0 33 _ _ rfl rfl)
  obtain ⟨BF, rfl⟩ := RX.cell_bool Tryz.underlying4 (c0 34 _ _ rfl rfl)
  obtain ⟨BE, rfl⟩ := RX.cell_string Tryz.underlying9 (c0 35 _ _ rfl rfl)
  obtain ⟨BD, rfl⟩ := RX.cell_bool Tryz.underlying4 (c0 36 _ _ rfl rfl)
  obtain ⟨BC, rfl⟩ := RX.cell_string Tryz.underlying9 (c0 37 _ _ rfl rfl)
  obtain ⟨BB, rfl⟩ := RX.cell_bool Tryz.underlying4 (c0 38 _ _ rfl rfl)
  obtain ⟨BA, rfl⟩ := RX.cell_string Tryz.underlying9 (c0 39 _ _ rfl rfl)
  obtain ⟨a1, rfl, rfl, rfl, w1⟩ := open_int Tryz.underlying5 (hval 1 5 v1 rfl rfl) h1
  have z0_1 := Nat.le_trans (RX.size_le h0 (by simp) hB 8 1 (by kernel_rfl) rfl) (show 1048576 ≤ 8589934592 by decide)
  have z0_3 := Nat.le_trans (RX.size_le h0 (by simp) hB 8 3 (by kernel_rfl) rfl) (show 1048576 ≤ 8589934592 by decide)
  have z0_5 := Nat.le_trans (RX.size_le h0 (by simp) hB 8 5 (by kernel_rfl) rfl) (show 1048576 ≤ 8589934592 by decide)
  have z0_7 := Nat.le_trans (RX.size_le h0 (by simp) hB 8 7 (by kernel_rfl) rfl) (show 1048576 ≤ 8589934592 by decide)
  have z0_9 := Nat.le_trans (RX.size_le h0 (by simp) hB 8 9 (by kernel_rfl) rfl) (show 1048576 ≤ 8589934592 by decide)
  have z0_11 := Nat.le_trans (RX.size_le h0 (by simp) hB 8 11 (by kernel_rfl) rfl) (show 1048576 ≤ 8589934592 by decide)
  have z0_13 := Nat.le_trans (RX.size_le h0 (by simp) hB 8 13 (by kernel_rfl) rfl) (show 1048576 ≤ 8589934592 by decide)
  have z0_15 := Nat.le_trans (RX.size_le h0 (by simp) hB 8 15 (by kernel_rfl) rfl) (show 1048576 ≤ 8589934592 by decide)
  have z0_17 := Nat.le_trans (RX.size_le h0 (by simp) hB 8 17 (by kernel_rfl) rfl) (show 1048576 ≤ 8589934592 by decide)
  have z0_19 := Nat.le_trans (RX.size_le h0 (by simp) hB 8 19 (by kernel_rfl) rfl) (show 1048576 ≤ 8589934592 by decide)
  have z0_21 := Nat.le_trans (RX.size_le h0 (by simp) hB 8 21 (by kernel_rfl) rfl) (show 1048576 ≤ 8589934592 by decide)
  have z0_23 := Nat.le_trans (RX.size_le h0 (by simp) hB 8 23 (by kernel_rfl) rfl) (show 1048576 ≤ 8589934592 by decide)
  have z0_25 := Nat.le_trans (RX.size_le h0 (by simp) hB 8 25 (by kernel_rfl) rfl) (show 1048576 ≤ 8589934592 by decide)
  have z0_27 := Nat.le_trans (RX.size_le h0 (by simp) hB 8 27 (by kernel_rfl) rfl) (show 1048576 ≤ 8589934592 by decide)
  have z0_29 := Nat.le_trans (RX.size_le h0 (by simp) hB 8 29 (by kernel_rfl) rfl) (show 1048576 ≤ 8589934592 by decide)
  have z0_31 := Nat.le_trans (RX.size_le h0 (by simp) hB 8 31 (by kernel_rfl) rfl) (show 1048576 ≤ 8589934592 by decide)
  have z0_33 := Nat.le_trans (RX.size_le h0 (by simp) hB 8 33 (by kernel_rfl) rfl) (show 1048576 ≤ 8589934592 by decide)
  have z0_35 := Nat.le_trans (RX.size_le h0 (by simp) hB 8 35 (by kernel_rfl) rfl) (show 1048576 ≤ 8589934592 by decide)
  have z0_37 := Nat.le_trans (RX.size_le h0 (by simp) hB 8 37 (by kernel_rfl) rfl) (show 1048576 ≤ 8589934592 by decide)
  have z0_39 := Nat.le_trans (RX.size_le h0 (by simp) hB 8 39 (by kernel_rfl) rfl) (show 1048576 ≤ 8589934592 by decide)
  clear hA0 hval0 hsz0
  refine (culetlaw28_DirectionNormals.calls A3 A2 A6 A5 A4 A9 A8 A7 AB AA B5 B4 B3 B2 AZ AY AX AW AV AU AT AS AR AQ AP AO AN AM AL AK BJ BI BH BG BF BE BD BC BB BA a1 (DirectionNormals.law A3 A2 A6 A5 A4 A9 A8 A7 AB AA B5 B4 B3 B2 AZ AY AX AW AV AU AT AS AR AQ AP AO AN AM AL AK BJ BI BH BG BF BE BD BC BB BA a1 (RX.wf_has w1) z0_1 z0_3 z0_5 z0_7 z0_9 z0_11 z0_13 z0_15 z0_17 z0_19 z0_21 z0_23 z0_25 z0_27 z0_29 z0_31 z0_33 z0_35 z0_37 z0_39) W (fun x hx => by cases hx)).mono fun e W' ⟨he, bel⟩ => ?_
  subst he
  exact ⟨_, rfl, _, _, _, [], _, [], hW', trodAll_mk1 (shut_bool Tryz.underlying4 _), (trodAll_cons_mk (Below.trod laidOut (by kernel_rfl) (of_decide_eq_true (by kernel_rfl)) h0 bel lt0) (trodAll_cons_mk (shut_int Tryz.underlying5 w1) trodAll_mk0)), rfl, bel.frame _, fun h => by cases h⟩
theorem over : Rows.DirectionNormalsUptoSaid :=
  OpenClaim.holds_of_cond 3 Tryz.f3 rfl rfl rfl rfl rfl rfl rfl ⟨rfl, rfl, rfl, rfl, rfl⟩ rfl rfl rfl rfl rfl (by kernel_rfl) Tryz.func3 (by kernel_rfl)
    (of_decide_eq_true (by kernel_rfl)) (by unfold Func.isWrapper; first | (rw [if_pos (by decide +kernel)]; kernel_rfl) | (rw [if_neg (by decide +kernel)]; exact ⟨rfl, rfl⟩))
    (fun os started H enc _ F => by rw [OpenClaim.pre_eq_preRow]; exact lifted os started H enc F)
theorem card : Rows.DirectionNormalsUptoCardSaid :=
  Claim7.holds_tied_plain_at .later [] _ _ _ _ over (fun _ h => by cases h) (by kernel_rfl) (fun _ h => by cases h) directionNormalsUpto_row_tie rfl ⟨rfl, rfl⟩ (by kernel_rfl) rfl
    (fun f fn hf hfn => by
      obtain rfl : f = 3 := Option.some.inj ((show Tryz.prog.funcNamed "culet/culetlaw28.DirectionNormals" = some 3 by kernel_rfl).symm.trans hf) |>.symm
      obtain rfl : fn = Tryz.f3 := (Option.some.inj (Tryz.func3.symm.trans hfn)).symm
      exact ⟨by kernel_rfl, fun j t ht => by
        rw [Tryz.params3] at ht
        have hm : t ∈ [30, 5] := by simpa using Array.mem_of_getElem? ht
        have hall : ([30, 5].all fun u => !Tryz.prog.wantsStandIn u) = true := by kernel_rfl
        exact (show Tryz.prog.wantsStandIn t = false by simpa using List.all_eq_true.1 hall t hm)⟩)
    (by kernel_rfl)
end Go.Proofs.YtpejalpgficopaaGreatDoor.directionNormals
namespace Go.Proofs.YtpejalpgficopaaGreatDoor
/-- The card of the second form, under a short name, for the claim. -/
theorem directionNormalsUpto_holds : Rows.DirectionNormalsUptoCardSaid := directionNormals.card
end Go.Proofs.YtpejalpgficopaaGreatDoor
