/- The tied card of the law DirectionLength, out of its pure law and its run. WRITTEN BY gen.py of this repo. -/
import Derived.Test.YtpejalpgficopaaGreatDoorRows
import Derived.Test.YtpejalpgficopaaGreatDoorL16
import Derived.Test.YtpejalpgficopaaGreatDoorCards
import Derived.Test.YtpejalpgficopaaGreatDoorTie
import Derived.LaidMore
import Derived.Lay
import Derived.SevenTiedAt
import Derived.Stop.Joined
import Derived.OpenShut
import Derived.ProofKit
import Derived.Deep.DeepHandedRow
import Derived.Lib.LaidTab
namespace Go.Proofs.YtpejalpgficopaaGreatDoor.directionLength
open Go.ChangeShapes Go.WideShapes Go.ChangeAt Go.RowKit Go.Proofs.YtpejalpgficopaaGreatDoor.G
open Go.ChangeMaps (open_string shut_string)
set_option linter.unusedVariables false
theorem own : ownKnob Tryz.prog.godebug = none := by kernel_rfl
theorem laidOut : laidOutB Tryz.prog = true := by kernel_rfl
/-- The arguments' zero values: an input that fits. -/
def zargs : Array Value := ⟨[.agg ⟨.int .i64 0 :: .int .i64 0 :: []⟩, .agg ⟨.int .i64 0 :: .int .i64 0 :: []⟩, .agg ⟨.bool false :: .string ⟨#[]⟩ :: .bool false :: .string ⟨#[]⟩ :: .bool false :: .string ⟨#[]⟩ :: .bool false :: .string ⟨#[]⟩ :: .bool false :: .string ⟨#[]⟩ :: .bool false :: .string ⟨#[]⟩ :: .bool false :: .string ⟨#[]⟩ :: .bool false :: .string ⟨#[]⟩ :: .bool false :: .string ⟨#[]⟩ :: .bool false :: .string ⟨#[]⟩ :: .bool false :: .string ⟨#[]⟩ :: .bool false :: .string ⟨#[]⟩ :: .bool false :: .string ⟨#[]⟩ :: .bool false :: .string ⟨#[]⟩ :: .bool false :: .string ⟨#[]⟩ :: .bool false :: .string ⟨#[]⟩ :: .bool false :: .string ⟨#[]⟩ :: .bool false :: .string ⟨#[]⟩ :: .bool false :: .string ⟨#[]⟩ :: .bool false :: .string ⟨#[]⟩ :: []⟩]⟩
theorem laid_met (os : Os) : laidMet Tryz.prog Rows.directionLengthUptoRow.laid ((World.laidAll Tryz.prog os Rows.directionLengthUptoRow.laid).forCall (fun _ _ => 0) ⟨#[], zargs, []⟩).memory := laidMet_laidAll _ (by kernel_rfl) (by kernel_rfl)
theorem reads (os : Os) {H : Type} (enc : TypeId × Value → H) : ∃ ds places, DataW.whole enc Tryz.prog ((World.laidAll Tryz.prog os Rows.directionLengthUptoRow.laid).forCall (fun _ _ => 0) ⟨#[], zargs, []⟩).memory Tryz.f4.params.toList Rows.directionLengthSpec.vars false zargs.toList 8 = some (ds, [], places) ∧ Rows.uptoSmall H (ds ++ []) = true := ⟨[.agg [.lit (.int .i64 0), .lit (.int .i64 0)], .agg [.lit (.int .i64 0), .lit (.int .i64 0)], .agg [.agg [.agg [.agg [.agg [.lit (.bool false), .lit (.string [])], .agg [.lit (.bool false), .lit (.string [])], .agg [.lit (.bool false), .lit (.string [])], .agg [.lit (.bool false), .lit (.string [])]], .agg [.lit (.bool false), .lit (.string [])]], .agg [.agg [.agg [.lit (.bool false), .lit (.string [])], .agg [.lit (.bool false), .lit (.string [])], .agg [.lit (.bool false), .lit (.string [])], .agg [.lit (.bool false), .lit (.string [])]], .agg [.lit (.bool false), .lit (.string [])]], .agg [.agg [.agg [.lit (.bool false), .lit (.string [])], .agg [.lit (.bool false), .lit (.string [])], .agg [.lit (.bool false), .lit (.string [])], .agg [.lit (.bool false), .lit (.string [])]], .agg [.lit (.bool false), .lit (.string [])]]], .agg [.agg [.agg [.lit (.bool false), .lit (.string [])], .agg [.lit (.bool false), .lit (.string [])], .agg [.lit (.bool false), .lit (.string [])], .agg [.lit (.bool false), .lit (.string [])]], .agg [.lit (.bool false), .lit (.string [])]]]], [], by kernel_rfl, by kernel_rfl⟩
set_option maxRecDepth 100000 in
theorem lifted (os : Os) (started : os.Started) (H : Type) (enc : TypeId × Value → H) (F : Stop.Interp) :
    ReturnsInHanded {} Tryz.checked os 4 .any ((Rows.OpenSpec.upto Rows.directionLengthSpec).preRow enc Tryz.prog Tryz.f4 Rows.directionLengthUptoRow.domain false Rows.directionLengthUptoRow.laid) (((Rows.OpenSpec.upto Rows.directionLengthSpec).at F).post enc Tryz.prog Tryz.f4 false true false false) := by
  obtain ⟨ds0, places, hx, hk0⟩ := reads os enc
  refine returnsInHanded_of_row (C := Tryz.checked) (s := (Rows.OpenSpec.upto Rows.directionLengthSpec)) own started (by kernel_rfl) Tryz.func4
    (witness_row_at (enc := enc) (C := Tryz.checked) false (World.laidAll Tryz.prog os Rows.directionLengthUptoRow.laid) zargs (World.laidAll_os _ _ _) (by kernel_rfl) (by kernel_rfl) (by kernel_rfl)
      (OpenSpec.preRow_of_cond 8 hx (by kernel_rfl) (fun k hk => by cases hk; exact hk0) (by kernel_rfl) (laid_met os))) ?_
  intro W base args ds gs before hval0 hW hcnd hcond hsz0 hL _ _
  have hk := hcond _ rfl
  have hval : ∀ (j : Nat) t v, Tryz.f4.params[j]? = some t → args[j]? = some v → Value.okWide Tryz.prog W .any base t v := hval0
  have hW' := hW
  obtain ⟨p, q, hA0, hV, rfl, hfz, hnd⟩ := hW
  have hA : DataW.TrodAll enc Tryz.prog W 0 (fun _ => true) true Tryz.f4.params.toList args.toList ds p := hA0
  rw [Tryz.params4] at hA hval
  obtain ⟨v0, vs0, d0, ds0, p0, q0, hargs, rfl, rfl, h0, r0⟩ := trodAll_cons hA
  obtain ⟨v1, vs1, d1, ds1, p1, q1, rfl, rfl, rfl, h1, r1⟩ := trodAll_cons r0
  obtain ⟨v2, vs2, d2, ds2, p2, q2, rfl, rfl, rfl, h2, r2⟩ := trodAll_cons r1
  obtain ⟨rfl, rfl, rfl⟩ := trodAll_nil r2
  obtain rfl : args = #[v0, v1, v2] := by cases args; simp_all
  obtain ⟨rfl, rfl⟩ := trodVars_none hV
  have hB := of_decide_eq_true hk
  rw [List.append_nil] at hB
  have lt0 := RX.trod_lt h0
  obtain ⟨x0, rfl, n0_0, c0⟩ := RX.okWide_agg (ts := [3, 3]) (by kernel_rfl) (by kernel_rfl) (by kernel_rfl) (hval 0 39 v0 rfl rfl)
  obtain ⟨y0_0, x0, rfl, n0_1⟩ := RX.len_succ n0_0
  obtain ⟨y0_1, x0, rfl, n0_2⟩ := RX.len_succ n0_1
  obtain rfl := RX.len_zero n0_2
  obtain ⟨A2, rfl, w0_0⟩ := RX.cell_int Tryz.underlying3 (c0 0 _ _ rfl rfl)
  obtain ⟨A3, rfl, w0_1⟩ := RX.cell_int Tryz.underlying3 (c0 1 _ _ rfl rfl)
  have lt1 := RX.trod_lt h1
  obtain ⟨x1, rfl, n1_0, c1⟩ := RX.okWide_agg (ts := [3, 3]) (by kernel_rfl) (by kernel_rfl) (by kernel_rfl) (hval 1 39 v1 rfl rfl)
  obtain ⟨y1_0, x1, rfl, n1_1⟩ := RX.len_succ n1_0
  obtain ⟨y1_1, x1, rfl, n1_2⟩ := RX.len_succ n1_1
  obtain rfl := RX.len_zero n1_2
  obtain ⟨A5, rfl, w1_0⟩ := RX.cell_int Tryz.underlying3 (c1 0 _ _ rfl rfl)
  obtain ⟨A4, rfl, w1_1⟩ := RX.cell_int Tryz.underlying3 (c1 1 _ _ rfl rfl)
  have lt2 := RX.trod_lt h2
  obtain ⟨x2, rfl, n2_0, c2⟩ := RX.okWide_agg (ts := [4, 9, 4, 9, 4, 9, 4, 9, 4, 9, 4, 9, 4, 9, 4, 9, 4, 9, 4, 9, 4, 9, 4, 9, 4, 9, 4, 9, 4, 9, 4, 9, 4, 9, 4, 9, 4, 9, 4, 9]) (by kernel_rfl) (by kernel_rfl) (by kernel_rfl) (hval 2 30 v2 rfl rfl)
  obtain ⟨y2_0, x2, rfl, n2_1⟩ := RX.len_succ n2_0
  obtain ⟨y2_1, x2, rfl, n2_2⟩ := RX.len_succ n2_1
  obtain ⟨y2_2, x2, rfl, n2_3⟩ := RX.len_succ n2_2
  obtain ⟨y2_3, x2, rfl, n2_4⟩ := RX.len_succ n2_3
  obtain ⟨y2_4, x2, rfl, n2_5⟩ := RX.len_succ n2_4
  obtain ⟨y2_5, x2, rfl, n2_6⟩ := RX.len_succ n2_5
  obtain ⟨y2_6, x2, rfl, n2_7⟩ := RX.len_succ n2_6
  obtain ⟨y2_7, x2, rfl, n2_8⟩ := RX.len_succ n2_7
  obtain ⟨y2_8, x2, rfl, n2_9⟩ := RX.len_succ n2_8
  obtain ⟨y2_9, x2, rfl, n2_10⟩ := RX.len_succ n2_9
  obtain ⟨y2_10, x2, rfl, n2_11⟩ := RX.len_succ n2_10
  obtain ⟨y2_11, x2, rfl, n2_12⟩ := RX.len_succ n2_11
  obtain ⟨y2_12, x2, rfl, n2_13⟩ := RX.len_succ n2_12
  obtain ⟨y2_13, x2, rfl, n2_14⟩ := RX.len_succ n2_13
  obtain ⟨y2_14, x2, rfl, n2_15⟩ := RX.len_succ n2_14
  obtain ⟨y2_15, x2, rfl, n2_16⟩ := RX.len_succ n2_15
  obtain ⟨y2_16, x2, rfl, n2_17⟩ := RX.len_succ n2_16
  obtain ⟨y2_17, x2, rfl, n2_18⟩ := RX.len_succ n2_17
  obtain ⟨y2_18, x2, rfl, n2_19⟩ := RX.len_succ n2_18
  obtain ⟨y2_19, x2, rfl, n2_20⟩ := RX.len_succ n2_19
  obtain ⟨y2_20, x2, rfl, n2_21⟩ := RX.len_succ n2_20
  obtain ⟨y2_21, x2, rfl, n2_22⟩ := RX.len_succ n2_21
  obtain ⟨y2_22, x2, rfl, n2_23⟩ := RX.len_succ n2_22
  obtain ⟨y2_23, x2, rfl, n2_24⟩ := RX.len_succ n2_23
  obtain ⟨y2_24, x2, rfl, n2_25⟩ := RX.len_succ n2_24
  obtain ⟨y2_25, x2, rfl, n2_26⟩ := RX.len_succ n2_25
  obtain ⟨y2_26, x2, rfl, n2_27⟩ := RX.len_succ n2_26
  obtain ⟨y2_27, x2, rfl, n2_28⟩ := RX.len_succ n2_27
  obtain ⟨y2_28, x2, rfl, n2_29⟩ := RX.len_succ n2_28
  obtain ⟨y2_29, x2, rfl, n2_30⟩ := RX.len_succ n2_29
  obtain ⟨y2_30, x2, rfl, n2_31⟩ := RX.len_succ n2_30
  obtain ⟨y2_31, x2, rfl, n2_32⟩ := RX.len_succ n2_31
  obtain ⟨y2_32, x2, rfl, n2_33⟩ := RX.len_succ n2_32
  obtain ⟨y2_33, x2, rfl, n2_34⟩ := RX.len_succ n2_33
  obtain ⟨y2_34, x2, rfl, n2_35⟩ := RX.len_succ n2_34
  obtain ⟨y2_35, x2, rfl, n2_36⟩ := RX.len_succ n2_35
  obtain ⟨y2_36, x2, rfl, n2_37⟩ := RX.len_succ n2_36
  obtain ⟨y2_37, x2, rfl, n2_38⟩ := RX.len_succ n2_37
  obtain ⟨y2_38, x2, rfl, n2_39⟩ := RX.len_succ n2_38
  obtain ⟨y2_39, x2, rfl, n2_40⟩ := RX.len_succ n2_39
  obtain rfl := RX.len_zero n2_40
  obtain ⟨BF, rfl⟩ := RX.cell_bool Tryz.underlying4 (c2 0 _ _ rfl rfl)
  obtain ⟨BE, rfl⟩ := RX.cell_string Tryz.underlying9 (c2 1 _ _ rfl rfl)
  obtain ⟨FJ, rfl⟩ := RX.cell_bool Tryz.underlying4 (c2 2 _ _ rfl rfl)
  obtain ⟨FI, rfl⟩ := RX.cell_string Tryz.underlying9 (c2 3 _ _ rfl rfl)
  obtain ⟨FH, rfl⟩ := RX.cell_bool Tryz.underlying4 (c2 4 _ _ rfl rfl)
  obtain ⟨FG, rfl⟩ := RX.cell_string Tryz.underlying9 (c2 5 _ _ rfl rfl)
  obtain ⟨FF, rfl⟩ := RX.cell_bool Tryz.underlying4 (c2 6 _ _ rfl rfl)
  obtain ⟨FE, rfl⟩ := RX.cell_string Tryz.underlying9 (c2 7 _ _ rfl rfl)
  obtain ⟨FD, rfl⟩ := RX.cell_bool Tryz.underlying4 (c2 8 _ _ rfl rfl)
  obtain ⟨FC, rfl⟩ := RX.cell_string Tryz.underlying9 (c2 9 _ _ rfl rfl)
  obtain ⟨EY, rfl⟩ := RX.cell_bool Tryz.underlying4 (c2 10 _ _ rfl rfl)
  obtain ⟨EX, rfl⟩ := RX.cell_string Tryz.underlying9 (c2 11 _ _ rfl rfl)
  obtain ⟨EW, rfl⟩ := RX.cell_bool Tryz.underlying4 (c2 12 _ _ rfl rfl)
  obtain ⟨EV, rfl⟩ := RX.cell_string Tryz.underlying9 (c2 13 _ _ rfl rfl)
  obtain ⟨EU, rfl⟩ := RX.cell_bool Tryz.underlying4 (c2 14 _ _ rfl rfl)
  obtain ⟨ET, rfl⟩ := RX.cell_string Tryz.underlying9 (c2 15 _ _ rfl rfl)
  obtain ⟨ES, rfl⟩ := RX.cell_bool Tryz.underlying4 (c2 16 _ _ rfl rfl)
  obtain ⟨ER, rfl⟩ := RX.cell_string Tryz.underlying9 (c2 17 _ _ rfl rfl)
  obtain ⟨EQ, rfl⟩ := RX.cell_bool Tryz.underlying4 (c2 18 _ _ rfl rfl)
  obtain ⟨EP, rfl⟩ := RX.cell_string Tryz.underlying9 (c2 19 _ _ rfl rfl)
  obtain ⟨EO, rfl⟩ := RX.cell_bool Tryz.underlying4 (c2 20 _ _ rfl rfl)
  obtain ⟨EN, rfl⟩ := RX.cell_string Tryz.underlying9 (c2 21 _ _ rfl rfl)
  obtain ⟨EM, rfl⟩ := RX.cell_bool Tryz.underlying4 (c2 22 _ _ rfl rfl)
  obtain ⟨EL, rfl⟩ := RX.cell_string Tryz.underlying9 (c2 23 _ _ rfl rfl)
  obtain ⟨EK, rfl⟩ := RX.cell_bool Tryz.underlying4 (c2 24 _ _ rfl rfl)
  obtain ⟨EJ, rfl⟩ := RX.cell_string Tryz.underlying9 (c2 25 _ _ rfl rfl)
  obtain ⟨EI, rfl⟩ := RX.cell_bool Tryz.underlying4 (c2 26 _ _ rfl rfl)
  obtain ⟨EH, rfl⟩ := RX.cell_string Tryz.underlying9 (c2 27 _ _ rfl rfl)
  obtain ⟨EG, rfl⟩ := RX.cell_bool Tryz.underlying4 (c2 28 _ _ rfl rfl)
  obtain ⟨EF, rfl⟩ := RX.cell_string Tryz.underlying9 (c2 29 _ _ rfl rfl)
  obtain ⟨EE, rfl⟩ := RX.cell_bool Tryz.underlying4 (c2 30 _ _ rfl rfl)
  obtain ⟨ED, rfl⟩ := RX.cell_string Tryz.underlying9 (c2 31 _ _ rfl rfl)
  obtain ⟨EC, rfl⟩ := RX.cell_bool Tryz.underlying4 (c2 32 _ _ rfl rfl)
  obtain ⟨EB, rfl⟩ := RX.cell_string Tryz.underlying9 (c2 33 _ _ rfl rfl)
  obtain ⟨EA, rfl⟩ := RX.cell_bool Tryz.underlying4 (c2 34 _ _ rfl rfl)
  obtain ⟨E9, rfl⟩ := RX.cell_string Tryz.underlying9 (c2 35 _ _ rfl rfl)
  obtain ⟨E8, rfl⟩ := RX.cell_bool Tryz.underlying4 (c2 36 _ _ rfl rfl)
  obtain ⟨E7, rfl⟩ := RX.cell_string Tryz.underlying9 (c2 37 _ _ rfl rfl)
  obtain ⟨E6, rfl⟩ := RX.cell_bool Tryz.underlying4 (c2 38 _ _ rfl rfl)
  obtain ⟨E5, rfl⟩ := RX.cell_string Tryz.underlying9 (c2 39 _ _ rfl rfl)
  have z2_1 := Nat.le_trans (RX.size_le h2 (by simp) hB 8 1 (by kernel_rfl) rfl) (show 1048576 ≤ 8589934592 by decide)
  have z2_3 := Nat.le_trans (RX.size_le h2 (by simp) hB 8 3 (by kernel_rfl) rfl) (show 1048576 ≤ 8589934592 by decide)
  have z2_5 := Nat.le_trans (RX.size_le h2 (by simp) hB 8 5 (by kernel_rfl) rfl) (show 1048576 ≤ 8589934592 by decide)
  have z2_7 := Nat.le_trans (RX.size_le h2 (by simp) hB 8 7 (by kernel_rfl) rfl) (show 1048576 ≤ 8589934592 by decide)
  have z2_9 := Nat.le_trans (RX.size_le h2 (by simp) hB 8 9 (by kernel_rfl) rfl) (show 1048576 ≤ 8589934592 by decide)
  have z2_11 := Nat.le_trans (RX.size_le h2 (by simp) hB 8 11 (by kernel_rfl) rfl) (show 1048576 ≤ 8589934592 by decide)
  have z2_13 := Nat.le_trans (RX.size_le h2 (by simp) hB 8 13 (by kernel_rfl) rfl) (show 1048576 ≤ 8589934592 by decide)
  have z2_15 := Nat.le_trans (RX.size_le h2 (by simp) hB 8 15 (by kernel_rfl) rfl) (show 1048576 ≤ 8589934592 by decide)
  have z2_17 := Nat.le_trans (RX.size_le h2 (by simp) hB 8 17 (by kernel_rfl) rfl) (show 1048576 ≤ 8589934592 by decide)
  have z2_19 := Nat.le_trans (RX.size_le h2 (by simp) hB 8 19 (by kernel_rfl) rfl) (show 1048576 ≤ 8589934592 by decide)
  have z2_21 := Nat.le_trans (RX.size_le h2 (by simp) hB 8 21 (by kernel_rfl) rfl) (show 1048576 ≤ 8589934592 by decide)
  have z2_23 := Nat.le_trans (RX.size_le h2 (by simp) hB 8 23 (by kernel_rfl) rfl) (show 1048576 ≤ 8589934592 by decide)
  have z2_25 := Nat.le_trans (RX.size_le h2 (by simp) hB 8 25 (by kernel_rfl) rfl) (show 1048576 ≤ 8589934592 by decide)
  have z2_27 := Nat.le_trans (RX.size_le h2 (by simp) hB 8 27 (by kernel_rfl) rfl) (show 1048576 ≤ 8589934592 by decide)
  have z2_29 := Nat.le_trans (RX.size_le h2 (by simp) hB 8 29 (by kernel_rfl) rfl) (show 1048576 ≤ 8589934592 by decide)
  have z2_31 := Nat.le_trans (RX.size_le h2 (by simp) hB 8 31 (by kernel_rfl) rfl) (show 1048576 ≤ 8589934592 by decide)
  have z2_33 := Nat.le_trans (RX.size_le h2 (by simp) hB 8 33 (by kernel_rfl) rfl) (show 1048576 ≤ 8589934592 by decide)
  have z2_35 := Nat.le_trans (RX.size_le h2 (by simp) hB 8 35 (by kernel_rfl) rfl) (show 1048576 ≤ 8589934592 by decide)
  have z2_37 := Nat.le_trans (RX.size_le h2 (by simp) hB 8 37 (by kernel_rfl) rfl) (show 1048576 ≤ 8589934592 by decide)
  have z2_39 := Nat.le_trans (RX.size_le h2 (by simp) hB 8 39 (by kernel_rfl) rfl) (show 1048576 ≤ 8589934592 by decide)
  clear hA0 hval0 hsz0
  refine (culetlaw28_DirectionLength.calls A2 A3 A5 A4 BF BE FJ FI FH FG FF FE FD FC EY EX EW EV EU ET ES ER EQ EP EO EN EM EL EK EJ EI EH EG EF EE ED EC EB EA E9 E8 E7 E6 E5 (DirectionLength.law A2 A3 A5 A4 BF BE FJ FI FH FG FF FE FD FC EY EX EW EV EU ET ES ER EQ EP EO EN EM EL EK EJ EI EH EG EF EE ED EC EB EA E9 E8 E7 E6 E5 z2_1 z2_3 z2_5 z2_7 z2_9 z2_11 z2_13 z2_15 z2_17 z2_19 z2_21 z2_23 z2_25 z2_27 z2_29 z2_31 z2_33 z2_35 z2_37 z2_39) W (fun x hx => by cases hx)).mono fun e W' ⟨he, bel⟩ => ?_
  subst he
  exact ⟨_, rfl, _, _, _, [], _, [], hW', trodAll_mk1 (shut_bool Tryz.underlying4 _), (trodAll_cons_mk (Below.trod laidOut (by kernel_rfl) (of_decide_eq_true (by kernel_rfl)) h0 bel lt0) (trodAll_cons_mk (Below.trod laidOut (by kernel_rfl) (of_decide_eq_true (by kernel_rfl)) h1 bel lt1) (trodAll_cons_mk (Below.trod laidOut (by kernel_rfl) (of_decide_eq_true (by kernel_rfl)) h2 bel lt2) trodAll_mk0))), rfl, bel.frame _, fun h => by cases h⟩
theorem over : Rows.DirectionLengthUptoSaid :=
  OpenClaim.holds_of_cond 4 Tryz.f4 rfl rfl rfl rfl rfl rfl rfl ⟨rfl, rfl, rfl, rfl, rfl⟩ rfl rfl rfl rfl rfl (by kernel_rfl) Tryz.func4 (by kernel_rfl)
    (of_decide_eq_true (by kernel_rfl)) (by unfold Func.isWrapper; first | (rw [if_pos (by decide +kernel)]; kernel_rfl) | (rw [if_neg (by decide +kernel)]; exact ⟨rfl, rfl⟩))
    (fun os started H enc _ F => by rw [OpenClaim.pre_eq_preRow]; exact lifted os started H enc F)
theorem card : Rows.DirectionLengthUptoCardSaid :=
  Claim7.holds_tied_plain_at .later [] _ _ _ _ over (fun _ h => by cases h) (by kernel_rfl) (fun _ h => by cases h) directionLengthUpto_row_tie rfl ⟨rfl, rfl⟩ (by kernel_rfl) rfl
    (fun f fn hf hfn => by
      obtain rfl : f = 4 := Option.some.inj ((show Tryz.prog.funcNamed "culet/culetlaw28.DirectionLength" = some 4 by kernel_rfl).symm.trans hf) |>.symm
      obtain rfl : fn = Tryz.f4 := (Option.some.inj (Tryz.func4.symm.trans hfn)).symm
      exact ⟨by kernel_rfl, fun j t ht => by
        rw [Tryz.params4] at ht
        have hm : t ∈ [39, 39, 30] := by simpa using Array.mem_of_getElem? ht
        have hall : ([39, 39, 30].all fun u => !Tryz.prog.wantsStandIn u) = true := by kernel_rfl
        exact (show Tryz.prog.wantsStandIn t = false by simpa using List.all_eq_true.1 hall t hm)⟩)
    (by kernel_rfl)
end Go.Proofs.YtpejalpgficopaaGreatDoor.directionLength
namespace Go.Proofs.YtpejalpgficopaaGreatDoor
/-- The card of the second form, under a short name, for the claim. -/
theorem directionLengthUpto_holds : Rows.DirectionLengthUptoCardSaid := directionLength.card
end Go.Proofs.YtpejalpgficopaaGreatDoor
