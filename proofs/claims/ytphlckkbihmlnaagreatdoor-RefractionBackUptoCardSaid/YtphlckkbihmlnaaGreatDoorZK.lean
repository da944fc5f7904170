/- The tied card of the law RefractionBack, out of its pure law and its run. WRITTEN BY gen.py of this repo. -/
import Derived.Test.YtphlckkbihmlnaaGreatDoorRows
import Derived.Test.YtphlckkbihmlnaaGreatDoorK19
import Derived.Test.YtphlckkbihmlnaaGreatDoorCards
import Derived.Test.YtphlckkbihmlnaaGreatDoorTie
import Derived.LaidMore
import Derived.Lay
import Derived.SevenTiedAt
import Derived.Stop.Joined
import Derived.OpenShut
import Derived.ProofKit
import Derived.Deep.DeepHandedRow
import Derived.Lib.LaidTab
namespace Go.Proofs.YtphlckkbihmlnaaGreatDoor.refractionBack
open Go.ChangeShapes Go.WideShapes Go.ChangeAt Go.RowKit Go.Proofs.YtphlckkbihmlnaaGreatDoor.G
open Go.ChangeMaps (open_string shut_string)
set_option linter.unusedVariables false
theorem own : ownKnob Tryz.prog.godebug = none := by kernel_rfl
theorem OP : laidOutB Tryz.prog = true := by kernel_rfl
/-- The arguments' zero values: an input that fits. -/
def zargs : Array Value := ⟨[.agg ⟨.int .i32 0 :: .int .i32 0 :: []⟩, .agg ⟨.bool false :: .string ⟨#[]⟩ :: .bool false :: .string ⟨#[]⟩ :: .bool false :: .string ⟨#[]⟩ :: .bool false :: .string ⟨#[]⟩ :: .bool false :: .string ⟨#[]⟩ :: .bool false :: .string ⟨#[]⟩ :: .bool false :: .string ⟨#[]⟩ :: .bool false :: .string ⟨#[]⟩ :: .bool false :: .string ⟨#[]⟩ :: .bool false :: .string ⟨#[]⟩ :: .bool false :: .string ⟨#[]⟩ :: .bool false :: .string ⟨#[]⟩ :: .bool false :: .string ⟨#[]⟩ :: .bool false :: .string ⟨#[]⟩ :: .bool false :: .string ⟨#[]⟩ :: .bool false :: .string ⟨#[]⟩ :: .bool false :: .string ⟨#[]⟩ :: .bool false :: .string ⟨#[]⟩ :: .bool false :: .string ⟨#[]⟩ :: .bool false :: .string ⟨#[]⟩ :: []⟩, .agg ⟨.int .i64 0 :: .int .i64 0 :: []⟩]⟩
theorem Sz (os : Os) : laidMet Tryz.prog Rows.refractionBackUptoRow.laid ((World.laidAll Tryz.prog os Rows.refractionBackUptoRow.laid).forCall (fun _ _ => 0) ⟨#[], zargs, []⟩).memory := laidMet_laidAll _ (by kernel_rfl) (by kernel_rfl)
theorem reads (os : Os) {H : Type} (enc : TypeId × Value → H) : ∃ ds places, DataW.whole enc Tryz.prog ((World.laidAll Tryz.prog os Rows.refractionBackUptoRow.laid).forCall (fun _ _ => 0) ⟨#[], zargs, []⟩).memory Tryz.f3.params.toList Rows.refractionBackSpec.vars false zargs.toList 8 = some (ds, [], places) ∧ Rows.uptoSmall H (ds ++ []) = true := ⟨[.agg [.lit (.int .i32 0), .lit (.int .i32 0)], .agg [.agg [.agg [.agg [.agg [.lit (.bool false), .lit (.string [])], .agg [.lit (.bool false), .lit (.string [])], .agg [.lit (.bool false), .lit (.string [])], .agg [.lit (.bool false), .lit (.string [])]], .agg [.lit (.bool false), .lit (.string [])]], .agg [.agg [.agg [.lit (.bool false), .lit (.string [])], .agg [.lit (.bool false), .lit (.string [])], .agg [.lit (.bool false), .lit (.string [])], .agg [.lit (.bool false), .lit (.string [])]], .agg [.lit (.bool false), .lit (.string [])]], .agg [.agg [.agg [.lit (.bool false), .lit (.string [])], .agg [.lit (.bool false), .lit (.string [])], .agg [.lit (.bool false), .lit (.string [])], .agg [.lit (.bool false), .lit (.string [])]], .agg [.lit (.bool false), .lit (.string [])]]], .agg [.agg [.agg [.lit (.bool false), .lit (.string [])], .agg [.lit (.bool false), .lit (.string [])], .agg [.lit (.bool false), .lit (.string [])], .agg [.lit (.bool false), .lit (.string [])]], .agg [.lit (.bool false), .lit (.string [])]]], .agg [.lit (.int .i64 0), .lit (.int .i64 0)]], [], by kernel_rfl, by kernel_rfl⟩
set_option maxRecDepth 100000 in
theorem lifted (os : Os) (started : os.Started) (H : Type) (enc : TypeId × Value → H) (F : Stop.Interp) :
    ReturnsInHanded {} Tryz.checked os 3 .any ((Rows.OpenSpec.upto Rows.refractionBackSpec).preRow enc Tryz.prog Tryz.f3 Rows.refractionBackUptoRow.domain false Rows.refractionBackUptoRow.laid) (((Rows.OpenSpec.upto Rows.refractionBackSpec).at F).post enc Tryz.prog Tryz.f3 false true false false) := by
  obtain ⟨ds0, places, hx, hk0⟩ := reads os enc
  refine returnsInHanded_of_row (C := Tryz.checked) (s := (Rows.OpenSpec.upto Rows.refractionBackSpec)) own started (by kernel_rfl) Tryz.func3
    (witness_row_at (enc := enc) (C := Tryz.checked) false (World.laidAll Tryz.prog os Rows.refractionBackUptoRow.laid) zargs (World.laidAll_os _ _ _) (by kernel_rfl) (by kernel_rfl) (by kernel_rfl)
      (OpenSpec.preRow_of_cond 8 hx (by kernel_rfl) (fun k hk => by cases hk; exact hk0) (by kernel_rfl) (Sz os))) ?_
  intro W base args ds gs before hval0 hW hcnd hcond hsz0 hL _ _
  have hk := hcond _ rfl
  have hval : ∀ (j : Nat) t v, Tryz.f3.params[j]? = some t → args[j]? = some v → Value.okWide Tryz.prog W .any base t v := hval0
  have hW' := hW
  obtain ⟨p, q, hA0, hV, rfl, hfz, hnd⟩ := hW
  have hA : DataW.TrodAll enc Tryz.prog W 0 (fun _ => true) true Tryz.f3.params.toList args.toList ds p := hA0
  rw [Tryz.params3] at hA hval
  obtain ⟨v0, vs0, d0, ds0, p0, q0, hargs, rfl, rfl, h0, r0⟩ := trodAll_cons hA
  obtain ⟨v1, vs1, d1, ds1, p1, q1, rfl, rfl, rfl, h1, r1⟩ := trodAll_cons r0
  obtain ⟨v2, vs2, d2, ds2, p2, q2, rfl, rfl, rfl, h2, r2⟩ := trodAll_cons r1
  obtain ⟨rfl, rfl, rfl⟩ := trodAll_nil r2
  obtain rfl : args = #[v0, v1, v2] := by cases args; simp_all
  obtain ⟨rfl, rfl⟩ := trodVars_none hV
  have hB := of_decide_eq_true hk
  rw [List.append_nil] at hB
  have lt0 := RX.trod_lt h0
  obtain ⟨x0, rfl, n0_0, c0⟩ := RX.okWide_agg (ts := [21, 21]) (by kernel_rfl) (by kernel_rfl) (by kernel_rfl) (hval 0 22 v0 rfl rfl)
  obtain ⟨y0_0, x0, rfl, n0_1⟩ := RX.len_succ n0_0
  obtain ⟨y0_1, x0, rfl, n0_2⟩ := RX.len_succ n0_1
  obtain rfl := RX.len_zero n0_2
  obtain ⟨a0_0, rfl, w0_0⟩ := RX.cell_int Tryz.underlying21 (c0 0 _ _ rfl rfl)
  obtain ⟨a0_1, rfl, w0_1⟩ := RX.cell_int Tryz.underlying21 (c0 1 _ _ rfl rfl)
  have lt1 := RX.trod_lt h1
  obtain ⟨x1, rfl, n1_0, c1⟩ := RX.okWide_agg (ts := [4, 9, 4, 9, 4, 9, 4, 9, 4, 9, 4, 9, 4, 9, 4, 9, 4, 9, 4, 9, 4, 9, 4, 9, 4, 9, 4, 9, 4, 9, 4, 9, 4, 9, 4, 9, 4, 9, 4, 9]) (by kernel_rfl) (by kernel_rfl) (by kernel_rfl) (hval 1 31 v1 rfl rfl)
  obtain ⟨y1_0, x1, rfl, n1_1⟩ := RX.len_succ n1_0
  obtain ⟨y1_1, x1, rfl, n1_2⟩ := RX.len_succ n1_1
  obtain ⟨y1_2, x1, rfl, n1_3⟩ := RX.len_succ n1_2
  obtain ⟨y1_3, x1, rfl, n1_4⟩ := RX.len_succ n1_3
  obtain ⟨y1_4, x1, rfl, n1_5⟩ := RX.len_succ n1_4
  obtain ⟨y1_5, x1, rfl, n1_6⟩ := RX.len_succ n1_5
  obtain ⟨y1_6, x1, rfl, n1_7⟩ := RX.len_succ n1_6
  obtain ⟨y1_7, x1, rfl, n1_8⟩ := RX.len_succ n1_7
  obtain ⟨y1_8, x1, rfl, n1_9⟩ := RX.len_succ n1_8
  obtain ⟨y1_9, x1, rfl, n1_10⟩ := RX.len_succ n1_9
  obtain ⟨y1_10, x1, rfl, n1_11⟩ := RX.len_succ n1_10
  obtain ⟨y1_11, x1, rfl, n1_12⟩ := RX.len_succ n1_11
  obtain ⟨y1_12, x1, rfl, n1_13⟩ := RX.len_succ n1_12
  obtain ⟨y1_13, x1, rfl, n1_14⟩ := RX.len_succ n1_13
  obtain ⟨y1_14, x1, rfl, n1_15⟩ := RX.len_succ n1_14
  obtain ⟨y1_15, x1, rfl, n1_16⟩ := RX.len_succ n1_15
  obtain ⟨y1_16, x1, rfl, n1_17⟩ := RX.len_succ n1_16
  obtain ⟨y1_17, x1, rfl, n1_18⟩ := RX.len_succ n1_17
  obtain ⟨y1_18, x1, rfl, n1_19⟩ := RX.len_succ n1_18
  obtain ⟨y1_19, x1, rfl, n1_20⟩ := RX.len_succ n1_19
  obtain ⟨y1_20, x1, rfl, n1_21⟩ := RX.len_succ n1_20
  obtain ⟨y1_21, x1, rfl, n1_22⟩ := RX.len_succ n1_21
  obtain ⟨y1_22, x1, rfl, n1_23⟩ := RX.len_succ n1_22
  obtain ⟨y1_23, x1, rfl, n1_24⟩ := RX.len_succ n1_23
  obtain ⟨y1_24, x1, rfl, n1_25⟩ := RX.len_succ n1_24
  obtain ⟨y1_25, x1, rfl, n1_26⟩ := RX.len_succ n1_25
  obtain ⟨y1_26, x1, rfl, n1_27⟩ := RX.len_succ n1_26
  obtain ⟨y1_27, x1, rfl, n1_28⟩ := RX.len_succ n1_27
  obtain ⟨y1_28, x1, rfl, n1_29⟩ := RX.len_succ n1_28
  obtain ⟨y1_29, x1, rfl, n1_30⟩ := RX.len_succ n1_29
  obtain ⟨y1_30, x1, rfl, n1_31⟩ := RX.len_succ n1_30
  obtain ⟨y1_31, x1, rfl, n1_32⟩ := RX.len_succ n1_31
  obtain ⟨y1_32, x1, rfl, n1_33⟩ := RX.len_succ n1_32
  obtain ⟨y1_33, x1, rfl, n1_34⟩ := RX.len_succ n1_33
  obtain ⟨y1_34, x1, rfl, n1_35⟩ := RX.len_succ n1_34
  obtain ⟨y1_35, x1, rfl, n1_36⟩ := RX.len_succ n1_35
  obtain ⟨y1_36, x1, rfl, n1_37⟩ := RX.len_succ n1_36
  obtain ⟨y1_37, x1, rfl, n1_38⟩ := RX.len_succ n1_37
  obtain ⟨y1_38, x1, rfl, n1_39⟩ := RX.len_succ n1_38
  obtain ⟨y1_39, x1, rfl, n1_40⟩ := RX.len_succ n1_39
  obtain rfl := RX.len_zero n1_40
  obtain ⟨a1_0, rfl⟩ := RX.cell_bool Tryz.underlying4 (c1 0 _ _ rfl rfl)
  obtain ⟨a1_1, rfl⟩ := RX.cell_string Tryz.underlying9 (c1 1 _ _ rfl rfl)
  obtain ⟨a1_2, rfl⟩ := RX.cell_bool Tryz.underlying4 (c1 2 _ _ rfl rfl)
  obtain ⟨a1_3, rfl⟩ := RX.cell_string Tryz.underlying9 (c1 3 _ _ rfl rfl)
  obtain ⟨a1_4, rfl⟩ := RX.cell_bool Tryz.underlying4 (c1 4 _ _ rfl rfl)
  obtain ⟨a1_5, rfl⟩ := RX.cell_string Tryz.underlying9 (c1 5 _ _ rfl rfl)
  obtain ⟨a1_6, rfl⟩ := RX.cell_bool Tryz.underlying4 (c1 6 _ _ rfl rfl)
  obtain ⟨a1_7, rfl⟩ := RX.cell_string Tryz.underlying9 (c1 7 _ _ rfl rfl)
  obtain ⟨a1_8, rfl⟩ := RX.cell_bool Tryz.underlying4 (c1 8 _ _ rfl rfl)
  obtain ⟨a1_9, rfl⟩ := RX.cell_string Tryz.underlying9 (c1 9 _ _ rfl rfl)
  obtain ⟨a1_10, rfl⟩ := RX.cell_bool Tryz.underlying4 (c1 10 _ _ rfl rfl)
  obtain ⟨a1_11, rfl⟩ := RX.cell_string Tryz.underlying9 (c1 11 _ _ rfl rfl)
  obtain ⟨a1_12, rfl⟩ := RX.cell_bool Tryz.underlying4 (c1 12 _ _ rfl rfl)
  obtain ⟨a1_13, rfl⟩ := RX.cell_string Tryz.underlying9 (c1 13 _ _ rfl rfl)
  obtain ⟨a1_14, rfl⟩ := RX.cell_bool Tryz.underlying4 (c1 14 _ _ rfl rfl)
  obtain ⟨a1_15, rfl⟩ := RX.cell_string Tryz.underlying9 (c1 15 _ _ rfl rfl)
  obtain ⟨a1_16, rfl⟩ := RX.cell_bool Tryz.underlying4 (c1 16 _ _ rfl rfl)
  obtain ⟨a1_17, rfl⟩ := RX.cell_string Tryz.underlying9 (c1 17 _ _ rfl rfl)
  obtain ⟨a1_18, rfl⟩ := RX.cell_bool Tryz.underlying4 (c1 18 _ _ rfl rfl)
  obtain ⟨a1_19, rfl⟩ := RX.cell_string Tryz.underlying9 (c1 19 _ _ rfl rfl)
  obtain ⟨a1_20, rfl⟩ := RX.cell_bool Tryz.underlying4 (c1 20 _ _ rfl rfl)
  obtain ⟨a1_21, rfl⟩ := RX.cell_string Tryz.underlying9 (c1 21 _ _ rfl rfl)
  obtain ⟨a1_22, rfl⟩ := RX.cell_bool Tryz.underlying4 (c1 22 _ _ rfl rfl)
  obtain ⟨a1_23, rfl⟩ := RX.cell_string Tryz.underlying9 (c1 23 _ _ rfl rfl)
  obtain ⟨a1_24, rfl⟩ := RX.cell_bool Tryz.underlying4 (c1 24 _ _ rfl rfl)
  obtain ⟨a1_25, rfl⟩ := RX.cell_string Tryz.underlying9 (c1 25 _ _ rfl rfl)
  obtain ⟨a1_26, rfl⟩ := RX.cell_bool Tryz.underlying4 (c1 26 _ _ rfl rfl)
  obtain ⟨a1_27, rfl⟩ := RX.cell_string Tryz.underlying9 (c1 27 _ _ rfl rfl)
  obtain ⟨a1_28, rfl⟩ := RX.cell_bool Tryz.underlying4 (c1 28 _ _ rfl rfl)
  obtain ⟨a1_29, rfl⟩ := RX.cell_string Tryz.underlying9 (c1 29 _ _ rfl rfl)
  obtain ⟨a1_30, rfl⟩ := RX.cell_bool Tryz.underlying4 (c1 30 _ _ rfl rfl)
  obtain ⟨a1_31, rfl⟩ := RX.cell_string Tryz.underlying9 (c1 31 _ _ rfl rfl)
  obtain ⟨a1_32, rfl⟩ := RX.cell_bool Tryz.underlying4 (c1 32 _ _ rfl rfl)
  obtain ⟨a1_33, rfl⟩ := RX.cell_string Tryz.underlying9 (c1 33 _ _ rfl rfl)
  obtain ⟨a1_34, rfl⟩ := RX.cell_bool Tryz.underlying4 (c1 34 _ _ rfl rfl)
  obtain ⟨a1_35, rfl⟩ := RX.cell_string Tryz.underlying9 (c1 35 _ _ rfl rfl)
  obtain ⟨a1_36, rfl⟩ := RX.cell_bool Tryz.underlying4 (c1 36 _ _ rfl rfl)
  obtain ⟨a1_37, rfl⟩ := RX.cell_string Tryz.underlying9 (c1 37 _ _ rfl rfl)
  obtain ⟨a1_38, rfl⟩ := RX.cell_bool Tryz.underlying4 (c1 38 _ _ rfl rfl)
  obtain ⟨a1_39, rfl⟩ := RX.cell_string Tryz.underlying9 (c1 39 _ _ rfl rfl)
  have lt2 := RX.trod_lt h2
  obtain ⟨x2, rfl, n2_0, c2⟩ := RX.okWide_agg (ts := [3, 3]) (by kernel_rfl) (by kernel_rfl) (by kernel_rfl) (hval 2 33 v2 rfl rfl)
  obtain ⟨y2_0, x2, rfl, n2_1⟩ := RX.len_succ n2_0
  obtain ⟨y2_1, x2, rfl, n2_2⟩ := RX.len_succ n2_1
  obtain rfl := RX.len_zero n2_2
  obtain ⟨a2_0, rfl, w2_0⟩ := RX.cell_int Tryz.underlying3 (c2 0 _ _ rfl rfl)
  obtain ⟨a2_1, rfl, w2_1⟩ := RX.cell_int Tryz.underlying3 (c2 1 _ _ rfl rfl)
  have z1_1 := Nat.le_trans (RX.size_le h1 (by simp) hB 8 1 (by kernel_rfl) rfl) (show 1048576 ≤ 8589934592 by decide)
  have z1_3 := Nat.le_trans (RX.size_le h1 (by simp) hB 8 3 (by kernel_rfl) rfl) (show 1048576 ≤ 8589934592 by decide)
  have z1_5 := Nat.le_trans (RX.size_le h1 (by simp) hB 8 5 (by kernel_rfl) rfl) (show 1048576 ≤ 8589934592 by decide)
  have z1_7 := Nat.le_trans (RX.size_le h1 (by simp) hB 8 7 (by kernel_rfl) rfl) (show 1048576 ≤ 8589934592 by decide)
  have z1_9 := Nat.le_trans (RX.size_le h1 (by simp) hB 8 9 (by kernel_rfl) rfl) (show 1048576 ≤ 8589934592 by decide)
  have z1_11 := Nat.le_trans (RX.size_le h1 (by simp) hB 8 11 (by kernel_rfl) rfl) (show 1048576 ≤ 8589934592 by decide)
  have z1_13 := Nat.le_trans (RX.size_le h1 (by simp) hB 8 13 (by kernel_rfl) rfl) (show 1048576 ≤ 8589934592 by decide)
  have z1_15 := Nat.le_trans (RX.size_le h1 (by simp) hB 8 15 (by kernel_rfl) rfl) (show 1048576 ≤ 8589934592 by decide)
  have z1_17 := Nat.le_trans (RX.size_le h1 (by simp) hB 8 17 (by kernel_rfl) rfl) (show 1048576 ≤ 8589934592 by decide)
  have z1_19 := Nat.le_trans (RX.size_le h1 (by simp) hB 8 19 (by kernel_rfl) rfl) (show 1048576 ≤ 8589934592 by decide)
  have z1_21 := Nat.le_trans (RX.size_le h1 (by simp) hB 8 21 (by kernel_rfl) rfl) (show 1048576 ≤ 8589934592 by decide)
  have z1_23 := Nat.le_trans (RX.size_le h1 (by simp) hB 8 23 (by kernel_rfl) rfl) (show 1048576 ≤ 8589934592 by decide)
  have z1_25 := Nat.le_trans (RX.size_le h1 (by simp) hB 8 25 (by kernel_rfl) rfl) (show 1048576 ≤ 8589934592 by decide)
  have z1_27 := Nat.le_trans (RX.size_le h1 (by simp) hB 8 27 (by kernel_rfl) rfl) (show 1048576 ≤ 8589934592 by decide)
  have z1_29 := Nat.le_trans (RX.size_le h1 (by simp) hB 8 29 (by kernel_rfl) rfl) (show 1048576 ≤ 8589934592 by decide)
  have z1_31 := Nat.le_trans (RX.size_le h1 (by simp) hB 8 31 (by kernel_rfl) rfl) (show 1048576 ≤ 8589934592 by decide)
  have z1_33 := Nat.le_trans (RX.size_le h1 (by simp) hB 8 33 (by kernel_rfl) rfl) (show 1048576 ≤ 8589934592 by decide)
  have z1_35 := Nat.le_trans (RX.size_le h1 (by simp) hB 8 35 (by kernel_rfl) rfl) (show 1048576 ≤ 8589934592 by decide)
  have z1_37 := Nat.le_trans (RX.size_le h1 (by simp) hB 8 37 (by kernel_rfl) rfl) (show 1048576 ≤ 8589934592 by decide)
  have z1_39 := Nat.le_trans (RX.size_le h1 (by simp) hB 8 39 (by kernel_rfl) rfl) (show 1048576 ≤ 8589934592 by decide)
  clear hA0 hval0 hsz0
  refine (Cv.calls a0_0 a0_1 a1_0 a1_1 a1_2 a1_3 a1_4 a1_5 a1_6 a1_7 a1_8 a1_9 a1_10 a1_11 a1_12 a1_13 a1_14 a1_15 a1_16 a1_17 a1_18 a1_19 a1_20 a1_21 a1_22 a1_23 a1_24 a1_25 a1_26 a1_27 a1_28 a1_29 a1_30 a1_31 a1_32 a1_33 a1_34 a1_35 a1_36 a1_37 a1_38 a1_39 a2_0 a2_1 (RefractionBack.law a0_0 a0_1 a1_0 a1_1 a1_2 a1_3 a1_4 a1_5 a1_6 a1_7 a1_8 a1_9 a1_10 a1_11 a1_12 a1_13 a1_14 a1_15 a1_16 a1_17 a1_18 a1_19 a1_20 a1_21 a1_22 a1_23 a1_24 a1_25 a1_26 a1_27 a1_28 a1_29 a1_30 a1_31 a1_32 a1_33 a1_34 a1_35 a1_36 a1_37 a1_38 a1_39 a2_0 a2_1 z1_1 z1_3 z1_5 z1_7 z1_9 z1_11 z1_13 z1_15 z1_17 z1_19 z1_21 z1_23 z1_25 z1_27 z1_29 z1_31 z1_33 z1_35 z1_37 z1_39) W (fun x hx => by cases hx)).mono fun e W' ⟨he, bel⟩ => ?_
  subst he
  exact ⟨_, rfl, _, _, _, [], _, [], hW', trodAll_mk1 (shut_bool Tryz.underlying4 _), (trodAll_cons_mk (Below.trod OP (by kernel_rfl) (of_decide_eq_true (by kernel_rfl)) h0 bel lt0) (trodAll_cons_mk (Below.trod OP (by kernel_rfl) (of_decide_eq_true (by kernel_rfl)) h1 bel lt1) (trodAll_cons_mk (Below.trod OP (by kernel_rfl) (of_decide_eq_true (by kernel_rfl)) h2 bel lt2) trodAll_mk0))), rfl, bel.frame _, fun h => by cases h⟩
theorem over : Rows.RefractionBackUptoSaid :=
  OpenClaim.holds_of_cond 3 Tryz.f3 rfl rfl rfl rfl rfl rfl rfl ⟨rfl, rfl, rfl, rfl, rfl⟩ rfl rfl rfl rfl rfl (by kernel_rfl) Tryz.func3 (by kernel_rfl)
    (of_decide_eq_true (by kernel_rfl)) (by unfold Func.isWrapper; first | (rw [if_pos (by decide +kernel)]; kernel_rfl) | (rw [if_neg (by decide +kernel)]; exact ⟨rfl, rfl⟩))
    (fun os started H enc _ F => by rw [OpenClaim.pre_eq_preRow]; exact lifted os started H enc F)
theorem card : Rows.RefractionBackUptoCardSaid :=
  Claim7.holds_tied_plain_at .later [] _ _ _ _ over (fun _ h => by cases h) (by kernel_rfl) (fun _ h => by cases h) refractionBackUpto_row_tie rfl ⟨rfl, rfl⟩ (by kernel_rfl) rfl
    (fun f fn hf hfn => by
      obtain rfl : f = 3 := Option.some.inj ((show Tryz.prog.funcNamed "culet/culetlaw29.RefractionBack" = some 3 by kernel_rfl).symm.trans hf) |>.symm
      obtain rfl : fn = Tryz.f3 := (Option.some.inj (Tryz.func3.symm.trans hfn)).symm
      exact ⟨by kernel_rfl, fun j t ht => by
        rw [Tryz.params3] at ht
        have hm : t ∈ [22, 31, 33] := by simpa using Array.mem_of_getElem? ht
        have hall : ([22, 31, 33].all fun u => !Tryz.prog.wantsStandIn u) = true := by kernel_rfl
        exact (show Tryz.prog.wantsStandIn t = false by simpa using List.all_eq_true.1 hall t hm)⟩)
    (by kernel_rfl)
end Go.Proofs.YtphlckkbihmlnaaGreatDoor.refractionBack
namespace Go.Proofs.YtphlckkbihmlnaaGreatDoor
/-- The card of the second form, under a short name, for the claim. -/
theorem refractionBackUpto_holds : Rows.RefractionBackUptoCardSaid := refractionBack.card
end Go.Proofs.YtphlckkbihmlnaaGreatDoor
