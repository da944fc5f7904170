/- Chapter 27's example: what some functions come to at its known arguments. WRITTEN BY mkawk27.py of this repo. -/
import Derived.Test.YtpghmdjjkpjnfaaDoorS
import Derived.Test.YtpghmdjjkpjnfaaDoorExt
namespace Go.Proofs.YtpghmdjjkpjnfaaDoor.G
open Go Go.Proofs Go.RowKit RX
set_option linter.unusedVariables false
theorem str_eq {s : ByteArray} {l : List UInt8} (h : (s.data.toList == l) = true) : s = ⟨⟨l⟩⟩ := by
  obtain ⟨⟨m⟩⟩ := s
  have : m = l := by simpa using h
  rw [this]
theorem int_eq {x n : Int} (h : (x == n) = true) : x = n := by simpa using h
theorem bool_eq {x n : Bool} (h : (x == n) = true) : x = n := by simpa using h

def awk_of.sp : HSpec
  | [.string s], [] => bif (s.data.toList == [1]) then some (true, .slice (some ⟨0, 0, none⟩) 1 1, [.cs [.int .u32 1] 35]) else bif (s.data.toList == [3]) then some (true, .slice (some ⟨0, 0, none⟩) 1 1, [.cs [.int .u32 3] 35]) else bif (s.data.toList == [1, 0, 0, 0]) then some (true, .slice (some ⟨0, 0, none⟩) 1 1, [.cs [.int .u32 16777216] 35]) else none
  | _, _ => none
set_option maxRecDepth 100000 in
theorem awk_of.ok : SOK Tryd.prog 54 awk_of.sp := by
  refine sok_ofN (E := ⟨[(40, interval_extremes.sp)], [(60, Tryd.f60), (60, Tryd.f60)]⟩) (L := []) ⟨(specs_cons interval_extremes.ok specs_nil), (inl_cons ⟨Tryd.func60, by decide, rfl⟩ (inl_cons ⟨Tryd.func60, by decide, rfl⟩ inl_nil)), mixed_ok⟩ 40 Tryd.func54 (by decide) rfl no_loops fun vs bl v bl' h => ?_
  unfold awk_of.sp at h
  split at h
  · rename_i s
    cases h1 : ((s.data.toList == [1])) with
    | true =>
      rw [h1] at h
      simp only [cond_true, Option.some.injEq, Prod.mk.injEq, true_and] at h
      obtain ⟨rfl, rfl⟩ := h
      have e0 := str_eq h1
      subst e0
      exact ⟨[80], by kernel_rfl, by simp [okV, Nat.blt], by decide, told_blk (by kernel_rfl), by decide, by decide⟩
    | false =>
      rw [h1] at h
      simp only [cond_false] at h
      cases h1 : ((s.data.toList == [3])) with
      | true =>
        rw [h1] at h
        simp only [cond_true, Option.some.injEq, Prod.mk.injEq, true_and] at h
        obtain ⟨rfl, rfl⟩ := h
        have e0 := str_eq h1
        subst e0
        exact ⟨[80], by kernel_rfl, by simp [okV, Nat.blt], by decide, told_blk (by kernel_rfl), by decide, by decide⟩
      | false =>
        rw [h1] at h
        simp only [cond_false] at h
        cases h1 : ((s.data.toList == [1, 0, 0, 0])) with
        | true =>
          rw [h1] at h
          simp only [cond_true, Option.some.injEq, Prod.mk.injEq, true_and] at h
          obtain ⟨rfl, rfl⟩ := h
          have e0 := str_eq h1
          subst e0
          exact ⟨[80], by kernel_rfl, by simp [okV, Nat.blt], by decide, told_blk (by kernel_rfl), by decide, by decide⟩
        | false =>
          rw [h1] at h
          simp only [cond_false] at h
          cases h
  · cases h

def awk_mul.sp : HSpec
  | [.slice (some ⟨0, 0, none⟩) 1 1, .slice (some ⟨1, 0, none⟩) 1 1], [.cs [.int .u32 a] 35, .cs [.int .u32 b] 35] => bif (a == 1) && (b == 16777216) then some (true, .slice (some ⟨2, 0, none⟩) 1 3, [.cs [.int .u32 1] 35, .cs [.int .u32 16777216] 35, .cs [.int .u32 16777216, .int .u32 0, .int .u32 0] 35]) else bif (a == 3) && (b == 16777216) then some (true, .slice (some ⟨2, 0, none⟩) 1 3, [.cs [.int .u32 3] 35, .cs [.int .u32 16777216] 35, .cs [.int .u32 50331648, .int .u32 0, .int .u32 0] 35]) else none
  | _, _ => none
set_option maxRecDepth 100000 in
theorem awk_mul.ok : SOK Tryd.prog 55 awk_mul.sp := by
  refine sok_ofN (E := ⟨[(40, interval_extremes.sp), (54, awk_of.sp)], [(60, Tryd.f60), (60, Tryd.f60), (61, Tryd.f61), (64, Tryd.f64), (65, Tryd.f65)]⟩) (L := []) ⟨(specs_cons interval_extremes.ok (specs_cons awk_of.ok specs_nil)), (inl_cons ⟨Tryd.func60, by decide, rfl⟩ (inl_cons ⟨Tryd.func60, by decide, rfl⟩ (inl_cons ⟨Tryd.func61, by decide, rfl⟩ (inl_cons ⟨Tryd.func64, by decide, rfl⟩ (inl_cons ⟨Tryd.func65, by decide, rfl⟩ inl_nil))))), mixed_ok⟩ 40 Tryd.func55 (by decide) rfl no_loops fun vs bl v bl' h => ?_
  unfold awk_mul.sp at h
  split at h
  · rename_i a b
    cases h1 : ((a == 1) && (b == 16777216)) with
    | true =>
      rw [h1] at h
      simp only [cond_true, Option.some.injEq, Prod.mk.injEq, true_and] at h
      obtain ⟨rfl, rfl⟩ := h
      simp only [Bool.and_eq_true] at h1
      have e0 := int_eq h1.1
      have e1 := int_eq h1.2
      subst e0
      subst e1
      exact ⟨[114], by kernel_rfl, by simp [okV, Nat.blt], by decide, told_blk (by kernel_rfl), by decide, by decide⟩
    | false =>
      rw [h1] at h
      simp only [cond_false] at h
      cases h1 : ((a == 3) && (b == 16777216)) with
      | true =>
        rw [h1] at h
        simp only [cond_true, Option.some.injEq, Prod.mk.injEq, true_and] at h
        obtain ⟨rfl, rfl⟩ := h
        simp only [Bool.and_eq_true] at h1
        have e0 := int_eq h1.1
        have e1 := int_eq h1.2
        subst e0
        subst e1
        exact ⟨[114], by kernel_rfl, by simp [okV, Nat.blt], by decide, told_blk (by kernel_rfl), by decide, by decide⟩
      | false =>
        rw [h1] at h
        simp only [cond_false] at h
        cases h
  · cases h

def awk_with.sp : HSpec
  | [.slice (some ⟨0, 0, none⟩) 1 3, .bool b], [.cs [.int .u32 a, .int .u32 0, .int .u32 0] 35] => bif (a == 16777216) && (b == false) then some (true, .agg ⟨[.bool false, .string ⟨⟨[1, 0, 0, 0]⟩⟩]⟩, [.cs [.int .u32 16777216, .int .u32 0, .int .u32 0] 35]) else bif (a == 50331648) && (b == false) then some (true, .agg ⟨[.bool false, .string ⟨⟨[3, 0, 0, 0]⟩⟩]⟩, [.cs [.int .u32 50331648, .int .u32 0, .int .u32 0] 35]) else none
  | [.slice (some ⟨0, 0, none⟩) 1 2, .bool b], [.cs [.int .u32 a, .int .u32 0] 35] => bif (a == 1) && (b == false) then some (true, .agg ⟨[.bool false, .string ⟨⟨[1]⟩⟩]⟩, [.cs [.int .u32 1, .int .u32 0] 35]) else bif (a == 3) && (b == false) then some (true, .agg ⟨[.bool false, .string ⟨⟨[3]⟩⟩]⟩, [.cs [.int .u32 3, .int .u32 0] 35]) else bif (a == 16777216) && (b == false) then some (true, .agg ⟨[.bool false, .string ⟨⟨[1, 0, 0, 0]⟩⟩]⟩, [.cs [.int .u32 16777216, .int .u32 0] 35]) else none
  | _, _ => none
set_option maxRecDepth 100000 in
theorem awk_with.ok : SOK Tryd.prog 56 awk_with.sp := by
  refine sok_of (E := ⟨[(40, interval_extremes.sp), (54, awk_of.sp), (55, awk_mul.sp)], [(62, Tryd.f62), (62, Tryd.f62), (66, Tryd.f66), (71, Tryd.f71)]⟩) (L := []) ⟨(specs_cons interval_extremes.ok (specs_cons awk_of.ok (specs_cons awk_mul.ok specs_nil))), (inl_cons ⟨Tryd.func62, by decide, rfl⟩ (inl_cons ⟨Tryd.func62, by decide, rfl⟩ (inl_cons ⟨Tryd.func66, by decide, rfl⟩ (inl_cons ⟨Tryd.func71, by decide, rfl⟩ inl_nil)))), mixed_ok⟩ 40 Tryd.func56 (by decide) rfl no_loops fun vs bl v bl' h => ?_
  unfold awk_with.sp at h
  split at h
  · rename_i b a
    cases h1 : ((a == 16777216) && (b == false)) with
    | true =>
      rw [h1] at h
      simp only [cond_true, Option.some.injEq, Prod.mk.injEq, true_and] at h
      obtain ⟨rfl, rfl⟩ := h
      simp only [Bool.and_eq_true] at h1
      have e0 := int_eq h1.1
      have e1 := bool_eq h1.2
      subst e0
      subst e1
      exact ⟨by kernel_rfl, by simp [okV, Nat.blt], clo_spec 8 _ (by kernel_rfl), told_blk (by kernel_rfl)⟩
    | false =>
      rw [h1] at h
      simp only [cond_false] at h
      cases h1 : ((a == 50331648) && (b == false)) with
      | true =>
        rw [h1] at h
        simp only [cond_true, Option.some.injEq, Prod.mk.injEq, true_and] at h
        obtain ⟨rfl, rfl⟩ := h
        simp only [Bool.and_eq_true] at h1
        have e0 := int_eq h1.1
        have e1 := bool_eq h1.2
        subst e0
        subst e1
        exact ⟨by kernel_rfl, by simp [okV, Nat.blt], clo_spec 8 _ (by kernel_rfl), told_blk (by kernel_rfl)⟩
      | false =>
        rw [h1] at h
        simp only [cond_false] at h
        cases h
  · rename_i b a
    cases h1 : ((a == 1) && (b == false)) with
    | true =>
      rw [h1] at h
      simp only [cond_true, Option.some.injEq, Prod.mk.injEq, true_and] at h
      obtain ⟨rfl, rfl⟩ := h
      simp only [Bool.and_eq_true] at h1
      have e0 := int_eq h1.1
      have e1 := bool_eq h1.2
      subst e0
      subst e1
      exact ⟨by kernel_rfl, by simp [okV, Nat.blt], clo_spec 8 _ (by kernel_rfl), told_blk (by kernel_rfl)⟩
    | false =>
      rw [h1] at h
      simp only [cond_false] at h
      cases h1 : ((a == 3) && (b == false)) with
      | true =>
        rw [h1] at h
        simp only [cond_true, Option.some.injEq, Prod.mk.injEq, true_and] at h
        obtain ⟨rfl, rfl⟩ := h
        simp only [Bool.and_eq_true] at h1
        have e0 := int_eq h1.1
        have e1 := bool_eq h1.2
        subst e0
        subst e1
        exact ⟨by kernel_rfl, by simp [okV, Nat.blt], clo_spec 8 _ (by kernel_rfl), told_blk (by kernel_rfl)⟩
      | false =>
        rw [h1] at h
        simp only [cond_false] at h
        cases h1 : ((a == 16777216) && (b == false)) with
        | true =>
          rw [h1] at h
          simp only [cond_true, Option.some.injEq, Prod.mk.injEq, true_and] at h
          obtain ⟨rfl, rfl⟩ := h
          simp only [Bool.and_eq_true] at h1
          have e0 := int_eq h1.1
          have e1 := bool_eq h1.2
          subst e0
          subst e1
          exact ⟨by kernel_rfl, by simp [okV, Nat.blt], clo_spec 8 _ (by kernel_rfl), told_blk (by kernel_rfl)⟩
        | false =>
          rw [h1] at h
          simp only [cond_false] at h
          cases h
  · cases h

def awk_itoa.sp : HSpec
  | [.int .i64 a], [] => bif (a == 0) then some (true, .string ⟨⟨[48]⟩⟩, []) else bif (a == 1333333) then some (true, .string ⟨⟨[49, 51, 51, 51, 51, 51, 51]⟩⟩, []) else bif (a == 1333334) then some (true, .string ⟨⟨[49, 51, 51, 51, 51, 51, 52]⟩⟩, []) else none
  | _, _ => none
set_option maxRecDepth 100000 in
theorem awk_itoa.ok : SOK Tryd.prog 52 awk_itoa.sp := by
  refine sok_of (E := ⟨[(40, interval_extremes.sp), (54, awk_of.sp), (55, awk_mul.sp), (56, awk_with.sp)], [(59, Tryd.f59), (59, Tryd.f59), (63, Tryd.f63), (67, Tryd.f67), (68, Tryd.f68), (75, Tryd.f75), (76, Tryd.f76), (77, Tryd.f77), (69, Tryd.f69)]⟩) (L := []) ⟨(specs_cons interval_extremes.ok (specs_cons awk_of.ok (specs_cons awk_mul.ok (specs_cons awk_with.ok specs_nil)))), (inl_cons ⟨Tryd.func59, by decide, rfl⟩ (inl_cons ⟨Tryd.func59, by decide, rfl⟩ (inl_cons ⟨Tryd.func63, by decide, rfl⟩ (inl_cons ⟨Tryd.func67, by decide, rfl⟩ (inl_cons ⟨Tryd.func68, by decide, rfl⟩ (inl_cons ⟨Tryd.func75, by decide, rfl⟩ (inl_cons ⟨Tryd.func76, by decide, rfl⟩ (inl_cons ⟨Tryd.func77, by decide, rfl⟩ (inl_cons ⟨Tryd.func69, by decide, rfl⟩ inl_nil))))))))), mixed_ok⟩ 40 Tryd.func52 (by decide) rfl no_loops fun vs bl v bl' h => ?_
  unfold awk_itoa.sp at h
  split at h
  · rename_i a
    cases h1 : ((a == 0)) with
    | true =>
      rw [h1] at h
      simp only [cond_true, Option.some.injEq, Prod.mk.injEq, true_and] at h
      obtain ⟨rfl, rfl⟩ := h
      have e0 := int_eq h1
      subst e0
      exact ⟨by kernel_rfl, by simp [okV, Nat.blt], clo_spec 8 _ (by kernel_rfl), told_blk (by kernel_rfl)⟩
    | false =>
      rw [h1] at h
      simp only [cond_false] at h
      cases h1 : ((a == 1333333)) with
      | true =>
        rw [h1] at h
        simp only [cond_true, Option.some.injEq, Prod.mk.injEq, true_and] at h
        obtain ⟨rfl, rfl⟩ := h
        have e0 := int_eq h1
        subst e0
        exact ⟨by kernel_rfl, by simp [okV, Nat.blt], clo_spec 8 _ (by kernel_rfl), told_blk (by kernel_rfl)⟩
      | false =>
        rw [h1] at h
        simp only [cond_false] at h
        cases h1 : ((a == 1333334)) with
        | true =>
          rw [h1] at h
          simp only [cond_true, Option.some.injEq, Prod.mk.injEq, true_and] at h
          obtain ⟨rfl, rfl⟩ := h
          have e0 := int_eq h1
          subst e0
          exact ⟨by kernel_rfl, by simp [okV, Nat.blt], clo_spec 8 _ (by kernel_rfl), told_blk (by kernel_rfl)⟩
        | false =>
          rw [h1] at h
          simp only [cond_false] at h
          cases h
  · cases h

def awk_floor.sp : HSpec
  | [.int .i64 a, .int .i64 b], [] => bif (a == 281474976710656) && (b == 50331648) then some (true, .int .i64 5592405, []) else bif (a == 5592405000000) && (b == 16777216) then some (true, .int .i64 333333, []) else bif (a == 5592406000000) && (b == 16777216) then some (true, .int .i64 333333, []) else none
  | _, _ => none
set_option maxRecDepth 100000 in
theorem awk_floor.ok : SOK Tryd.prog 41 awk_floor.sp := by
  refine sok_of (E := ⟨[(40, interval_extremes.sp), (54, awk_of.sp), (55, awk_mul.sp), (56, awk_with.sp), (52, awk_itoa.sp)], [(41, Tryd.f41), (41, Tryd.f41)]⟩) (L := []) ⟨(specs_cons interval_extremes.ok (specs_cons awk_of.ok (specs_cons awk_mul.ok (specs_cons awk_with.ok (specs_cons awk_itoa.ok specs_nil))))), (inl_cons ⟨Tryd.func41, by decide, rfl⟩ (inl_cons ⟨Tryd.func41, by decide, rfl⟩ inl_nil)), mixed_ok⟩ 40 Tryd.func41 (by decide) rfl no_loops fun vs bl v bl' h => ?_
  unfold awk_floor.sp at h
  split at h
  · rename_i a b
    cases h1 : ((a == 281474976710656) && (b == 50331648)) with
    | true =>
      rw [h1] at h
      simp only [cond_true, Option.some.injEq, Prod.mk.injEq, true_and] at h
      obtain ⟨rfl, rfl⟩ := h
      simp only [Bool.and_eq_true] at h1
      have e0 := int_eq h1.1
      have e1 := int_eq h1.2
      subst e0
      subst e1
      exact ⟨by kernel_rfl, by simp [okV, Nat.blt], clo_spec 8 _ (by kernel_rfl), told_blk (by kernel_rfl)⟩
    | false =>
      rw [h1] at h
      simp only [cond_false] at h
      cases h1 : ((a == 5592405000000) && (b == 16777216)) with
      | true =>
        rw [h1] at h
        simp only [cond_true, Option.some.injEq, Prod.mk.injEq, true_and] at h
        obtain ⟨rfl, rfl⟩ := h
        simp only [Bool.and_eq_true] at h1
        have e0 := int_eq h1.1
        have e1 := int_eq h1.2
        subst e0
        subst e1
        exact ⟨by kernel_rfl, by simp [okV, Nat.blt], clo_spec 8 _ (by kernel_rfl), told_blk (by kernel_rfl)⟩
      | false =>
        rw [h1] at h
        simp only [cond_false] at h
        cases h1 : ((a == 5592406000000) && (b == 16777216)) with
        | true =>
          rw [h1] at h
          simp only [cond_true, Option.some.injEq, Prod.mk.injEq, true_and] at h
          obtain ⟨rfl, rfl⟩ := h
          simp only [Bool.and_eq_true] at h1
          have e0 := int_eq h1.1
          have e1 := int_eq h1.2
          subst e0
          subst e1
          exact ⟨by kernel_rfl, by simp [okV, Nat.blt], clo_spec 8 _ (by kernel_rfl), told_blk (by kernel_rfl)⟩
        | false =>
          rw [h1] at h
          simp only [cond_false] at h
          cases h
  · cases h

def awk_ceil.sp : HSpec
  | [.int .i64 a, .int .i64 b], [] => bif (a == 281474976710656) && (b == 50331648) then some (true, .int .i64 5592406, []) else bif (a == 5592405000000) && (b == 16777216) then some (true, .int .i64 333334, []) else bif (a == 5592406000000) && (b == 16777216) then some (true, .int .i64 333334, []) else none
  | _, _ => none
set_option maxRecDepth 100000 in
theorem awk_ceil.ok : SOK Tryd.prog 42 awk_ceil.sp := by
  refine sok_of (E := ⟨[(40, interval_extremes.sp), (54, awk_of.sp), (55, awk_mul.sp), (56, awk_with.sp), (52, awk_itoa.sp)], [(41, Tryd.f41), (41, Tryd.f41)]⟩) (L := []) ⟨(specs_cons interval_extremes.ok (specs_cons awk_of.ok (specs_cons awk_mul.ok (specs_cons awk_with.ok (specs_cons awk_itoa.ok specs_nil))))), (inl_cons ⟨Tryd.func41, by decide, rfl⟩ (inl_cons ⟨Tryd.func41, by decide, rfl⟩ inl_nil)), mixed_ok⟩ 40 Tryd.func42 (by decide) rfl no_loops fun vs bl v bl' h => ?_
  unfold awk_ceil.sp at h
  split at h
  · rename_i a b
    cases h1 : ((a == 281474976710656) && (b == 50331648)) with
    | true =>
      rw [h1] at h
      simp only [cond_true, Option.some.injEq, Prod.mk.injEq, true_and] at h
      obtain ⟨rfl, rfl⟩ := h
      simp only [Bool.and_eq_true] at h1
      have e0 := int_eq h1.1
      have e1 := int_eq h1.2
      subst e0
      subst e1
      exact ⟨by kernel_rfl, by simp [okV, Nat.blt], clo_spec 8 _ (by kernel_rfl), told_blk (by kernel_rfl)⟩
    | false =>
      rw [h1] at h
      simp only [cond_false] at h
      cases h1 : ((a == 5592405000000) && (b == 16777216)) with
      | true =>
        rw [h1] at h
        simp only [cond_true, Option.some.injEq, Prod.mk.injEq, true_and] at h
        obtain ⟨rfl, rfl⟩ := h
        simp only [Bool.and_eq_true] at h1
        have e0 := int_eq h1.1
        have e1 := int_eq h1.2
        subst e0
        subst e1
        exact ⟨by kernel_rfl, by simp [okV, Nat.blt], clo_spec 8 _ (by kernel_rfl), told_blk (by kernel_rfl)⟩
      | false =>
        rw [h1] at h
        simp only [cond_false] at h
        cases h1 : ((a == 5592406000000) && (b == 16777216)) with
        | true =>
          rw [h1] at h
          simp only [cond_true, Option.some.injEq, Prod.mk.injEq, true_and] at h
          obtain ⟨rfl, rfl⟩ := h
          simp only [Bool.and_eq_true] at h1
          have e0 := int_eq h1.1
          have e1 := int_eq h1.2
          subst e0
          subst e1
          exact ⟨by kernel_rfl, by simp [okV, Nat.blt], clo_spec 8 _ (by kernel_rfl), told_blk (by kernel_rfl)⟩
        | false =>
          rw [h1] at h
          simp only [cond_false] at h
          cases h
  · cases h

def awk_print.sp : HSpec
  | [.int .i64 a], [] => bif (a == 333333) then some (true, .string ⟨⟨[48, 46, 51, 51, 51, 51, 51, 51]⟩⟩, []) else bif (a == 333334) then some (true, .string ⟨⟨[48, 46, 51, 51, 51, 51, 51, 52]⟩⟩, []) else none
  | _, _ => none
set_option maxRecDepth 100000 in
theorem awk_print.ok : SOK Tryd.prog 51 awk_print.sp := by
  refine sok_of (E := ⟨[(40, interval_extremes.sp), (54, awk_of.sp), (55, awk_mul.sp), (56, awk_with.sp), (52, awk_itoa.sp), (41, awk_floor.sp), (42, awk_ceil.sp)], [(51, Tryd.f51), (51, Tryd.f51)]⟩) (L := []) ⟨(specs_cons interval_extremes.ok (specs_cons awk_of.ok (specs_cons awk_mul.ok (specs_cons awk_with.ok (specs_cons awk_itoa.ok (specs_cons awk_floor.ok (specs_cons awk_ceil.ok specs_nil))))))), (inl_cons ⟨Tryd.func51, by decide, rfl⟩ (inl_cons ⟨Tryd.func51, by decide, rfl⟩ inl_nil)), mixed_ok⟩ 40 Tryd.func51 (by decide) rfl no_loops fun vs bl v bl' h => ?_
  unfold awk_print.sp at h
  split at h
  · rename_i a
    cases h1 : ((a == 333333)) with
    | true =>
      rw [h1] at h
      simp only [cond_true, Option.some.injEq, Prod.mk.injEq, true_and] at h
      obtain ⟨rfl, rfl⟩ := h
      have e0 := int_eq h1
      subst e0
      exact ⟨by kernel_rfl, by simp [okV, Nat.blt], clo_spec 8 _ (by kernel_rfl), told_blk (by kernel_rfl)⟩
    | false =>
      rw [h1] at h
      simp only [cond_false] at h
      cases h1 : ((a == 333334)) with
      | true =>
        rw [h1] at h
        simp only [cond_true, Option.some.injEq, Prod.mk.injEq, true_and] at h
        obtain ⟨rfl, rfl⟩ := h
        have e0 := int_eq h1
        subst e0
        exact ⟨by kernel_rfl, by simp [okV, Nat.blt], clo_spec 8 _ (by kernel_rfl), told_blk (by kernel_rfl)⟩
      | false =>
        rw [h1] at h
        simp only [cond_false] at h
        cases h
  · cases h

def culetlaw27_awake.sp : HSpec
  | [], [] => some (true, .bool true, [])
  | _, _ => none
set_option maxRecDepth 100000 in
theorem culetlaw27_awake.run : xfn Tryd.prog ⟨[(40, interval_extremes.sp), (54, awk_of.sp), (55, awk_mul.sp), (56, awk_with.sp), (52, awk_itoa.sp), (41, awk_floor.sp), (42, awk_ceil.sp), (51, awk_print.sp)], [(16, Tryd.f16), (16, Tryd.f16), (36, Tryd.f36), (45, Tryd.f45), (37, Tryd.f37), (34, Tryd.f34), (48, Tryd.f48), (53, Tryd.f53), (49, Tryd.f49), (57, Tryd.f57), (60, Tryd.f60), (50, Tryd.f50), (58, Tryd.f58), (35, Tryd.f35)]⟩ [] 40 Tryd.f9 [] [] = some (.bool true, []) := by kernel_rfl
theorem culetlaw27_awake.ok : SOK Tryd.prog 9 culetlaw27_awake.sp := by
  refine sok_of (E := ⟨[(40, interval_extremes.sp), (54, awk_of.sp), (55, awk_mul.sp), (56, awk_with.sp), (52, awk_itoa.sp), (41, awk_floor.sp), (42, awk_ceil.sp), (51, awk_print.sp)], [(16, Tryd.f16), (16, Tryd.f16), (36, Tryd.f36), (45, Tryd.f45), (37, Tryd.f37), (34, Tryd.f34), (48, Tryd.f48), (53, Tryd.f53), (49, Tryd.f49), (57, Tryd.f57), (60, Tryd.f60), (50, Tryd.f50), (58, Tryd.f58), (35, Tryd.f35)]⟩) (L := []) ⟨(specs_cons interval_extremes.ok (specs_cons awk_of.ok (specs_cons awk_mul.ok (specs_cons awk_with.ok (specs_cons awk_itoa.ok (specs_cons awk_floor.ok (specs_cons awk_ceil.ok (specs_cons awk_print.ok specs_nil)))))))), (inl_cons ⟨Tryd.func16, by decide, rfl⟩ (inl_cons ⟨Tryd.func16, by decide, rfl⟩ (inl_cons ⟨Tryd.func36, by decide, rfl⟩ (inl_cons ⟨Tryd.func45, by decide, rfl⟩ (inl_cons ⟨Tryd.func37, by decide, rfl⟩ (inl_cons ⟨Tryd.func34, by decide, rfl⟩ (inl_cons ⟨Tryd.func48, by decide, rfl⟩ (inl_cons ⟨Tryd.func53, by decide, rfl⟩ (inl_cons ⟨Tryd.func49, by decide, rfl⟩ (inl_cons ⟨Tryd.func57, by decide, rfl⟩ (inl_cons ⟨Tryd.func60, by decide, rfl⟩ (inl_cons ⟨Tryd.func50, by decide, rfl⟩ (inl_cons ⟨Tryd.func58, by decide, rfl⟩ (inl_cons ⟨Tryd.func35, by decide, rfl⟩ inl_nil)))))))))))))), mixed_ok⟩ 40 Tryd.func9 (by decide) rfl no_loops fun vs bl v bl' h => ?_
  unfold culetlaw27_awake.sp at h
  split at h
  · simp only [Option.some.injEq, Prod.mk.injEq, true_and] at h
    obtain ⟨rfl, rfl⟩ := h
    exact ⟨culetlaw27_awake.run, by simp [okV], clo_spec 8 _ rfl, told_blk rfl⟩
  · cases h
end Go.Proofs.YtpghmdjjkpjnfaaDoor.G
