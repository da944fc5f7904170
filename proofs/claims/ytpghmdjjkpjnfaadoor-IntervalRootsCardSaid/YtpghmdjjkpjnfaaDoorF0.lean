/- The functions, their runs and their contracts. WRITTEN BY gen.py of this repo. -/
import Derived.Test.YtpghmdjjkpjnfaaDoorS
import Derived.Test.YtpghmdjjkpjnfaaDoorM
import Derived.Test.YtpghmdjjkpjnfaaDoorIv
import Derived.Test.YtpghmdjjkpjnfaaDoorSq
import Derived.Test.YtpghmdjjkpjnfaaDoorExt
import Derived.Test.YtpghmdjjkpjnfaaDoorNear27
import Derived.Test.YtpghmdjjkpjnfaaDoorRoot
import Derived.Test.YtpghmdjjkpjnfaaDoorXwk27
namespace Go.Proofs.YtpghmdjjkpjnfaaDoor.G
open Go Go.Proofs Go.RowKit RX
set_option linter.unusedVariables false
set_option linter.unusedSimpArgs false
/-! ### culet/interval.Valid (45) -/
def interval_Valid.K {R : Type} (a0_0 : Int) (a0_1 : Int) (k : (Bool) → R) : R :=
  bif decide (a0_0 ≤ a0_1) then
    bif decide (a0_0 ≥ -1073741824) then
      k (decide (a0_1 ≤ 1073741824))
    else
      k (false)
  else
    k (false)
set_option maxRecDepth 100000 in
theorem interval_Valid.run (a0_0 : Int) (a0_1 : Int) : xfn Tryd.prog ⟨[], []⟩ [] 40 Tryd.f45 [.agg ⟨[.int .i64 a0_0, .int .i64 a0_1]⟩] [] = interval_Valid.K a0_0 a0_1 (fun r => some (.bool r, [])) := by kernel_rfl
def interval_Valid (a0_0 : Int) (a0_1 : Int) : Bool := interval_Valid.K a0_0 a0_1 id
theorem interval_Valid.nat {R : Type} (a0_0 : Int) (a0_1 : Int) (k : (Bool) → R) : interval_Valid.K a0_0 a0_1 k = k (interval_Valid.K a0_0 a0_1 id) := by
  simp only [interval_Valid.K, acond k, id_eq]
theorem interval_Valid.eq (a b : Int) : interval_Valid a b = V a b := by
  simp only [interval_Valid, interval_Valid.K, id_eq, V]
  by_cases h1 : a ≤ b <;> by_cases h2 : a ≥ -1073741824 <;> by_cases h3 : b ≤ 1073741824 <;> simp [h1, h2, h3] <;> omega
theorem interval_Valid.ok : SOK Tryd.prog 45 (interval_Valid.sp interval_Valid) := by
  refine sok_of (E := ⟨[], []⟩) (L := []) ⟨specs_nil, inl_nil, mixed_ok⟩ 40 Tryd.func45 (by decide) rfl no_loops fun vs bl v bl' h => ?_
  unfold interval_Valid.sp at h
  split at h
  · rename_i a0_0 a0_1
    simp only [Option.some.injEq, Prod.mk.injEq, true_and] at h
    obtain ⟨rfl, rfl⟩ := h
    refine ⟨?_, by simp [okV, Nat.blt], clo_spec 8 _ (by kernel_rfl), told_blk (by kernel_rfl)⟩
    refine (interval_Valid.run a0_0 a0_1).trans ?_
    refine (interval_Valid.nat a0_0 a0_1 _).trans ?_
    kernel_rfl
  · cases h

/-! ### culet/interval.made (37) -/
def interval_made.K {R : Type} (a0 : Int) (a1 : Int) (k : Int × Int × Int → R) : R :=
  bif decide (a0 < -1073741824) then
    k (0, 0, 3)
  else
    bif decide (a1 > 1073741824) then
      k (0, 0, 3)
    else
      k (a0, a1, 0)
set_option maxRecDepth 100000 in
theorem interval_made.run (a0 : Int) (a1 : Int) : xfn Tryd.prog ⟨[], []⟩ [] 40 Tryd.f37 [.int .i64 a0, .int .i64 a1] [] = interval_made.K a0 a1 (fun r => some (.tuple ⟨[.agg ⟨[.int .i64 r.1, .int .i64 r.2.1]⟩, .int .i64 r.2.2]⟩, [])) := by kernel_rfl
def interval_made (a0 : Int) (a1 : Int) : Int × Int × Int := interval_made.K a0 a1 id
theorem interval_made.nat {R : Type} (a0 : Int) (a1 : Int) (k : Int × Int × Int → R) : interval_made.K a0 a1 k = k (interval_made.K a0 a1 id) := by
  simp only [interval_made.K, acond k, id_eq]
theorem interval_made.eq {a b : Int} (h : a ≤ b) : interval_made a b = chk a b := by
  simp only [interval_made, interval_made.K, id_eq, chk]
  by_cases h1 : a < -1073741824
  · rw [V_not.2 (by omega)]; simp [h1]
  · by_cases h2 : b > 1073741824
    · rw [V_not.2 (by omega)]; simp [h1, h2]
    · rw [V_iff.2 ⟨by omega, h, by omega⟩]; simp [h1, h2]
theorem interval_made.ok : SOK Tryd.prog 37 (interval_made.sp interval_made) := by
  refine sok_of (E := ⟨[], []⟩) (L := []) ⟨specs_nil, inl_nil, mixed_ok⟩ 40 Tryd.func37 (by decide) rfl no_loops fun vs bl v bl' h => ?_
  unfold interval_made.sp at h
  split at h
  · rename_i a0 a1
    simp only [Option.some.injEq, Prod.mk.injEq, true_and] at h
    obtain ⟨rfl, rfl⟩ := h
    refine ⟨?_, by simp [okV, Nat.blt], clo_spec 8 _ (by kernel_rfl), told_blk (by kernel_rfl)⟩
    refine (interval_made.run a0 a1).trans ?_
    refine (interval_made.nat a0 a1 _).trans ?_
    kernel_rfl
  · cases h

/-! ### culet/interval.Add (10) -/
def interval_Add.K {R : Type} (f_interval_Valid : Int → Int → (Bool)) (f_interval_made : Int → Int → (Int × Int × Int)) (a0_0 : Int) (a0_1 : Int) (a1_0 : Int) (a1_1 : Int) (k : Int × Int × Int → R) : R :=
  let t0 := f_interval_Valid a0_0 a0_1
  bif !t0 then
    k (0, 0, 1)
  else
    let t1 := f_interval_Valid a1_0 a1_1
    bif !t1 then
      k (0, 0, 1)
    else
      let t2 := f_interval_made (IntKind.i64.wrap (a0_0 + a1_0)) (IntKind.i64.wrap (a0_1 + a1_1))
      k (t2.fst, t2.snd.fst, t2.snd.snd)
set_option maxRecDepth 100000 in
theorem interval_Add.run (f_interval_Valid : Int → Int → (Bool)) (f_interval_made : Int → Int → (Int × Int × Int)) (a0_0 : Int) (a0_1 : Int) (a1_0 : Int) (a1_1 : Int) : xfn Tryd.prog ⟨[(45, interval_Valid.sp f_interval_Valid), (37, interval_made.sp f_interval_made)], [(36, Tryd.f36)]⟩ [] 40 Tryd.f10 [.agg ⟨[.int .i64 a0_0, .int .i64 a0_1]⟩, .agg ⟨[.int .i64 a1_0, .int .i64 a1_1]⟩] [] = interval_Add.K f_interval_Valid f_interval_made a0_0 a0_1 a1_0 a1_1 (fun r => some (.tuple ⟨[.agg ⟨[.int .i64 r.1, .int .i64 r.2.1]⟩, .int .i64 r.2.2]⟩, [])) := by kernel_rfl
def interval_Add (a0_0 : Int) (a0_1 : Int) (a1_0 : Int) (a1_1 : Int) : Int × Int × Int := interval_Add.K interval_Valid interval_made a0_0 a0_1 a1_0 a1_1 id
theorem interval_Add.nat {R : Type} (f_interval_Valid : Int → Int → (Bool)) (f_interval_made : Int → Int → (Int × Int × Int)) (a0_0 : Int) (a0_1 : Int) (a1_0 : Int) (a1_1 : Int) (k : Int × Int × Int → R) : interval_Add.K f_interval_Valid f_interval_made a0_0 a0_1 a1_0 a1_1 k = k (interval_Add.K f_interval_Valid f_interval_made a0_0 a0_1 a1_0 a1_1 id) := by
  simp only [interval_Add.K, acond k, id_eq]
theorem interval_Add.eq (a b c d : Int) : interval_Add a b c d = iadd a b c d := by
  simp only [interval_Add, interval_Add.K, id_eq, interval_Valid.eq, iadd]
  cases h1 : V a b with
  | false => simp
  | true => cases h2 : V c d with
    | false => simp
    | true =>
      have := V_iff.1 h1
      have := V_iff.1 h2
      rw [w64 (by omega) (by omega), w64 (by omega) (by omega), interval_made.eq (by omega)]
      simp
theorem interval_Add.ok : SOK Tryd.prog 10 (interval_Add.sp interval_Add) := by
  refine sok_of (E := ⟨[(45, interval_Valid.sp interval_Valid), (37, interval_made.sp interval_made)], [(36, Tryd.f36)]⟩) (L := []) ⟨(specs_cons interval_Valid.ok (specs_cons interval_made.ok specs_nil)), (inl_cons ⟨Tryd.func36, by decide, rfl⟩ inl_nil), mixed_ok⟩ 40 Tryd.func10 (by decide) rfl no_loops fun vs bl v bl' h => ?_
  unfold interval_Add.sp at h
  split at h
  · rename_i a0_0 a0_1 a1_0 a1_1
    simp only [Option.some.injEq, Prod.mk.injEq, true_and] at h
    obtain ⟨rfl, rfl⟩ := h
    refine ⟨?_, by simp [okV, Nat.blt], clo_spec 8 _ (by kernel_rfl), told_blk (by kernel_rfl)⟩
    refine (interval_Add.run interval_Valid interval_made a0_0 a0_1 a1_0 a1_1).trans ?_
    refine (interval_Add.nat interval_Valid interval_made a0_0 a0_1 a1_0 a1_1 _).trans ?_
    kernel_rfl
  · cases h

/-! ### culet/culetref27.Valid (20) -/
def culetref27_Valid.K {R : Type} (a0_0 : Int) (a0_1 : Int) (k : (Bool) → R) : R :=
  bif decide (-1073741824 ≤ a0_0) then
    bif decide (a0_0 ≤ a0_1) then
      k (decide (a0_1 ≤ 1073741824))
    else
      k (false)
  else
    k (false)
set_option maxRecDepth 100000 in
theorem culetref27_Valid.run (a0_0 : Int) (a0_1 : Int) : xfn Tryd.prog ⟨[], []⟩ [] 40 Tryd.f20 [.agg ⟨[.int .i64 a0_0, .int .i64 a0_1]⟩] [] = culetref27_Valid.K a0_0 a0_1 (fun r => some (.bool r, [])) := by kernel_rfl
def culetref27_Valid (a0_0 : Int) (a0_1 : Int) : Bool := culetref27_Valid.K a0_0 a0_1 id
theorem culetref27_Valid.nat {R : Type} (a0_0 : Int) (a0_1 : Int) (k : (Bool) → R) : culetref27_Valid.K a0_0 a0_1 k = k (culetref27_Valid.K a0_0 a0_1 id) := by
  simp only [culetref27_Valid.K, acond k, id_eq]
theorem culetref27_Valid.eq (a b : Int) : culetref27_Valid a b = V a b := by
  simp only [culetref27_Valid, culetref27_Valid.K, id_eq, V]
  by_cases h1 : -1073741824 ≤ a <;> by_cases h2 : a ≤ b <;> by_cases h3 : b ≤ 1073741824 <;> simp [h1, h2, h3]
theorem culetref27_Valid.ok : SOK Tryd.prog 20 (culetref27_Valid.sp culetref27_Valid) := by
  refine sok_of (E := ⟨[], []⟩) (L := []) ⟨specs_nil, inl_nil, mixed_ok⟩ 40 Tryd.func20 (by decide) rfl no_loops fun vs bl v bl' h => ?_
  unfold culetref27_Valid.sp at h
  split at h
  · rename_i a0_0 a0_1
    simp only [Option.some.injEq, Prod.mk.injEq, true_and] at h
    obtain ⟨rfl, rfl⟩ := h
    refine ⟨?_, by simp [okV, Nat.blt], clo_spec 8 _ (by kernel_rfl), told_blk (by kernel_rfl)⟩
    refine (culetref27_Valid.run a0_0 a0_1).trans ?_
    refine (culetref27_Valid.nat a0_0 a0_1 _).trans ?_
    kernel_rfl
  · cases h

/-! ### culet/culetref27.both (38) -/
def culetref27_both.K {R : Type} (f_culetref27_Valid : Int → Int → (Bool)) (a0_0 : Int) (a0_1 : Int) (a1_0 : Int) (a1_1 : Int) (k : (Bool) → R) : R :=
  let t0 := f_culetref27_Valid a0_0 a0_1
  bif t0 then
    let t1 := f_culetref27_Valid a1_0 a1_1
    k (t1)
  else
    k (false)
set_option maxRecDepth 100000 in
theorem culetref27_both.run (f_culetref27_Valid : Int → Int → (Bool)) (a0_0 : Int) (a0_1 : Int) (a1_0 : Int) (a1_1 : Int) : xfn Tryd.prog ⟨[(20, culetref27_Valid.sp f_culetref27_Valid)], []⟩ [] 40 Tryd.f38 [.agg ⟨[.int .i64 a0_0, .int .i64 a0_1]⟩, .agg ⟨[.int .i64 a1_0, .int .i64 a1_1]⟩] [] = culetref27_both.K f_culetref27_Valid a0_0 a0_1 a1_0 a1_1 (fun r => some (.bool r, [])) := by kernel_rfl
def culetref27_both (a0_0 : Int) (a0_1 : Int) (a1_0 : Int) (a1_1 : Int) : Bool := culetref27_both.K culetref27_Valid a0_0 a0_1 a1_0 a1_1 id
theorem culetref27_both.nat {R : Type} (f_culetref27_Valid : Int → Int → (Bool)) (a0_0 : Int) (a0_1 : Int) (a1_0 : Int) (a1_1 : Int) (k : (Bool) → R) : culetref27_both.K f_culetref27_Valid a0_0 a0_1 a1_0 a1_1 k = k (culetref27_both.K f_culetref27_Valid a0_0 a0_1 a1_0 a1_1 id) := by
  simp only [culetref27_both.K, acond k, id_eq]
theorem culetref27_both.eq (a b c d : Int) : culetref27_both a b c d = (V a b && V c d) := by
  simp only [culetref27_both, culetref27_both.K, id_eq, culetref27_Valid.eq]
  cases V a b <;> simp
theorem culetref27_both.ok : SOK Tryd.prog 38 (culetref27_both.sp culetref27_both) := by
  refine sok_of (E := ⟨[(20, culetref27_Valid.sp culetref27_Valid)], []⟩) (L := []) ⟨(specs_cons culetref27_Valid.ok specs_nil), inl_nil, mixed_ok⟩ 40 Tryd.func38 (by decide) rfl no_loops fun vs bl v bl' h => ?_
  unfold culetref27_both.sp at h
  split at h
  · rename_i a0_0 a0_1 a1_0 a1_1
    simp only [Option.some.injEq, Prod.mk.injEq, true_and] at h
    obtain ⟨rfl, rfl⟩ := h
    refine ⟨?_, by simp [okV, Nat.blt], clo_spec 8 _ (by kernel_rfl), told_blk (by kernel_rfl)⟩
    refine (culetref27_both.run culetref27_Valid a0_0 a0_1 a1_0 a1_1).trans ?_
    refine (culetref27_both.nat culetref27_Valid a0_0 a0_1 a1_0 a1_1 _).trans ?_
    kernel_rfl
  · cases h

/-! ### culet/culetref27.checked (39) -/
def culetref27_checked.K {R : Type} (f_culetref27_Valid : Int → Int → (Bool)) (a0 : Int) (a1 : Int) (k : Int × Int × Int → R) : R :=
  let t0 := f_culetref27_Valid a0 a1
  bif !t0 then
    k (0, 0, 3)
  else
    k (a0, a1, 0)
set_option maxRecDepth 100000 in
theorem culetref27_checked.run (f_culetref27_Valid : Int → Int → (Bool)) (a0 : Int) (a1 : Int) : xfn Tryd.prog ⟨[(20, culetref27_Valid.sp f_culetref27_Valid)], []⟩ [] 40 Tryd.f39 [.int .i64 a0, .int .i64 a1] [] = culetref27_checked.K f_culetref27_Valid a0 a1 (fun r => some (.tuple ⟨[.agg ⟨[.int .i64 r.1, .int .i64 r.2.1]⟩, .int .i64 r.2.2]⟩, [])) := by kernel_rfl
def culetref27_checked (a0 : Int) (a1 : Int) : Int × Int × Int := culetref27_checked.K culetref27_Valid a0 a1 id
theorem culetref27_checked.nat {R : Type} (f_culetref27_Valid : Int → Int → (Bool)) (a0 : Int) (a1 : Int) (k : Int × Int × Int → R) : culetref27_checked.K f_culetref27_Valid a0 a1 k = k (culetref27_checked.K f_culetref27_Valid a0 a1 id) := by
  simp only [culetref27_checked.K, acond k, id_eq]
theorem culetref27_checked.eq (a b : Int) : culetref27_checked a b = chk a b := by
  simp only [culetref27_checked, culetref27_checked.K, id_eq, culetref27_Valid.eq, chk]
  cases V a b <;> simp
theorem culetref27_checked.ok : SOK Tryd.prog 39 (culetref27_checked.sp culetref27_checked) := by
  refine sok_of (E := ⟨[(20, culetref27_Valid.sp culetref27_Valid)], []⟩) (L := []) ⟨(specs_cons culetref27_Valid.ok specs_nil), inl_nil, mixed_ok⟩ 40 Tryd.func39 (by decide) rfl no_loops fun vs bl v bl' h => ?_
  unfold culetref27_checked.sp at h
  split at h
  · rename_i a0 a1
    simp only [Option.some.injEq, Prod.mk.injEq, true_and] at h
    obtain ⟨rfl, rfl⟩ := h
    refine ⟨?_, by simp [okV, Nat.blt], clo_spec 8 _ (by kernel_rfl), told_blk (by kernel_rfl)⟩
    refine (culetref27_checked.run culetref27_Valid a0 a1).trans ?_
    refine (culetref27_checked.nat culetref27_Valid a0 a1 _).trans ?_
    kernel_rfl
  · cases h

/-! ### culet/culetref27.Add (11) -/
def culetref27_Add.K {R : Type} (f_culetref27_both : Int → Int → Int → Int → (Bool)) (f_culetref27_checked : Int → Int → (Int × Int × Int)) (a0_0 : Int) (a0_1 : Int) (a1_0 : Int) (a1_1 : Int) (k : Int × Int × Int → R) : R :=
  let t0 := f_culetref27_both a0_0 a0_1 a1_0 a1_1
  bif !t0 then
    k (0, 0, 1)
  else
    let t1 := f_culetref27_checked (IntKind.i64.wrap (a0_0 + a1_0)) (IntKind.i64.wrap (a0_1 + a1_1))
    k (t1.fst, t1.snd.fst, t1.snd.snd)
set_option maxRecDepth 100000 in
theorem culetref27_Add.run (f_culetref27_both : Int → Int → Int → Int → (Bool)) (f_culetref27_checked : Int → Int → (Int × Int × Int)) (a0_0 : Int) (a0_1 : Int) (a1_0 : Int) (a1_1 : Int) : xfn Tryd.prog ⟨[(38, culetref27_both.sp f_culetref27_both), (39, culetref27_checked.sp f_culetref27_checked)], []⟩ [] 40 Tryd.f11 [.agg ⟨[.int .i64 a0_0, .int .i64 a0_1]⟩, .agg ⟨[.int .i64 a1_0, .int .i64 a1_1]⟩] [] = culetref27_Add.K f_culetref27_both f_culetref27_checked a0_0 a0_1 a1_0 a1_1 (fun r => some (.tuple ⟨[.agg ⟨[.int .i64 r.1, .int .i64 r.2.1]⟩, .int .i64 r.2.2]⟩, [])) := by kernel_rfl
def culetref27_Add (a0_0 : Int) (a0_1 : Int) (a1_0 : Int) (a1_1 : Int) : Int × Int × Int := culetref27_Add.K culetref27_both culetref27_checked a0_0 a0_1 a1_0 a1_1 id
theorem culetref27_Add.nat {R : Type} (f_culetref27_both : Int → Int → Int → Int → (Bool)) (f_culetref27_checked : Int → Int → (Int × Int × Int)) (a0_0 : Int) (a0_1 : Int) (a1_0 : Int) (a1_1 : Int) (k : Int × Int × Int → R) : culetref27_Add.K f_culetref27_both f_culetref27_checked a0_0 a0_1 a1_0 a1_1 k = k (culetref27_Add.K f_culetref27_both f_culetref27_checked a0_0 a0_1 a1_0 a1_1 id) := by
  simp only [culetref27_Add.K, acond k, id_eq]
theorem culetref27_Add.eq (a b c d : Int) : culetref27_Add a b c d = iadd a b c d := by
  simp only [culetref27_Add, culetref27_Add.K, id_eq, culetref27_both.eq, iadd]
  cases h : V a b && V c d with
  | false => simp
  | true =>
    have h' := h
    rw [Bool.and_eq_true] at h'
    have := V_iff.1 h'.1
    have := V_iff.1 h'.2
    rw [w64 (by omega) (by omega), w64 (by omega) (by omega), culetref27_checked.eq]
    simp
theorem culetref27_Add.ok : SOK Tryd.prog 11 (culetref27_Add.sp culetref27_Add) := by
  refine sok_of (E := ⟨[(38, culetref27_both.sp culetref27_both), (39, culetref27_checked.sp culetref27_checked)], []⟩) (L := []) ⟨(specs_cons culetref27_both.ok (specs_cons culetref27_checked.ok specs_nil)), inl_nil, mixed_ok⟩ 40 Tryd.func11 (by decide) rfl no_loops fun vs bl v bl' h => ?_
  unfold culetref27_Add.sp at h
  split at h
  · rename_i a0_0 a0_1 a1_0 a1_1
    simp only [Option.some.injEq, Prod.mk.injEq, true_and] at h
    obtain ⟨rfl, rfl⟩ := h
    refine ⟨?_, by simp [okV, Nat.blt], clo_spec 8 _ (by kernel_rfl), told_blk (by kernel_rfl)⟩
    refine (culetref27_Add.run culetref27_both culetref27_checked a0_0 a0_1 a1_0 a1_1).trans ?_
    refine (culetref27_Add.nat culetref27_both culetref27_checked a0_0 a0_1 a1_0 a1_1 _).trans ?_
    kernel_rfl
  · cases h

/-! ### culet/interval.Sub (12) -/
def interval_Sub.K {R : Type} (f_interval_Valid : Int → Int → (Bool)) (f_interval_made : Int → Int → (Int × Int × Int)) (a0_0 : Int) (a0_1 : Int) (a1_0 : Int) (a1_1 : Int) (k : Int × Int × Int → R) : R :=
  let t0 := f_interval_Valid a0_0 a0_1
  bif !t0 then
    k (0, 0, 1)
  else
    let t1 := f_interval_Valid a1_0 a1_1
    bif !t1 then
      k (0, 0, 1)
    else
      let t2 := f_interval_made (IntKind.i64.wrap (a0_0 - a1_1)) (IntKind.i64.wrap (a0_1 - a1_0))
      k (t2.fst, t2.snd.fst, t2.snd.snd)
set_option maxRecDepth 100000 in
theorem interval_Sub.run (f_interval_Valid : Int → Int → (Bool)) (f_interval_made : Int → Int → (Int × Int × Int)) (a0_0 : Int) (a0_1 : Int) (a1_0 : Int) (a1_1 : Int) : xfn Tryd.prog ⟨[(45, interval_Valid.sp f_interval_Valid), (37, interval_made.sp f_interval_made)], [(36, Tryd.f36)]⟩ [] 40 Tryd.f12 [.agg ⟨[.int .i64 a0_0, .int .i64 a0_1]⟩, .agg ⟨[.int .i64 a1_0, .int .i64 a1_1]⟩] [] = interval_Sub.K f_interval_Valid f_interval_made a0_0 a0_1 a1_0 a1_1 (fun r => some (.tuple ⟨[.agg ⟨[.int .i64 r.1, .int .i64 r.2.1]⟩, .int .i64 r.2.2]⟩, [])) := by kernel_rfl
def interval_Sub (a0_0 : Int) (a0_1 : Int) (a1_0 : Int) (a1_1 : Int) : Int × Int × Int := interval_Sub.K interval_Valid interval_made a0_0 a0_1 a1_0 a1_1 id
theorem interval_Sub.nat {R : Type} (f_interval_Valid : Int → Int → (Bool)) (f_interval_made : Int → Int → (Int × Int × Int)) (a0_0 : Int) (a0_1 : Int) (a1_0 : Int) (a1_1 : Int) (k : Int × Int × Int → R) : interval_Sub.K f_interval_Valid f_interval_made a0_0 a0_1 a1_0 a1_1 k = k (interval_Sub.K f_interval_Valid f_interval_made a0_0 a0_1 a1_0 a1_1 id) := by
  simp only [interval_Sub.K, acond k, id_eq]
theorem interval_Sub.eq (a b c d : Int) : interval_Sub a b c d = isub a b c d := by
  simp only [interval_Sub, interval_Sub.K, id_eq, interval_Valid.eq, isub]
  cases h1 : V a b with
  | false => simp
  | true => cases h2 : V c d with
    | false => simp
    | true =>
      have := V_iff.1 h1
      have := V_iff.1 h2
      rw [w64 (by omega) (by omega), w64 (by omega) (by omega), interval_made.eq (by omega)]
      simp
theorem interval_Sub.ok : SOK Tryd.prog 12 (interval_Sub.sp interval_Sub) := by
  refine sok_of (E := ⟨[(45, interval_Valid.sp interval_Valid), (37, interval_made.sp interval_made)], [(36, Tryd.f36)]⟩) (L := []) ⟨(specs_cons interval_Valid.ok (specs_cons interval_made.ok specs_nil)), (inl_cons ⟨Tryd.func36, by decide, rfl⟩ inl_nil), mixed_ok⟩ 40 Tryd.func12 (by decide) rfl no_loops fun vs bl v bl' h => ?_
  unfold interval_Sub.sp at h
  split at h
  · rename_i a0_0 a0_1 a1_0 a1_1
    simp only [Option.some.injEq, Prod.mk.injEq, true_and] at h
    obtain ⟨rfl, rfl⟩ := h
    refine ⟨?_, by simp [okV, Nat.blt], clo_spec 8 _ (by kernel_rfl), told_blk (by kernel_rfl)⟩
    refine (interval_Sub.run interval_Valid interval_made a0_0 a0_1 a1_0 a1_1).trans ?_
    refine (interval_Sub.nat interval_Valid interval_made a0_0 a0_1 a1_0 a1_1 _).trans ?_
    kernel_rfl
  · cases h

/-! ### culet/culetref27.Sub (13) -/
def culetref27_Sub.K {R : Type} (f_culetref27_both : Int → Int → Int → Int → (Bool)) (f_culetref27_checked : Int → Int → (Int × Int × Int)) (a0_0 : Int) (a0_1 : Int) (a1_0 : Int) (a1_1 : Int) (k : Int × Int × Int → R) : R :=
  let t0 := f_culetref27_both a0_0 a0_1 a1_0 a1_1
  bif !t0 then
    k (0, 0, 1)
  else
    let t1 := f_culetref27_checked (IntKind.i64.wrap (a0_0 - a1_1)) (IntKind.i64.wrap (a0_1 - a1_0))
    k (t1.fst, t1.snd.fst, t1.snd.snd)
set_option maxRecDepth 100000 in
theorem culetref27_Sub.run (f_culetref27_both : Int → Int → Int → Int → (Bool)) (f_culetref27_checked : Int → Int → (Int × Int × Int)) (a0_0 : Int) (a0_1 : Int) (a1_0 : Int) (a1_1 : Int) : xfn Tryd.prog ⟨[(38, culetref27_both.sp f_culetref27_both), (39, culetref27_checked.sp f_culetref27_checked)], []⟩ [] 40 Tryd.f13 [.agg ⟨[.int .i64 a0_0, .int .i64 a0_1]⟩, .agg ⟨[.int .i64 a1_0, .int .i64 a1_1]⟩] [] = culetref27_Sub.K f_culetref27_both f_culetref27_checked a0_0 a0_1 a1_0 a1_1 (fun r => some (.tuple ⟨[.agg ⟨[.int .i64 r.1, .int .i64 r.2.1]⟩, .int .i64 r.2.2]⟩, [])) := by kernel_rfl
def culetref27_Sub (a0_0 : Int) (a0_1 : Int) (a1_0 : Int) (a1_1 : Int) : Int × Int × Int := culetref27_Sub.K culetref27_both culetref27_checked a0_0 a0_1 a1_0 a1_1 id
theorem culetref27_Sub.nat {R : Type} (f_culetref27_both : Int → Int → Int → Int → (Bool)) (f_culetref27_checked : Int → Int → (Int × Int × Int)) (a0_0 : Int) (a0_1 : Int) (a1_0 : Int) (a1_1 : Int) (k : Int × Int × Int → R) : culetref27_Sub.K f_culetref27_both f_culetref27_checked a0_0 a0_1 a1_0 a1_1 k = k (culetref27_Sub.K f_culetref27_both f_culetref27_checked a0_0 a0_1 a1_0 a1_1 id) := by
  simp only [culetref27_Sub.K, acond k, id_eq]
theorem culetref27_Sub.eq (a b c d : Int) : culetref27_Sub a b c d = isub a b c d := by
  simp only [culetref27_Sub, culetref27_Sub.K, id_eq, culetref27_both.eq, isub]
  cases h : V a b && V c d with
  | false => simp
  | true =>
    have h' := h
    rw [Bool.and_eq_true] at h'
    have := V_iff.1 h'.1
    have := V_iff.1 h'.2
    rw [w64 (by omega) (by omega), w64 (by omega) (by omega), culetref27_checked.eq]
    simp
theorem culetref27_Sub.ok : SOK Tryd.prog 13 (culetref27_Sub.sp culetref27_Sub) := by
  refine sok_of (E := ⟨[(38, culetref27_both.sp culetref27_both), (39, culetref27_checked.sp culetref27_checked)], []⟩) (L := []) ⟨(specs_cons culetref27_both.ok (specs_cons culetref27_checked.ok specs_nil)), inl_nil, mixed_ok⟩ 40 Tryd.func13 (by decide) rfl no_loops fun vs bl v bl' h => ?_
  unfold culetref27_Sub.sp at h
  split at h
  · rename_i a0_0 a0_1 a1_0 a1_1
    simp only [Option.some.injEq, Prod.mk.injEq, true_and] at h
    obtain ⟨rfl, rfl⟩ := h
    refine ⟨?_, by simp [okV, Nat.blt], clo_spec 8 _ (by kernel_rfl), told_blk (by kernel_rfl)⟩
    refine (culetref27_Sub.run culetref27_both culetref27_checked a0_0 a0_1 a1_0 a1_1).trans ?_
    refine (culetref27_Sub.nat culetref27_both culetref27_checked a0_0 a0_1 a1_0 a1_1 _).trans ?_
    kernel_rfl
  · cases h

/-! ### culet/interval.floor (41) -/
def interval_floor.K {R : Type} (a0 : Int) (a1 : Int) (k : (Int) → Option R) : Option R :=
  bif a1 != 0 then
    bif a1 != 0 then
      bif a0.tmod a1 != 0 then
        bif decide (a0 < 0) then
          k (IntKind.i64.wrap (IntKind.i64.wrap (a0.tdiv a1) - 1))
        else
          k (IntKind.i64.wrap (a0.tdiv a1))
      else
        k (IntKind.i64.wrap (a0.tdiv a1))
    else
      none
  else
    none
set_option maxRecDepth 100000 in
theorem interval_floor.run (a0 : Int) (a1 : Int) : xfn Tryd.prog ⟨[], []⟩ [] 40 Tryd.f41 [.int .i64 a0, .int .i64 a1] [] = interval_floor.K a0 a1 (fun r => some (.int .i64 r, [])) := by kernel_rfl
def interval_floor.o (a0 : Int) (a1 : Int) : Option (Int) := interval_floor.K a0 a1 some
def interval_floor.pre (a0 : Int) (a1 : Int) : Bool := (interval_floor.o a0 a1).isSome
def interval_floor (a0 : Int) (a1 : Int) : Int := (interval_floor.o a0 a1).getD default
theorem interval_floor.nat {R : Type} (a0 : Int) (a1 : Int) (k : (Int) → Option R) : interval_floor.K a0 a1 k = (interval_floor.K a0 a1 some).bind k := by
  simp only [interval_floor.K, bcond, Option.bind_some, Option.bind_none]
theorem interval_floor.eq {a b : Int} (hb : 0 < b) (h1 : -4611686018427387904 ≤ a) (h2 : a ≤ 4611686018427387904) : interval_floor a b = a / b := by
  have hb0 : (b != 0) = true := by simp; omega
  have hq := tdiv_bnd hb h1 h2
  simp only [interval_floor, interval_floor.o, interval_floor.K, hb0, cond_true]
  have hd : a.tdiv b = a / b + if 0 ≤ a ∨ b ∣ a then 0 else b.sign := Int.tdiv_eq_ediv
  rw [Int.sign_eq_one_of_pos hb] at hd
  by_cases hm : a.tmod b = 0
  · have hv : b ∣ a := Int.dvd_of_tmod_eq_zero hm
    simp only [hv, or_true, if_true, Int.add_zero] at hd
    simp only [hm, bne_self_eq_false, cond_false, Option.getD_some, hd]
    exact w64 (by omega) (by omega)
  · have hv : ¬ b ∣ a := fun h => hm (Int.tmod_eq_zero_of_dvd h)
    have hm' : (a.tmod b != 0) = true := by simp [hm]
    simp only [hm', cond_true]
    by_cases ha : a < 0
    · simp only [hv, or_false, show ¬ 0 ≤ a from by omega, if_false] at hd
      simp only [ha, decide_true, cond_true, Option.getD_some, hd]
      rw [w64 (n := a / b + 1) (by omega) (by omega), Int.add_sub_cancel, w64 (by omega) (by omega)]
    · simp only [show 0 ≤ a from by omega, true_or, if_true, Int.add_zero] at hd
      simp only [ha, decide_false, cond_false, Option.getD_some, hd]
      exact w64 (by omega) (by omega)
theorem interval_floor.ok : SOK Tryd.prog 41 (interval_floor.sp interval_floor) := by
  refine sok_of (E := ⟨[], []⟩) (L := []) ⟨specs_nil, inl_nil, mixed_ok⟩ 40 Tryd.func41 (by decide) rfl no_loops fun vs bl v bl' h => ?_
  unfold interval_floor.sp at h
  split at h
  · rename_i a0 a1
    simp only [Option.some.injEq, Prod.mk.injEq] at h
    obtain ⟨hp, rfl, rfl⟩ := h
    have hr := interval_floor.run a0 a1
    rw [interval_floor.nat] at hr
    obtain ⟨r, h2⟩ := Option.isSome_iff_exists.1 (by simp [interval_floor.o, interval_floor.K, isSome_cond, bool_cond_true, hp] : (interval_floor.o a0 a1).isSome = true)
    have h3 : interval_floor a0 a1 = r := by unfold interval_floor; rw [h2]; rfl
    have h4 : interval_floor.K a0 a1 some = some r := h2
    rw [h4, Option.bind_some] at hr
    rw [h3]
    exact ⟨hr, by simp [okV, Nat.blt], clo_spec 8 _ (by kernel_rfl), told_blk (by kernel_rfl)⟩
  · cases h

/-! ### culet/interval.ceil (42) -/
def interval_ceil.K {R : Type} (f_interval_floor : Int → Int → (Int)) (a0 : Int) (a1 : Int) (k : (Int) → Option R) : Option R :=
  bif a1 != 0 then
    let t0 := f_interval_floor (IntKind.i64.wrap (0 - a0)) a1
    k (IntKind.i64.wrap (0 - t0))
  else
    none
set_option maxRecDepth 100000 in
theorem interval_ceil.run (f_interval_floor : Int → Int → (Int)) (a0 : Int) (a1 : Int) : xfn Tryd.prog ⟨[(41, interval_floor.sp f_interval_floor)], []⟩ [] 40 Tryd.f42 [.int .i64 a0, .int .i64 a1] [] = interval_ceil.K f_interval_floor a0 a1 (fun r => some (.int .i64 r, [])) := by kernel_rfl
def interval_ceil.o (a0 : Int) (a1 : Int) : Option (Int) := interval_ceil.K interval_floor a0 a1 some
def interval_ceil.pre (a0 : Int) (a1 : Int) : Bool := (interval_ceil.o a0 a1).isSome
def interval_ceil (a0 : Int) (a1 : Int) : Int := (interval_ceil.o a0 a1).getD default
theorem interval_ceil.nat {R : Type} (f_interval_floor : Int → Int → (Int)) (a0 : Int) (a1 : Int) (k : (Int) → Option R) : interval_ceil.K f_interval_floor a0 a1 k = (interval_ceil.K f_interval_floor a0 a1 some).bind k := by
  simp only [interval_ceil.K, bcond, Option.bind_some, Option.bind_none]
theorem interval_ceil.eq {a b : Int} (hb : 0 < b) (h1 : -4611686018427387904 ≤ a) (h2 : a ≤ 4611686018427387904) : interval_ceil a b = cl a b := by
  have hb0 : (b != 0) = true := by simp; omega
  have hq := tdiv_bnd (a := -a) hb (by omega) (by omega)
  simp only [interval_ceil, interval_ceil.o, interval_ceil.K, hb0, cond_true, Option.getD_some, Int.zero_sub]
  rw [w64 (n := -a) (by omega) (by omega), interval_floor.eq hb (by omega) (by omega), w64 (by omega) (by omega)]
  rfl
theorem interval_ceil.ok : SOK Tryd.prog 42 (interval_ceil.sp interval_ceil) := by
  refine sok_of (E := ⟨[(41, interval_floor.sp interval_floor)], []⟩) (L := []) ⟨(specs_cons interval_floor.ok specs_nil), inl_nil, mixed_ok⟩ 40 Tryd.func42 (by decide) rfl no_loops fun vs bl v bl' h => ?_
  unfold interval_ceil.sp at h
  split at h
  · rename_i a0 a1
    simp only [Option.some.injEq, Prod.mk.injEq] at h
    obtain ⟨hp, rfl, rfl⟩ := h
    have hr := interval_ceil.run interval_floor a0 a1
    rw [interval_ceil.nat] at hr
    obtain ⟨r, h2⟩ := Option.isSome_iff_exists.1 (by simp [interval_ceil.o, interval_ceil.K, isSome_cond, bool_cond_true, hp] : (interval_ceil.o a0 a1).isSome = true)
    have h3 : interval_ceil a0 a1 = r := by unfold interval_ceil; rw [h2]; rfl
    have h4 : interval_ceil.K interval_floor a0 a1 some = some r := h2
    rw [h4, Option.bind_some] at hr
    rw [h3]
    exact ⟨hr, by simp [okV, Nat.blt], clo_spec 8 _ (by kernel_rfl), told_blk (by kernel_rfl)⟩
  · cases h

/-! ### culet/interval.Mul (14) -/
def interval_Mul.K {R : Type} (f_interval_Valid : Int → Int → (Bool)) (f_interval_made : Int → Int → (Int × Int × Int)) (f_interval_floor : Int → Int → (Int)) (f_interval_ceil : Int → Int → (Int)) (a0_0 : Int) (a0_1 : Int) (a1_0 : Int) (a1_1 : Int) (k : Int × Int × Int → R) : R :=
  let t0 := f_interval_Valid a0_0 a0_1
  bif !t0 then
    k (0, 0, 1)
  else
    let t1 := f_interval_Valid a1_0 a1_1
    bif !t1 then
      k (0, 0, 1)
    else
      let t2 := f_interval_floor (mn (mn (mn (mn (IntKind.i64.wrap (a0_0 * a1_0)) (IntKind.i64.wrap (a0_0 * a1_0))) (IntKind.i64.wrap (a0_0 * a1_1))) (IntKind.i64.wrap (a0_1 * a1_0))) (IntKind.i64.wrap (a0_1 * a1_1))) 16777216
      let t3 := f_interval_ceil (mx (mx (mx (mx (IntKind.i64.wrap (a0_0 * a1_0)) (IntKind.i64.wrap (a0_0 * a1_0))) (IntKind.i64.wrap (a0_0 * a1_1))) (IntKind.i64.wrap (a0_1 * a1_0))) (IntKind.i64.wrap (a0_1 * a1_1))) 16777216
      let t4 := f_interval_made t2 t3
      k (t4.fst, t4.snd.fst, t4.snd.snd)
set_option maxRecDepth 100000 in
theorem interval_Mul.run (f_interval_Valid : Int → Int → (Bool)) (f_interval_made : Int → Int → (Int × Int × Int)) (f_interval_floor : Int → Int → (Int)) (f_interval_ceil : Int → Int → (Int)) (a0_0 : Int) (a0_1 : Int) (a1_0 : Int) (a1_1 : Int) : xfn Tryd.prog ⟨[(45, interval_Valid.sp f_interval_Valid), (37, interval_made.sp f_interval_made), (40, interval_extremes.sp), (41, interval_floor.sp f_interval_floor), (42, interval_ceil.sp f_interval_ceil)], [(36, Tryd.f36)]⟩ [] 40 Tryd.f14 [.agg ⟨[.int .i64 a0_0, .int .i64 a0_1]⟩, .agg ⟨[.int .i64 a1_0, .int .i64 a1_1]⟩] [] = interval_Mul.K f_interval_Valid f_interval_made f_interval_floor f_interval_ceil a0_0 a0_1 a1_0 a1_1 (fun r => some (.tuple ⟨[.agg ⟨[.int .i64 r.1, .int .i64 r.2.1]⟩, .int .i64 r.2.2]⟩, [])) := by kernel_rfl
def interval_Mul (a0_0 : Int) (a0_1 : Int) (a1_0 : Int) (a1_1 : Int) : Int × Int × Int := interval_Mul.K interval_Valid interval_made interval_floor interval_ceil a0_0 a0_1 a1_0 a1_1 id
theorem interval_Mul.nat {R : Type} (f_interval_Valid : Int → Int → (Bool)) (f_interval_made : Int → Int → (Int × Int × Int)) (f_interval_floor : Int → Int → (Int)) (f_interval_ceil : Int → Int → (Int)) (a0_0 : Int) (a0_1 : Int) (a1_0 : Int) (a1_1 : Int) (k : Int × Int × Int → R) : interval_Mul.K f_interval_Valid f_interval_made f_interval_floor f_interval_ceil a0_0 a0_1 a1_0 a1_1 k = k (interval_Mul.K f_interval_Valid f_interval_made f_interval_floor f_interval_ceil a0_0 a0_1 a1_0 a1_1 id) := by
  simp only [interval_Mul.K, acond k, id_eq]
theorem interval_Mul.eq (a b c d : Int) : interval_Mul a b c d = imul a b c d := by
  simp only [interval_Mul, interval_Mul.K, id_eq, interval_Valid.eq, imul]
  cases h1 : V a b with
  | false => simp
  | true => cases h2 : V c d with
    | false => simp
    | true =>
      have := V_iff.1 h1
      have := V_iff.1 h2
      have e1 := mul_bnd30 (x := a) (y := c) (by omega) (by omega) (by omega) (by omega)
      have e2 := mul_bnd30 (x := a) (y := d) (by omega) (by omega) (by omega) (by omega)
      have e3 := mul_bnd30 (x := b) (y := c) (by omega) (by omega) (by omega) (by omega)
      have e4 := mul_bnd30 (x := b) (y := d) (by omega) (by omega) (by omega) (by omega)
      have w1 : IntKind.i64.wrap (a * c) = a * c := w64 (by omega) (by omega)
      have w2 : IntKind.i64.wrap (a * d) = a * d := w64 (by omega) (by omega)
      have w3 : IntKind.i64.wrap (b * c) = b * c := w64 (by omega) (by omega)
      have w4 : IntKind.i64.wrap (b * d) = b * d := w64 (by omega) (by omega)
      have m1 : min (min (min (min (a * c) (a * c)) (a * d)) (b * c)) (b * d) = mn4 (a * c) (a * d) (b * c) (b * d) := by simp only [mn4]; omega
      have m2 : max (max (max (max (a * c) (a * c)) (a * d)) (b * c)) (b * d) = mx4 (a * c) (a * d) (b * c) (b * d) := by simp only [mx4]; omega
      simp only [w1, w2, w3, w4, mn_eq, mx_eq, Bool.not_true, cond_false, Bool.and_self, cond_true, m1, m2]
      have hmn : mn4 (a * c) (a * d) (b * c) (b * d) ≤ mx4 (a * c) (a * d) (b * c) (b * d) := by simp only [mn4, mx4]; omega
      rw [interval_floor.eq (by omega) (by simp only [mn4]; omega) (by simp only [mn4]; omega), interval_ceil.eq (by omega) (by simp only [mx4]; omega) (by simp only [mx4]; omega), interval_made.eq (fl_le_cl' (by omega) hmn)]
theorem interval_Mul.ok : SOK Tryd.prog 14 (interval_Mul.sp interval_Mul) := by
  refine sok_of (E := ⟨[(45, interval_Valid.sp interval_Valid), (37, interval_made.sp interval_made), (40, interval_extremes.sp), (41, interval_floor.sp interval_floor), (42, interval_ceil.sp interval_ceil)], [(36, Tryd.f36)]⟩) (L := []) ⟨(specs_cons interval_Valid.ok (specs_cons interval_made.ok (specs_cons interval_extremes.ok (specs_cons interval_floor.ok (specs_cons interval_ceil.ok specs_nil))))), (inl_cons ⟨Tryd.func36, by decide, rfl⟩ inl_nil), mixed_ok⟩ 40 Tryd.func14 (by decide) rfl no_loops fun vs bl v bl' h => ?_
  unfold interval_Mul.sp at h
  split at h
  · rename_i a0_0 a0_1 a1_0 a1_1
    simp only [Option.some.injEq, Prod.mk.injEq, true_and] at h
    obtain ⟨rfl, rfl⟩ := h
    refine ⟨?_, by simp [okV, Nat.blt], clo_spec 8 _ (by kernel_rfl), told_blk (by kernel_rfl)⟩
    refine (interval_Mul.run interval_Valid interval_made interval_floor interval_ceil a0_0 a0_1 a1_0 a1_1).trans ?_
    refine (interval_Mul.nat interval_Valid interval_made interval_floor interval_ceil a0_0 a0_1 a1_0 a1_1 _).trans ?_
    kernel_rfl
  · cases h

/-! ### culet/culetref27.floor (43) -/
def culetref27_floor.K {R : Type} (a0 : Int) (a1 : Int) (k : (Int) → Option R) : Option R :=
  bif decide (a1 < 0) then
    bif IntKind.i64.wrap (0 - a1) != 0 then
      bif decide (IntKind.i64.wrap (IntKind.i64.wrap ((IntKind.i64.wrap (0 - a0)).tdiv (IntKind.i64.wrap (0 - a1))) * IntKind.i64.wrap (0 - a1)) > IntKind.i64.wrap (0 - a0)) then
        k (IntKind.i64.wrap (IntKind.i64.wrap ((IntKind.i64.wrap (0 - a0)).tdiv (IntKind.i64.wrap (0 - a1))) - 1))
      else
        k (IntKind.i64.wrap ((IntKind.i64.wrap (0 - a0)).tdiv (IntKind.i64.wrap (0 - a1))))
    else
      none
  else
    bif a1 != 0 then
      bif decide (IntKind.i64.wrap (IntKind.i64.wrap (a0.tdiv a1) * a1) > a0) then
        k (IntKind.i64.wrap (IntKind.i64.wrap (a0.tdiv a1) - 1))
      else
        k (IntKind.i64.wrap (a0.tdiv a1))
    else
      none
set_option maxRecDepth 100000 in
theorem culetref27_floor.run (a0 : Int) (a1 : Int) : xfn Tryd.prog ⟨[], []⟩ [] 40 Tryd.f43 [.int .i64 a0, .int .i64 a1] [] = culetref27_floor.K a0 a1 (fun r => some (.int .i64 r, [])) := by kernel_rfl
def culetref27_floor.o (a0 : Int) (a1 : Int) : Option (Int) := culetref27_floor.K a0 a1 some
def culetref27_floor.pre (a0 : Int) (a1 : Int) : Bool := (culetref27_floor.o a0 a1).isSome
def culetref27_floor (a0 : Int) (a1 : Int) : Int := (culetref27_floor.o a0 a1).getD default
theorem culetref27_floor.nat {R : Type} (a0 : Int) (a1 : Int) (k : (Int) → Option R) : culetref27_floor.K a0 a1 k = (culetref27_floor.K a0 a1 some).bind k := by
  simp only [culetref27_floor.K, bcond, Option.bind_some, Option.bind_none]
theorem ref_floor_pos {a b : Int} (hb : 0 < b) (h1 : -4611686018427387904 ≤ a) (h2 : a ≤ 4611686018427387904) : (bif decide (IntKind.i64.wrap (IntKind.i64.wrap (a.tdiv b) * b) > a) then some (IntKind.i64.wrap (IntKind.i64.wrap (a.tdiv b) - 1)) else some (IntKind.i64.wrap (a.tdiv b))) = some (a / b) := by
  have hq := tdiv_bnd hb h1 h2
  have hd : a.tdiv b = a / b + if 0 ≤ a ∨ b ∣ a then 0 else b.sign := Int.tdiv_eq_ediv
  rw [Int.sign_eq_one_of_pos hb] at hd
  have hs := fl_spec (x := a) hb
  by_cases hv : 0 ≤ a ∨ b ∣ a
  · simp only [hv, if_true, Int.add_zero] at hd
    rw [hd, w64 (n := a / b) (by omega) (by omega)]
    by_cases ha : 0 ≤ a
    · have : 0 ≤ a / b * b := Int.mul_nonneg (fl_nonneg hb ha) (by omega)
      rw [w64 (n := a / b * b) (by omega) (by omega), decide_eq_false (by omega)]
      rfl
    · have hv' : b ∣ a := by rcases hv with h | h; exact absurd h ha; exact h
      have : a / b * b = a := Int.ediv_mul_cancel hv'
      rw [this, w64 (n := a) (by omega) (by omega), decide_eq_false (by omega)]
      rfl
  · simp only [hv, if_false] at hd
    have ha : a < 0 := by omega
    have h0 : a / b < 0 := by
      have := hs.2
      by_cases h : a / b < 0
      · exact h
      · have : 0 ≤ a / b * b := Int.mul_nonneg (by omega) (by omega)
        omega
    have e : (a / b + 1) * b = a / b * b + b := by rw [Int.add_mul, Int.one_mul]
    have h3 : (a / b + 1) * b ≤ 0 := by
      have := Int.mul_nonneg (a := -(a / b + 1)) (b := b) (by omega) (by omega)
      rw [Int.neg_mul] at this
      omega
    rw [hd, w64 (n := a / b + 1) (by omega) (by omega), w64 (n := (a / b + 1) * b) (by omega) (by omega), decide_eq_true (by omega), cond_true, Int.add_sub_cancel, w64 (by omega) (by omega)]
theorem culetref27_floor.eq {a b : Int} (hb : 0 < b) (h1 : -4611686018427387904 ≤ a) (h2 : a ≤ 4611686018427387904) : culetref27_floor a b = a / b := by
  have hb0 : (b != 0) = true := by simp; omega
  have h3 : ¬ b < 0 := by omega
  simp only [culetref27_floor, culetref27_floor.o, culetref27_floor.K, hb0, h3, decide_false, cond_false, cond_true, ref_floor_pos hb h1 h2]
  rfl
theorem culetref27_floor.eqn {a b : Int} (hb : b < 0) (hb' : -4611686018427387904 ≤ b) (h1 : -4611686018427387904 ≤ a) (h2 : a ≤ 4611686018427387904) : culetref27_floor a b = -a / -b := by
  have hb0 : (-b != 0) = true := by simp; omega
  have w1 : IntKind.i64.wrap (0 - a) = -a := by rw [Int.zero_sub]; exact w64 (by omega) (by omega)
  have w2 : IntKind.i64.wrap (0 - b) = -b := by rw [Int.zero_sub]; exact w64 (by omega) (by omega)
  simp only [culetref27_floor, culetref27_floor.o, culetref27_floor.K, w1, w2, hb0, hb, decide_true, cond_false, cond_true, ref_floor_pos (a := -a) (b := -b) (by omega) (by omega) (by omega)]
  rfl
theorem culetref27_floor.ok : SOK Tryd.prog 43 (culetref27_floor.sp culetref27_floor) := by
  refine sok_of (E := ⟨[], []⟩) (L := []) ⟨specs_nil, inl_nil, mixed_ok⟩ 40 Tryd.func43 (by decide) rfl no_loops fun vs bl v bl' h => ?_
  unfold culetref27_floor.sp at h
  split at h
  · rename_i a0 a1
    simp only [Option.some.injEq, Prod.mk.injEq] at h
    obtain ⟨hp, rfl, rfl⟩ := h
    have hr := culetref27_floor.run a0 a1
    rw [culetref27_floor.nat] at hr
    obtain ⟨r, h2⟩ := Option.isSome_iff_exists.1 (by (simp only [culetref27_floor.o, culetref27_floor.K, isSome_cond, Option.isSome_some, bool_cond_true]; revert hp; cases decide (a1 < 0) <;> simp) : (culetref27_floor.o a0 a1).isSome = true)
    have h3 : culetref27_floor a0 a1 = r := by unfold culetref27_floor; rw [h2]; rfl
    have h4 : culetref27_floor.K a0 a1 some = some r := h2
    rw [h4, Option.bind_some] at hr
    rw [h3]
    exact ⟨hr, by simp [okV, Nat.blt], clo_spec 8 _ (by kernel_rfl), told_blk (by kernel_rfl)⟩
  · cases h

/-! ### culet/culetref27.ceil (44) -/
def culetref27_ceil.K {R : Type} (f_culetref27_floor : Int → Int → (Int)) (a0 : Int) (a1 : Int) (k : (Int) → Option R) : Option R :=
  bif bif decide (a1 < 0) then IntKind.i64.wrap (-a1) != 0 else a1 != 0 then
    let t0 := f_culetref27_floor (IntKind.i64.wrap (0 - a0)) a1
    k (IntKind.i64.wrap (0 - t0))
  else
    none
set_option maxRecDepth 100000 in
theorem culetref27_ceil.run (f_culetref27_floor : Int → Int → (Int)) (a0 : Int) (a1 : Int) : xfn Tryd.prog ⟨[(43, culetref27_floor.sp f_culetref27_floor)], []⟩ [] 40 Tryd.f44 [.int .i64 a0, .int .i64 a1] [] = culetref27_ceil.K f_culetref27_floor a0 a1 (fun r => some (.int .i64 r, [])) := by kernel_rfl
def culetref27_ceil.o (a0 : Int) (a1 : Int) : Option (Int) := culetref27_ceil.K culetref27_floor a0 a1 some
def culetref27_ceil.pre (a0 : Int) (a1 : Int) : Bool := (culetref27_ceil.o a0 a1).isSome
def culetref27_ceil (a0 : Int) (a1 : Int) : Int := (culetref27_ceil.o a0 a1).getD default
theorem culetref27_ceil.nat {R : Type} (f_culetref27_floor : Int → Int → (Int)) (a0 : Int) (a1 : Int) (k : (Int) → Option R) : culetref27_ceil.K f_culetref27_floor a0 a1 k = (culetref27_ceil.K f_culetref27_floor a0 a1 some).bind k := by
  simp only [culetref27_ceil.K, bcond, Option.bind_some, Option.bind_none]
theorem culetref27_ceil.eq {a b : Int} (hb : 0 < b) (h1 : -4611686018427387904 ≤ a) (h2 : a ≤ 4611686018427387904) : culetref27_ceil a b = cl a b := by
  have hb0 : (b != 0) = true := by simp; omega
  have h3 : ¬ b < 0 := by omega
  have hq := tdiv_bnd (a := -a) hb (by omega) (by omega)
  simp only [culetref27_ceil, culetref27_ceil.o, culetref27_ceil.K, hb0, h3, decide_false, cond_true, cond_false, Option.getD_some, Int.zero_sub]
  rw [w64 (n := -a) (by omega) (by omega), culetref27_floor.eq hb (by omega) (by omega), w64 (by omega) (by omega)]
  rfl
theorem culetref27_ceil.eqn {a b : Int} (hb : b < 0) (hb' : -4611686018427387904 ≤ b) (h1 : -4611686018427387904 ≤ a) (h2 : a ≤ 4611686018427387904) : culetref27_ceil a b = cl (-a) (-b) := by
  have hw : IntKind.i64.wrap (-b) = -b := w64 (by omega) (by omega)
  have hb0 : (-b != 0) = true := by simp; omega
  have hq := tdiv_bnd (a := a) (b := -b) (by omega) (by omega) (by omega)
  simp only [culetref27_ceil, culetref27_ceil.o, culetref27_ceil.K, hb, decide_true, hw, hb0, cond_true, Option.getD_some, Int.zero_sub]
  rw [w64 (n := -a) (by omega) (by omega), culetref27_floor.eqn hb (by omega) (by omega) (by omega), Int.neg_neg, w64 (by omega) (by omega)]
  simp only [cl, Int.neg_neg]
theorem culetref27_ceil.ok : SOK Tryd.prog 44 (culetref27_ceil.sp culetref27_ceil) := by
  refine sok_of (E := ⟨[(43, culetref27_floor.sp culetref27_floor)], []⟩) (L := []) ⟨(specs_cons culetref27_floor.ok specs_nil), inl_nil, mixed_ok⟩ 40 Tryd.func44 (by decide) rfl no_loops fun vs bl v bl' h => ?_
  unfold culetref27_ceil.sp at h
  split at h
  · rename_i a0 a1
    simp only [Option.some.injEq, Prod.mk.injEq] at h
    obtain ⟨hp, rfl, rfl⟩ := h
    have hr := culetref27_ceil.run culetref27_floor a0 a1
    rw [culetref27_ceil.nat] at hr
    obtain ⟨r, h2⟩ := Option.isSome_iff_exists.1 (by simp [culetref27_ceil.o, culetref27_ceil.K, isSome_cond, bool_cond_true, hp] : (culetref27_ceil.o a0 a1).isSome = true)
    have h3 : culetref27_ceil a0 a1 = r := by unfold culetref27_ceil; rw [h2]; rfl
    have h4 : culetref27_ceil.K culetref27_floor a0 a1 some = some r := h2
    rw [h4, Option.bind_some] at hr
    rw [h3]
    exact ⟨hr, by simp [okV, Nat.blt], clo_spec 8 _ (by kernel_rfl), told_blk (by kernel_rfl)⟩
  · cases h

/-! ### culet/culetref27.Mul (15) -/
def culetref27_Mul.K {R : Type} (f_culetref27_both : Int → Int → Int → Int → (Bool)) (f_culetref27_checked : Int → Int → (Int × Int × Int)) (f_culetref27_floor : Int → Int → (Int)) (f_culetref27_ceil : Int → Int → (Int)) (a0_0 : Int) (a0_1 : Int) (a1_0 : Int) (a1_1 : Int) (k : Int × Int × Int → R) : R :=
  let t0 := f_culetref27_both a0_0 a0_1 a1_0 a1_1
  bif !t0 then
    k (0, 0, 1)
  else
    let t1 := f_culetref27_floor (if IntKind.i64.wrap (a0_1 * a1_1) < if IntKind.i64.wrap (a0_1 * a1_0) < if IntKind.i64.wrap (a0_0 * a1_1) < IntKind.i64.wrap (a0_0 * a1_0) then IntKind.i64.wrap (a0_0 * a1_1) else IntKind.i64.wrap (a0_0 * a1_0) then IntKind.i64.wrap (a0_1 * a1_0) else if IntKind.i64.wrap (a0_0 * a1_1) < IntKind.i64.wrap (a0_0 * a1_0) then IntKind.i64.wrap (a0_0 * a1_1) else IntKind.i64.wrap (a0_0 * a1_0) then IntKind.i64.wrap (a0_1 * a1_1) else if IntKind.i64.wrap (a0_1 * a1_0) < if IntKind.i64.wrap (a0_0 * a1_1) < IntKind.i64.wrap (a0_0 * a1_0) then IntKind.i64.wrap (a0_0 * a1_1) else IntKind.i64.wrap (a0_0 * a1_0) then IntKind.i64.wrap (a0_1 * a1_0) else if IntKind.i64.wrap (a0_0 * a1_1) < IntKind.i64.wrap (a0_0 * a1_0) then IntKind.i64.wrap (a0_0 * a1_1) else IntKind.i64.wrap (a0_0 * a1_0)) 16777216
    let t2 := f_culetref27_ceil (if IntKind.i64.wrap (a0_1 * a1_1) > if IntKind.i64.wrap (a0_1 * a1_0) > if IntKind.i64.wrap (a0_0 * a1_1) > IntKind.i64.wrap (a0_0 * a1_0) then IntKind.i64.wrap (a0_0 * a1_1) else IntKind.i64.wrap (a0_0 * a1_0) then IntKind.i64.wrap (a0_1 * a1_0) else if IntKind.i64.wrap (a0_0 * a1_1) > IntKind.i64.wrap (a0_0 * a1_0) then IntKind.i64.wrap (a0_0 * a1_1) else IntKind.i64.wrap (a0_0 * a1_0) then IntKind.i64.wrap (a0_1 * a1_1) else if IntKind.i64.wrap (a0_1 * a1_0) > if IntKind.i64.wrap (a0_0 * a1_1) > IntKind.i64.wrap (a0_0 * a1_0) then IntKind.i64.wrap (a0_0 * a1_1) else IntKind.i64.wrap (a0_0 * a1_0) then IntKind.i64.wrap (a0_1 * a1_0) else if IntKind.i64.wrap (a0_0 * a1_1) > IntKind.i64.wrap (a0_0 * a1_0) then IntKind.i64.wrap (a0_0 * a1_1) else IntKind.i64.wrap (a0_0 * a1_0)) 16777216
    let t3 := f_culetref27_checked t1 t2
    k (t3.fst, t3.snd.fst, t3.snd.snd)
set_option maxRecDepth 100000 in
theorem culetref27_Mul.run (f_culetref27_both : Int → Int → Int → Int → (Bool)) (f_culetref27_checked : Int → Int → (Int × Int × Int)) (f_culetref27_floor : Int → Int → (Int)) (f_culetref27_ceil : Int → Int → (Int)) (a0_0 : Int) (a0_1 : Int) (a1_0 : Int) (a1_1 : Int) : xfn Tryd.prog ⟨[(38, culetref27_both.sp f_culetref27_both), (39, culetref27_checked.sp f_culetref27_checked), (43, culetref27_floor.sp f_culetref27_floor), (44, culetref27_ceil.sp f_culetref27_ceil)], []⟩ [] 40 Tryd.f15 [.agg ⟨[.int .i64 a0_0, .int .i64 a0_1]⟩, .agg ⟨[.int .i64 a1_0, .int .i64 a1_1]⟩] [] = culetref27_Mul.K f_culetref27_both f_culetref27_checked f_culetref27_floor f_culetref27_ceil a0_0 a0_1 a1_0 a1_1 (fun r => some (.tuple ⟨[.agg ⟨[.int .i64 r.1, .int .i64 r.2.1]⟩, .int .i64 r.2.2]⟩, [])) := by kernel_rfl
def culetref27_Mul (a0_0 : Int) (a0_1 : Int) (a1_0 : Int) (a1_1 : Int) : Int × Int × Int := culetref27_Mul.K culetref27_both culetref27_checked culetref27_floor culetref27_ceil a0_0 a0_1 a1_0 a1_1 id
theorem culetref27_Mul.nat {R : Type} (f_culetref27_both : Int → Int → Int → Int → (Bool)) (f_culetref27_checked : Int → Int → (Int × Int × Int)) (f_culetref27_floor : Int → Int → (Int)) (f_culetref27_ceil : Int → Int → (Int)) (a0_0 : Int) (a0_1 : Int) (a1_0 : Int) (a1_1 : Int) (k : Int × Int × Int → R) : culetref27_Mul.K f_culetref27_both f_culetref27_checked f_culetref27_floor f_culetref27_ceil a0_0 a0_1 a1_0 a1_1 k = k (culetref27_Mul.K f_culetref27_both f_culetref27_checked f_culetref27_floor f_culetref27_ceil a0_0 a0_1 a1_0 a1_1 id) := by
  simp only [culetref27_Mul.K, acond k, id_eq]
theorem culetref27_Mul.eq (a b c d : Int) : culetref27_Mul a b c d = imul a b c d := by
  simp only [culetref27_Mul, culetref27_Mul.K, id_eq, culetref27_both.eq, imul, mnE, mxE]
  cases h : V a b && V c d with
  | false => simp
  | true =>
    have h' := h
    rw [Bool.and_eq_true] at h'
    have := V_iff.1 h'.1
    have := V_iff.1 h'.2
    have e1 := mul_bnd30 (x := a) (y := c) (by omega) (by omega) (by omega) (by omega)
    have e2 := mul_bnd30 (x := a) (y := d) (by omega) (by omega) (by omega) (by omega)
    have e3 := mul_bnd30 (x := b) (y := c) (by omega) (by omega) (by omega) (by omega)
    have e4 := mul_bnd30 (x := b) (y := d) (by omega) (by omega) (by omega) (by omega)
    have w1 : IntKind.i64.wrap (a * c) = a * c := w64 (by omega) (by omega)
    have w2 : IntKind.i64.wrap (a * d) = a * d := w64 (by omega) (by omega)
    have w3 : IntKind.i64.wrap (b * c) = b * c := w64 (by omega) (by omega)
    have w4 : IntKind.i64.wrap (b * d) = b * d := w64 (by omega) (by omega)
    have m1 : min (min (min (a * c) (a * d)) (b * c)) (b * d) = mn4 (a * c) (a * d) (b * c) (b * d) := by simp only [mn4]; omega
    have m2 : max (max (max (a * c) (a * d)) (b * c)) (b * d) = mx4 (a * c) (a * d) (b * c) (b * d) := by simp only [mx4]; omega
    simp only [w1, w2, w3, w4, Bool.not_true, cond_false, cond_true, m1, m2]
    rw [culetref27_floor.eq (by omega) (by simp only [mn4]; omega) (by simp only [mn4]; omega), culetref27_ceil.eq (by omega) (by simp only [mx4]; omega) (by simp only [mx4]; omega), culetref27_checked.eq]
theorem culetref27_Mul.ok : SOK Tryd.prog 15 (culetref27_Mul.sp culetref27_Mul) := by
  refine sok_of (E := ⟨[(38, culetref27_both.sp culetref27_both), (39, culetref27_checked.sp culetref27_checked), (43, culetref27_floor.sp culetref27_floor), (44, culetref27_ceil.sp culetref27_ceil)], []⟩) (L := []) ⟨(specs_cons culetref27_both.ok (specs_cons culetref27_checked.ok (specs_cons culetref27_floor.ok (specs_cons culetref27_ceil.ok specs_nil)))), inl_nil, mixed_ok⟩ 40 Tryd.func15 (by decide) rfl no_loops fun vs bl v bl' h => ?_
  unfold culetref27_Mul.sp at h
  split at h
  · rename_i a0_0 a0_1 a1_0 a1_1
    simp only [Option.some.injEq, Prod.mk.injEq, true_and] at h
    obtain ⟨rfl, rfl⟩ := h
    refine ⟨?_, by simp [okV, Nat.blt], clo_spec 8 _ (by kernel_rfl), told_blk (by kernel_rfl)⟩
    refine (culetref27_Mul.run culetref27_both culetref27_checked culetref27_floor culetref27_ceil a0_0 a0_1 a1_0 a1_1).trans ?_
    refine (culetref27_Mul.nat culetref27_both culetref27_checked culetref27_floor culetref27_ceil a0_0 a0_1 a1_0 a1_1 _).trans ?_
    kernel_rfl
  · cases h

/-! ### culet/interval.Div (16) -/
def interval_Div.K {R : Type} (f_interval_Valid : Int → Int → (Bool)) (f_interval_made : Int → Int → (Int × Int × Int)) (f_interval_floor : Int → Int → (Int)) (f_interval_ceil : Int → Int → (Int)) (a0_0 : Int) (a0_1 : Int) (a1_0 : Int) (a1_1 : Int) (k : Int × Int × Int → Option R) : Option R :=
  let t0 := f_interval_Valid a0_0 a0_1
  bif !t0 then
    k (0, 0, 1)
  else
    let t1 := f_interval_Valid a1_0 a1_1
    bif !t1 then
      k (0, 0, 1)
    else
      bif decide (a1_0 ≤ 0) then
        bif decide (a1_1 ≥ 0) then
          k (0, 0, 10)
        else
          bif decide (a1_1 < 0) then
            bif IntKind.i64.wrap (0 - a1_1) != 0 then
              bif IntKind.i64.wrap (0 - a1_0) != 0 then
                bif IntKind.i64.wrap (0 - a1_1) != 0 then
                  bif IntKind.i64.wrap (0 - a1_0) != 0 then
                    let t2 := f_interval_floor (IntKind.i64.wrap (IntKind.i64.wrap (0 - a0_1) * 16777216)) (IntKind.i64.wrap (0 - a1_1))
                    let t3 := f_interval_floor (IntKind.i64.wrap (IntKind.i64.wrap (0 - a0_1) * 16777216)) (IntKind.i64.wrap (0 - a1_0))
                    let t4 := f_interval_ceil (IntKind.i64.wrap (IntKind.i64.wrap (0 - a0_0) * 16777216)) (IntKind.i64.wrap (0 - a1_1))
                    let t5 := f_interval_ceil (IntKind.i64.wrap (IntKind.i64.wrap (0 - a0_0) * 16777216)) (IntKind.i64.wrap (0 - a1_0))
                    let t6 := f_interval_made (mn (mn t2 t2) t3) (mx (mx t4 t4) t5)
                    k (t6.fst, t6.snd.fst, t6.snd.snd)
                  else
                    none
                else
                  none
              else
                none
            else
              none
          else
            bif a1_0 != 0 then
              bif a1_1 != 0 then
                bif a1_0 != 0 then
                  bif a1_1 != 0 then
                    let t7 := f_interval_floor (IntKind.i64.wrap (a0_0 * 16777216)) a1_0
                    let t8 := f_interval_floor (IntKind.i64.wrap (a0_0 * 16777216)) a1_1
                    let t9 := f_interval_ceil (IntKind.i64.wrap (a0_1 * 16777216)) a1_0
                    let t10 := f_interval_ceil (IntKind.i64.wrap (a0_1 * 16777216)) a1_1
                    let t11 := f_interval_made (mn (mn t7 t7) t8) (mx (mx t9 t9) t10)
                    k (t11.fst, t11.snd.fst, t11.snd.snd)
                  else
                    none
                else
                  none
              else
                none
            else
              none
      else
        bif decide (a1_1 < 0) then
          bif IntKind.i64.wrap (0 - a1_1) != 0 then
            bif IntKind.i64.wrap (0 - a1_0) != 0 then
              bif IntKind.i64.wrap (0 - a1_1) != 0 then
                bif IntKind.i64.wrap (0 - a1_0) != 0 then
                  let t12 := f_interval_floor (IntKind.i64.wrap (IntKind.i64.wrap (0 - a0_1) * 16777216)) (IntKind.i64.wrap (0 - a1_1))
                  let t13 := f_interval_floor (IntKind.i64.wrap (IntKind.i64.wrap (0 - a0_1) * 16777216)) (IntKind.i64.wrap (0 - a1_0))
                  let t14 := f_interval_ceil (IntKind.i64.wrap (IntKind.i64.wrap (0 - a0_0) * 16777216)) (IntKind.i64.wrap (0 - a1_1))
                  let t15 := f_interval_ceil (IntKind.i64.wrap (IntKind.i64.wrap (0 - a0_0) * 16777216)) (IntKind.i64.wrap (0 - a1_0))
                  let t16 := f_interval_made (mn (mn t12 t12) t13) (mx (mx t14 t14) t15)
                  k (t16.fst, t16.snd.fst, t16.snd.snd)
                else
                  none
              else
                none
            else
              none
          else
            none
        else
          bif a1_0 != 0 then
            bif a1_1 != 0 then
              bif a1_0 != 0 then
                bif a1_1 != 0 then
                  let t17 := f_interval_floor (IntKind.i64.wrap (a0_0 * 16777216)) a1_0
                  let t18 := f_interval_floor (IntKind.i64.wrap (a0_0 * 16777216)) a1_1
                  let t19 := f_interval_ceil (IntKind.i64.wrap (a0_1 * 16777216)) a1_0
                  let t20 := f_interval_ceil (IntKind.i64.wrap (a0_1 * 16777216)) a1_1
                  let t21 := f_interval_made (mn (mn t17 t17) t18) (mx (mx t19 t19) t20)
                  k (t21.fst, t21.snd.fst, t21.snd.snd)
                else
                  none
              else
                none
            else
              none
          else
            none
set_option maxRecDepth 100000 in
theorem interval_Div.run (f_interval_Valid : Int → Int → (Bool)) (f_interval_made : Int → Int → (Int × Int × Int)) (f_interval_floor : Int → Int → (Int)) (f_interval_ceil : Int → Int → (Int)) (a0_0 : Int) (a0_1 : Int) (a1_0 : Int) (a1_1 : Int) : xfn Tryd.prog ⟨[(45, interval_Valid.sp f_interval_Valid), (37, interval_made.sp f_interval_made), (40, interval_extremes.sp), (41, interval_floor.sp f_interval_floor), (42, interval_ceil.sp f_interval_ceil)], [(36, Tryd.f36)]⟩ [] 40 Tryd.f16 [.agg ⟨[.int .i64 a0_0, .int .i64 a0_1]⟩, .agg ⟨[.int .i64 a1_0, .int .i64 a1_1]⟩] [] = interval_Div.K f_interval_Valid f_interval_made f_interval_floor f_interval_ceil a0_0 a0_1 a1_0 a1_1 (fun r => some (.tuple ⟨[.agg ⟨[.int .i64 r.1, .int .i64 r.2.1]⟩, .int .i64 r.2.2]⟩, [])) := by kernel_rfl
def interval_Div.o (a0_0 : Int) (a0_1 : Int) (a1_0 : Int) (a1_1 : Int) : Option (Int × Int × Int) := interval_Div.K interval_Valid interval_made interval_floor interval_ceil a0_0 a0_1 a1_0 a1_1 some
def interval_Div.pre (a0_0 : Int) (a0_1 : Int) (a1_0 : Int) (a1_1 : Int) : Bool := (interval_Div.o a0_0 a0_1 a1_0 a1_1).isSome
def interval_Div (a0_0 : Int) (a0_1 : Int) (a1_0 : Int) (a1_1 : Int) : Int × Int × Int := (interval_Div.o a0_0 a0_1 a1_0 a1_1).getD default
theorem interval_Div.nat {R : Type} (f_interval_Valid : Int → Int → (Bool)) (f_interval_made : Int → Int → (Int × Int × Int)) (f_interval_floor : Int → Int → (Int)) (f_interval_ceil : Int → Int → (Int)) (a0_0 : Int) (a0_1 : Int) (a1_0 : Int) (a1_1 : Int) (k : Int × Int × Int → Option R) : interval_Div.K f_interval_Valid f_interval_made f_interval_floor f_interval_ceil a0_0 a0_1 a1_0 a1_1 k = (interval_Div.K f_interval_Valid f_interval_made f_interval_floor f_interval_ceil a0_0 a0_1 a1_0 a1_1 some).bind k := by
  simp only [interval_Div.K, bcond, Option.bind_some, Option.bind_none]
theorem interval_Div.o_eq (a b c d : Int) : interval_Div.o a b c d = some (idiv a b c d) := by
  simp only [interval_Div.o, interval_Div.K, interval_Valid.eq, idiv]
  cases h1 : V a b with
  | false => simp
  | true => cases h2 : V c d with
    | false => simp
    | true =>
      have := V_iff.1 h1
      have := V_iff.1 h2
      have w1 : IntKind.i64.wrap (0 - a) = -a := by rw [Int.zero_sub]; exact w64 (by omega) (by omega)
      have w2 : IntKind.i64.wrap (0 - b) = -b := by rw [Int.zero_sub]; exact w64 (by omega) (by omega)
      have w3 : IntKind.i64.wrap (0 - c) = -c := by rw [Int.zero_sub]; exact w64 (by omega) (by omega)
      have w4 : IntKind.i64.wrap (0 - d) = -d := by rw [Int.zero_sub]; exact w64 (by omega) (by omega)
      have w5 : IntKind.i64.wrap (a * 16777216) = a * 16777216 := w64 (by omega) (by omega)
      have w6 : IntKind.i64.wrap (b * 16777216) = b * 16777216 := w64 (by omega) (by omega)
      have w7 : IntKind.i64.wrap (-a * 16777216) = -a * 16777216 := w64 (by omega) (by omega)
      have w8 : IntKind.i64.wrap (-b * 16777216) = -b * 16777216 := w64 (by omega) (by omega)
      simp only [w1, w2, w3, w4, w5, w6, w7, w8, mn_eq, mx_eq, Bool.not_true, cond_false, cond_true, Bool.and_self]
      have pos : ∀ x y u v : Int, -1073741824 ≤ x → x ≤ y → y ≤ 1073741824 → 0 < u → u ≤ v → v ≤ 1073741824 → interval_made (min (min (interval_floor (x * 16777216) u) (interval_floor (x * 16777216) u)) (interval_floor (x * 16777216) v)) (max (max (interval_ceil (y * 16777216) u) (interval_ceil (y * 16777216) u)) (interval_ceil (y * 16777216) v)) = pdiv x y u v := fun x y u v hx hxy hy hu huv hv => by
        have hv0 : 0 < v := by omega
        have f1 : interval_floor (x * 16777216) u = x * 16777216 / u := interval_floor.eq hu (by omega) (by omega)
        have f2 : interval_floor (x * 16777216) v = x * 16777216 / v := interval_floor.eq hv0 (by omega) (by omega)
        have f3 : interval_ceil (y * 16777216) u = cl (y * 16777216) u := interval_ceil.eq hu (by omega) (by omega)
        have f4 : interval_ceil (y * 16777216) v = cl (y * 16777216) v := interval_ceil.eq hv0 (by omega) (by omega)
        rw [f1, f2, f3, f4, Int.min_self, Int.max_self]
        have := fl_le_cl' (x := x * 16777216) (y := y * 16777216) hu (by omega)
        exact interval_made.eq (by omega)
      by_cases h3 : c ≤ 0
      · by_cases h4 : d ≥ 0
        · simp [h3, h4]
        · have h5 : d < 0 := by omega
          have n1 : ((-d) != 0) = true := by simp; omega
          have n2 : ((-c) != 0) = true := by simp; omega
          have n3 : ¬ (c ≤ 0 ∧ 0 ≤ d) := by omega
          rw [if_neg n3, if_pos h5]
          simp only [h3, h4, h5, n1, n2, decide_true, decide_false, cond_true, cond_false, pos (-b) (-a) (-d) (-c) (by omega) (by omega) (by omega) (by omega) (by omega) (by omega)]
      · have h5 : ¬ d < 0 := by omega
        have n1 : (c != 0) = true := by simp; omega
        have n2 : (d != 0) = true := by simp; omega
        have n3 : ¬ (c ≤ 0 ∧ 0 ≤ d) := by omega
        rw [if_neg n3, if_neg h5]
        simp only [h3, h5, n1, n2, decide_true, decide_false, cond_true, cond_false, pos a b c d (by omega) (by omega) (by omega) (by omega) (by omega) (by omega)]
theorem interval_Div.total (a b c d : Int) : (interval_Div.o a b c d).isSome = true := by rw [interval_Div.o_eq]; rfl
theorem interval_Div.eq (a b c d : Int) : interval_Div a b c d = idiv a b c d := by rw [interval_Div, interval_Div.o_eq]; rfl
theorem interval_Div.ok : SOK Tryd.prog 16 (interval_Div.sp interval_Div) := by
  refine sok_of (E := ⟨[(45, interval_Valid.sp interval_Valid), (37, interval_made.sp interval_made), (40, interval_extremes.sp), (41, interval_floor.sp interval_floor), (42, interval_ceil.sp interval_ceil)], [(36, Tryd.f36)]⟩) (L := []) ⟨(specs_cons interval_Valid.ok (specs_cons interval_made.ok (specs_cons interval_extremes.ok (specs_cons interval_floor.ok (specs_cons interval_ceil.ok specs_nil))))), (inl_cons ⟨Tryd.func36, by decide, rfl⟩ inl_nil), mixed_ok⟩ 40 Tryd.func16 (by decide) rfl no_loops fun vs bl v bl' h => ?_
  unfold interval_Div.sp at h
  split at h
  · rename_i a0_0 a0_1 a1_0 a1_1
    simp only [Option.some.injEq, Prod.mk.injEq] at h
    obtain ⟨hp, rfl, rfl⟩ := h
    have hr := interval_Div.run interval_Valid interval_made interval_floor interval_ceil a0_0 a0_1 a1_0 a1_1
    rw [interval_Div.nat] at hr
    obtain ⟨r, h2⟩ := Option.isSome_iff_exists.1 (interval_Div.total a0_0 a0_1 a1_0 a1_1 : (interval_Div.o a0_0 a0_1 a1_0 a1_1).isSome = true)
    have h3 : interval_Div a0_0 a0_1 a1_0 a1_1 = r := by unfold interval_Div; rw [h2]; rfl
    have h4 : interval_Div.K interval_Valid interval_made interval_floor interval_ceil a0_0 a0_1 a1_0 a1_1 some = some r := h2
    rw [h4, Option.bind_some] at hr
    rw [h3]
    exact ⟨hr, by simp [okV, Nat.blt], clo_spec 8 _ (by kernel_rfl), told_blk (by kernel_rfl)⟩
  · cases h

/-! ### culet/culetref27.Div (17) -/
def culetref27_Div.K {R : Type} (f_culetref27_both : Int → Int → Int → Int → (Bool)) (f_culetref27_checked : Int → Int → (Int × Int × Int)) (f_culetref27_floor : Int → Int → (Int)) (f_culetref27_ceil : Int → Int → (Int)) (a0_0 : Int) (a0_1 : Int) (a1_0 : Int) (a1_1 : Int) (k : Int × Int × Int → Option R) : Option R :=
  let t0 := f_culetref27_both a0_0 a0_1 a1_0 a1_1
  bif !t0 then
    k (0, 0, 1)
  else
    bif decide (a1_0 ≤ 0) then
      bif decide (a1_1 ≥ 0) then
        k (0, 0, 10)
      else
        bif bif decide (a1_0 < 0) then IntKind.i64.wrap (-a1_0) != 0 else a1_0 != 0 then
          bif bif decide (a1_1 < 0) then IntKind.i64.wrap (-a1_1) != 0 else a1_1 != 0 then
            bif bif decide (a1_0 < 0) then IntKind.i64.wrap (-a1_0) != 0 else a1_0 != 0 then
              bif bif decide (a1_1 < 0) then IntKind.i64.wrap (-a1_1) != 0 else a1_1 != 0 then
                bif bif decide (a1_0 < 0) then IntKind.i64.wrap (-a1_0) != 0 else a1_0 != 0 then
                  bif bif decide (a1_1 < 0) then IntKind.i64.wrap (-a1_1) != 0 else a1_1 != 0 then
                    bif bif decide (a1_0 < 0) then IntKind.i64.wrap (-a1_0) != 0 else a1_0 != 0 then
                      bif bif decide (a1_1 < 0) then IntKind.i64.wrap (-a1_1) != 0 else a1_1 != 0 then
                        let t1 := f_culetref27_floor (IntKind.i64.wrap (a0_1 * 16777216)) a1_1
                        let t2 := f_culetref27_floor (IntKind.i64.wrap (a0_1 * 16777216)) a1_0
                        let t3 := f_culetref27_floor (IntKind.i64.wrap (a0_0 * 16777216)) a1_1
                        let t4 := f_culetref27_floor (IntKind.i64.wrap (a0_0 * 16777216)) a1_0
                        let t5 := f_culetref27_ceil (IntKind.i64.wrap (a0_1 * 16777216)) a1_1
                        let t6 := f_culetref27_ceil (IntKind.i64.wrap (a0_1 * 16777216)) a1_0
                        let t7 := f_culetref27_ceil (IntKind.i64.wrap (a0_0 * 16777216)) a1_1
                        let t8 := f_culetref27_ceil (IntKind.i64.wrap (a0_0 * 16777216)) a1_0
                        let t9 := f_culetref27_checked (if t1 < if t2 < if t3 < t4 then t3 else t4 then t2 else if t3 < t4 then t3 else t4 then t1 else if t2 < if t3 < t4 then t3 else t4 then t2 else if t3 < t4 then t3 else t4) (if t5 > if t6 > if t7 > t8 then t7 else t8 then t6 else if t7 > t8 then t7 else t8 then t5 else if t6 > if t7 > t8 then t7 else t8 then t6 else if t7 > t8 then t7 else t8)
                        k (t9.fst, t9.snd.fst, t9.snd.snd)
                      else
                        none
                    else
                      none
                  else
                    none
                else
                  none
              else
                none
            else
              none
          else
            none
        else
          none
    else
      bif bif decide (a1_0 < 0) then IntKind.i64.wrap (-a1_0) != 0 else a1_0 != 0 then
        bif bif decide (a1_1 < 0) then IntKind.i64.wrap (-a1_1) != 0 else a1_1 != 0 then
          bif bif decide (a1_0 < 0) then IntKind.i64.wrap (-a1_0) != 0 else a1_0 != 0 then
            bif bif decide (a1_1 < 0) then IntKind.i64.wrap (-a1_1) != 0 else a1_1 != 0 then
              bif bif decide (a1_0 < 0) then IntKind.i64.wrap (-a1_0) != 0 else a1_0 != 0 then
                bif bif decide (a1_1 < 0) then IntKind.i64.wrap (-a1_1) != 0 else a1_1 != 0 then
                  bif bif decide (a1_0 < 0) then IntKind.i64.wrap (-a1_0) != 0 else a1_0 != 0 then
                    bif bif decide (a1_1 < 0) then IntKind.i64.wrap (-a1_1) != 0 else a1_1 != 0 then
                      let t10 := f_culetref27_floor (IntKind.i64.wrap (a0_1 * 16777216)) a1_1
                      let t11 := f_culetref27_floor (IntKind.i64.wrap (a0_1 * 16777216)) a1_0
                      let t12 := f_culetref27_floor (IntKind.i64.wrap (a0_0 * 16777216)) a1_1
                      let t13 := f_culetref27_floor (IntKind.i64.wrap (a0_0 * 16777216)) a1_0
                      let t14 := f_culetref27_ceil (IntKind.i64.wrap (a0_1 * 16777216)) a1_1
                      let t15 := f_culetref27_ceil (IntKind.i64.wrap (a0_1 * 16777216)) a1_0
                      let t16 := f_culetref27_ceil (IntKind.i64.wrap (a0_0 * 16777216)) a1_1
                      let t17 := f_culetref27_ceil (IntKind.i64.wrap (a0_0 * 16777216)) a1_0
                      let t18 := f_culetref27_checked (if t10 < if t11 < if t12 < t13 then t12 else t13 then t11 else if t12 < t13 then t12 else t13 then t10 else if t11 < if t12 < t13 then t12 else t13 then t11 else if t12 < t13 then t12 else t13) (if t14 > if t15 > if t16 > t17 then t16 else t17 then t15 else if t16 > t17 then t16 else t17 then t14 else if t15 > if t16 > t17 then t16 else t17 then t15 else if t16 > t17 then t16 else t17)
                      k (t18.fst, t18.snd.fst, t18.snd.snd)
                    else
                      none
                  else
                    none
                else
                  none
              else
                none
            else
              none
          else
            none
        else
          none
      else
        none
set_option maxRecDepth 100000 in
theorem culetref27_Div.run (f_culetref27_both : Int → Int → Int → Int → (Bool)) (f_culetref27_checked : Int → Int → (Int × Int × Int)) (f_culetref27_floor : Int → Int → (Int)) (f_culetref27_ceil : Int → Int → (Int)) (a0_0 : Int) (a0_1 : Int) (a1_0 : Int) (a1_1 : Int) : xfn Tryd.prog ⟨[(38, culetref27_both.sp f_culetref27_both), (39, culetref27_checked.sp f_culetref27_checked), (43, culetref27_floor.sp f_culetref27_floor), (44, culetref27_ceil.sp f_culetref27_ceil)], []⟩ [] 40 Tryd.f17 [.agg ⟨[.int .i64 a0_0, .int .i64 a0_1]⟩, .agg ⟨[.int .i64 a1_0, .int .i64 a1_1]⟩] [] = culetref27_Div.K f_culetref27_both f_culetref27_checked f_culetref27_floor f_culetref27_ceil a0_0 a0_1 a1_0 a1_1 (fun r => some (.tuple ⟨[.agg ⟨[.int .i64 r.1, .int .i64 r.2.1]⟩, .int .i64 r.2.2]⟩, [])) := by kernel_rfl
def culetref27_Div.o (a0_0 : Int) (a0_1 : Int) (a1_0 : Int) (a1_1 : Int) : Option (Int × Int × Int) := culetref27_Div.K culetref27_both culetref27_checked culetref27_floor culetref27_ceil a0_0 a0_1 a1_0 a1_1 some
def culetref27_Div.pre (a0_0 : Int) (a0_1 : Int) (a1_0 : Int) (a1_1 : Int) : Bool := (culetref27_Div.o a0_0 a0_1 a1_0 a1_1).isSome
def culetref27_Div (a0_0 : Int) (a0_1 : Int) (a1_0 : Int) (a1_1 : Int) : Int × Int × Int := (culetref27_Div.o a0_0 a0_1 a1_0 a1_1).getD default
theorem culetref27_Div.nat {R : Type} (f_culetref27_both : Int → Int → Int → Int → (Bool)) (f_culetref27_checked : Int → Int → (Int × Int × Int)) (f_culetref27_floor : Int → Int → (Int)) (f_culetref27_ceil : Int → Int → (Int)) (a0_0 : Int) (a0_1 : Int) (a1_0 : Int) (a1_1 : Int) (k : Int × Int × Int → Option R) : culetref27_Div.K f_culetref27_both f_culetref27_checked f_culetref27_floor f_culetref27_ceil a0_0 a0_1 a1_0 a1_1 k = (culetref27_Div.K f_culetref27_both f_culetref27_checked f_culetref27_floor f_culetref27_ceil a0_0 a0_1 a1_0 a1_1 some).bind k := by
  simp only [culetref27_Div.K, bcond, Option.bind_some, Option.bind_none]
theorem culetref27_Div.o_eq (a b c d : Int) : culetref27_Div.o a b c d = some (idiv a b c d) := by
  simp only [culetref27_Div.o, culetref27_Div.K, culetref27_both.eq, idiv, mnE, mxE]
  cases h : V a b && V c d with
  | false => simp
  | true =>
    have h' := h
    rw [Bool.and_eq_true] at h'
    have := V_iff.1 h'.1
    have := V_iff.1 h'.2
    have w3 : IntKind.i64.wrap (-c) = -c := w64 (by omega) (by omega)
    have w4 : IntKind.i64.wrap (-d) = -d := w64 (by omega) (by omega)
    have w5 : IntKind.i64.wrap (a * 16777216) = a * 16777216 := w64 (by omega) (by omega)
    have w6 : IntKind.i64.wrap (b * 16777216) = b * 16777216 := w64 (by omega) (by omega)
    simp only [w3, w4, w5, w6, Bool.not_true, cond_false, cond_true, culetref27_checked.eq]
    by_cases h3 : c ≤ 0
    · by_cases h4 : d ≥ 0
      · simp [h3, h4]
      · have h5 : d < 0 := by omega
        have h6 : c < 0 := by omega
        have n1 : ((-d) != 0) = true := by simp; omega
        have n2 : ((-c) != 0) = true := by simp; omega
        have n3 : ¬ (c ≤ 0 ∧ 0 ≤ d) := by omega
        have f1 : culetref27_floor (a * 16777216) c = -(a * 16777216) / -c := culetref27_floor.eqn h6 (by omega) (by omega) (by omega)
        have f2 : culetref27_floor (a * 16777216) d = -(a * 16777216) / -d := culetref27_floor.eqn h5 (by omega) (by omega) (by omega)
        have f3 : culetref27_floor (b * 16777216) c = -(b * 16777216) / -c := culetref27_floor.eqn h6 (by omega) (by omega) (by omega)
        have f4 : culetref27_floor (b * 16777216) d = -(b * 16777216) / -d := culetref27_floor.eqn h5 (by omega) (by omega) (by omega)
        have f5 : culetref27_ceil (a * 16777216) c = cl (-(a * 16777216)) (-c) := culetref27_ceil.eqn h6 (by omega) (by omega) (by omega)
        have f6 : culetref27_ceil (a * 16777216) d = cl (-(a * 16777216)) (-d) := culetref27_ceil.eqn h5 (by omega) (by omega) (by omega)
        have f7 : culetref27_ceil (b * 16777216) c = cl (-(b * 16777216)) (-c) := culetref27_ceil.eqn h6 (by omega) (by omega) (by omega)
        have f8 : culetref27_ceil (b * 16777216) d = cl (-(b * 16777216)) (-d) := culetref27_ceil.eqn h5 (by omega) (by omega) (by omega)
        rw [if_neg n3, if_pos h5]
        simp only [h3, h4, h5, h6, n1, n2, decide_true, decide_false, cond_true, cond_false, f1, f2, f3, f4, f5, f6, f7, f8, pdiv, Int.neg_mul]
        have g1 : -(b * 16777216) / -c ≤ -(a * 16777216) / -c := fl_mono (by omega) (by omega)
        have g2 : -(b * 16777216) / -d ≤ -(a * 16777216) / -d := fl_mono (by omega) (by omega)
        have g3 : cl (-(b * 16777216)) (-c) ≤ cl (-(a * 16777216)) (-c) := cl_mono (by omega) (by omega)
        have g4 : cl (-(b * 16777216)) (-d) ≤ cl (-(a * 16777216)) (-d) := cl_mono (by omega) (by omega)
        refine congrArg some (chk_congr ?_ ?_) <;> omega
    · have h5 : ¬ d < 0 := by omega
      have h6 : ¬ c < 0 := by omega
      have n1 : (c != 0) = true := by simp; omega
      have n2 : (d != 0) = true := by simp; omega
      have n3 : ¬ (c ≤ 0 ∧ 0 ≤ d) := by omega
      have hc : 0 < c := by omega
      have hd : 0 < d := by omega
      have f1 : culetref27_floor (a * 16777216) c = a * 16777216 / c := culetref27_floor.eq hc (by omega) (by omega)
      have f2 : culetref27_floor (a * 16777216) d = a * 16777216 / d := culetref27_floor.eq hd (by omega) (by omega)
      have f3 : culetref27_floor (b * 16777216) c = b * 16777216 / c := culetref27_floor.eq hc (by omega) (by omega)
      have f4 : culetref27_floor (b * 16777216) d = b * 16777216 / d := culetref27_floor.eq hd (by omega) (by omega)
      have f5 : culetref27_ceil (a * 16777216) c = cl (a * 16777216) c := culetref27_ceil.eq hc (by omega) (by omega)
      have f6 : culetref27_ceil (a * 16777216) d = cl (a * 16777216) d := culetref27_ceil.eq hd (by omega) (by omega)
      have f7 : culetref27_ceil (b * 16777216) c = cl (b * 16777216) c := culetref27_ceil.eq hc (by omega) (by omega)
      have f8 : culetref27_ceil (b * 16777216) d = cl (b * 16777216) d := culetref27_ceil.eq hd (by omega) (by omega)
      rw [if_neg n3, if_neg h5]
      simp only [h3, h5, h6, n1, n2, decide_true, decide_false, cond_true, cond_false, f1, f2, f3, f4, f5, f6, f7, f8, pdiv]
      have g1 : a * 16777216 / c ≤ b * 16777216 / c := fl_mono hc (by omega)
      have g2 : a * 16777216 / d ≤ b * 16777216 / d := fl_mono hd (by omega)
      have g3 : cl (a * 16777216) c ≤ cl (b * 16777216) c := cl_mono hc (by omega)
      have g4 : cl (a * 16777216) d ≤ cl (b * 16777216) d := cl_mono hd (by omega)
      refine congrArg some (chk_congr ?_ ?_) <;> omega
theorem culetref27_Div.total (a b c d : Int) : (culetref27_Div.o a b c d).isSome = true := by rw [culetref27_Div.o_eq]; rfl
theorem culetref27_Div.eq (a b c d : Int) : culetref27_Div a b c d = idiv a b c d := by rw [culetref27_Div, culetref27_Div.o_eq]; rfl
theorem culetref27_Div.ok : SOK Tryd.prog 17 (culetref27_Div.sp culetref27_Div) := by
  refine sok_of (E := ⟨[(38, culetref27_both.sp culetref27_both), (39, culetref27_checked.sp culetref27_checked), (43, culetref27_floor.sp culetref27_floor), (44, culetref27_ceil.sp culetref27_ceil)], []⟩) (L := []) ⟨(specs_cons culetref27_both.ok (specs_cons culetref27_checked.ok (specs_cons culetref27_floor.ok (specs_cons culetref27_ceil.ok specs_nil)))), inl_nil, mixed_ok⟩ 40 Tryd.func17 (by decide) rfl no_loops fun vs bl v bl' h => ?_
  unfold culetref27_Div.sp at h
  split at h
  · rename_i a0_0 a0_1 a1_0 a1_1
    simp only [Option.some.injEq, Prod.mk.injEq] at h
    obtain ⟨hp, rfl, rfl⟩ := h
    have hr := culetref27_Div.run culetref27_both culetref27_checked culetref27_floor culetref27_ceil a0_0 a0_1 a1_0 a1_1
    rw [culetref27_Div.nat] at hr
    obtain ⟨r, h2⟩ := Option.isSome_iff_exists.1 (culetref27_Div.total a0_0 a0_1 a1_0 a1_1 : (culetref27_Div.o a0_0 a0_1 a1_0 a1_1).isSome = true)
    have h3 : culetref27_Div a0_0 a0_1 a1_0 a1_1 = r := by unfold culetref27_Div; rw [h2]; rfl
    have h4 : culetref27_Div.K culetref27_both culetref27_checked culetref27_floor culetref27_ceil a0_0 a0_1 a1_0 a1_1 some = some r := h2
    rw [h4, Option.bind_some] at hr
    rw [h3]
    exact ⟨hr, by simp [okV, Nat.blt], clo_spec 8 _ (by kernel_rfl), told_blk (by kernel_rfl)⟩
  · cases h

/-! ### culet/interval.Neg (18) -/
def interval_Neg.K {R : Type} (f_interval_made : Int → Int → (Int × Int × Int)) (f_interval_Valid : Int → Int → (Bool)) (a0_0 : Int) (a0_1 : Int) (k : Int × Int × Int → R) : R :=
  let t0 := f_interval_Valid a0_0 a0_1
  bif !t0 then
    k (0, 0, 1)
  else
    let t1 := f_interval_made (IntKind.i64.wrap (0 - a0_1)) (IntKind.i64.wrap (0 - a0_0))
    k (t1.fst, t1.snd.fst, t1.snd.snd)
set_option maxRecDepth 100000 in
theorem interval_Neg.run (f_interval_made : Int → Int → (Int × Int × Int)) (f_interval_Valid : Int → Int → (Bool)) (a0_0 : Int) (a0_1 : Int) : xfn Tryd.prog ⟨[(37, interval_made.sp f_interval_made), (45, interval_Valid.sp f_interval_Valid)], []⟩ [] 40 Tryd.f18 [.agg ⟨[.int .i64 a0_0, .int .i64 a0_1]⟩] [] = interval_Neg.K f_interval_made f_interval_Valid a0_0 a0_1 (fun r => some (.tuple ⟨[.agg ⟨[.int .i64 r.1, .int .i64 r.2.1]⟩, .int .i64 r.2.2]⟩, [])) := by kernel_rfl
def interval_Neg (a0_0 : Int) (a0_1 : Int) : Int × Int × Int := interval_Neg.K interval_made interval_Valid a0_0 a0_1 id
theorem interval_Neg.nat {R : Type} (f_interval_made : Int → Int → (Int × Int × Int)) (f_interval_Valid : Int → Int → (Bool)) (a0_0 : Int) (a0_1 : Int) (k : Int × Int × Int → R) : interval_Neg.K f_interval_made f_interval_Valid a0_0 a0_1 k = k (interval_Neg.K f_interval_made f_interval_Valid a0_0 a0_1 id) := by
  simp only [interval_Neg.K, acond k, id_eq]
theorem interval_Neg.eq (a b : Int) : interval_Neg a b = ineg a b := by
  simp only [interval_Neg, interval_Neg.K, id_eq, interval_Valid.eq, ineg]
  cases hv : V a b with
  | false => rfl
  | true =>
    have := V_iff.1 hv
    rw [Int.zero_sub, Int.zero_sub, w64 (by omega) (by omega), w64 (by omega) (by omega), interval_made.eq (by omega), chk_of (by omega) (by omega) (by omega)]
    rfl
theorem interval_Neg.ok : SOK Tryd.prog 18 (interval_Neg.sp interval_Neg) := by
  refine sok_of (E := ⟨[(37, interval_made.sp interval_made), (45, interval_Valid.sp interval_Valid)], []⟩) (L := []) ⟨(specs_cons interval_made.ok (specs_cons interval_Valid.ok specs_nil)), inl_nil, mixed_ok⟩ 40 Tryd.func18 (by decide) rfl no_loops fun vs bl v bl' h => ?_
  unfold interval_Neg.sp at h
  split at h
  · rename_i a0_0 a0_1
    simp only [Option.some.injEq, Prod.mk.injEq, true_and] at h
    obtain ⟨rfl, rfl⟩ := h
    refine ⟨?_, by simp [okV, Nat.blt], clo_spec 8 _ (by kernel_rfl), told_blk (by kernel_rfl)⟩
    refine (interval_Neg.run interval_made interval_Valid a0_0 a0_1).trans ?_
    refine (interval_Neg.nat interval_made interval_Valid a0_0 a0_1 _).trans ?_
    kernel_rfl
  · cases h

/-! ### culet/culetref27.Neg (19) -/
def culetref27_Neg.K {R : Type} (f_culetref27_Valid : Int → Int → (Bool)) (a0_0 : Int) (a0_1 : Int) (k : Int × Int × Int → R) : R :=
  let t0 := f_culetref27_Valid a0_0 a0_1
  bif !t0 then
    k (0, 0, 1)
  else
    k (IntKind.i64.wrap (0 - a0_1), IntKind.i64.wrap (0 - a0_0), 0)
set_option maxRecDepth 100000 in
theorem culetref27_Neg.run (f_culetref27_Valid : Int → Int → (Bool)) (a0_0 : Int) (a0_1 : Int) : xfn Tryd.prog ⟨[(20, culetref27_Valid.sp f_culetref27_Valid)], []⟩ [] 40 Tryd.f19 [.agg ⟨[.int .i64 a0_0, .int .i64 a0_1]⟩] [] = culetref27_Neg.K f_culetref27_Valid a0_0 a0_1 (fun r => some (.tuple ⟨[.agg ⟨[.int .i64 r.1, .int .i64 r.2.1]⟩, .int .i64 r.2.2]⟩, [])) := by kernel_rfl
def culetref27_Neg (a0_0 : Int) (a0_1 : Int) : Int × Int × Int := culetref27_Neg.K culetref27_Valid a0_0 a0_1 id
theorem culetref27_Neg.nat {R : Type} (f_culetref27_Valid : Int → Int → (Bool)) (a0_0 : Int) (a0_1 : Int) (k : Int × Int × Int → R) : culetref27_Neg.K f_culetref27_Valid a0_0 a0_1 k = k (culetref27_Neg.K f_culetref27_Valid a0_0 a0_1 id) := by
  simp only [culetref27_Neg.K, acond k, id_eq]
theorem culetref27_Neg.eq (a b : Int) : culetref27_Neg a b = ineg a b := by
  simp only [culetref27_Neg, culetref27_Neg.K, id_eq, culetref27_Valid.eq, ineg]
  cases hv : V a b with
  | false => rfl
  | true =>
    have := V_iff.1 hv
    rw [Int.zero_sub, Int.zero_sub, w64 (by omega) (by omega), w64 (by omega) (by omega)]
    rfl
theorem culetref27_Neg.ok : SOK Tryd.prog 19 (culetref27_Neg.sp culetref27_Neg) := by
  refine sok_of (E := ⟨[(20, culetref27_Valid.sp culetref27_Valid)], []⟩) (L := []) ⟨(specs_cons culetref27_Valid.ok specs_nil), inl_nil, mixed_ok⟩ 40 Tryd.func19 (by decide) rfl no_loops fun vs bl v bl' h => ?_
  unfold culetref27_Neg.sp at h
  split at h
  · rename_i a0_0 a0_1
    simp only [Option.some.injEq, Prod.mk.injEq, true_and] at h
    obtain ⟨rfl, rfl⟩ := h
    refine ⟨?_, by simp [okV, Nat.blt], clo_spec 8 _ (by kernel_rfl), told_blk (by kernel_rfl)⟩
    refine (culetref27_Neg.run culetref27_Valid a0_0 a0_1).trans ?_
    refine (culetref27_Neg.nat culetref27_Valid a0_0 a0_1 _).trans ?_
    kernel_rfl
  · cases h

/-! ### culet/culetlaw27.IntervalArithmetic (3) -/
def culetlaw27_IntervalArithmetic.K {R : Type} (f_interval_Add : Int → Int → Int → Int → (Int × Int × Int)) (f_culetref27_Add : Int → Int → Int → Int → (Int × Int × Int)) (f_interval_Sub : Int → Int → Int → Int → (Int × Int × Int)) (f_culetref27_Sub : Int → Int → Int → Int → (Int × Int × Int)) (f_interval_Mul : Int → Int → Int → Int → (Int × Int × Int)) (f_culetref27_Mul : Int → Int → Int → Int → (Int × Int × Int)) (f_interval_Div : Int → Int → Int → Int → (Int × Int × Int)) (f_culetref27_Div : Int → Int → Int → Int → (Int × Int × Int)) (f_interval_Neg : Int → Int → (Int × Int × Int)) (f_culetref27_Neg : Int → Int → (Int × Int × Int)) (a0_0 : Int) (a0_1 : Int) (a1_0 : Int) (a1_1 : Int) (k : (Bool) → R) : R :=
  let t0 := f_interval_Add a0_0 a0_1 a1_0 a1_1
  let t1 := f_culetref27_Add a0_0 a0_1 a1_0 a1_1
  bif !(t0.fst == t1.fst && t0.snd.fst == t1.snd.fst) then
    k (false)
  else
    bif t0.snd.snd != t1.snd.snd then
      k (false)
    else
      let t2 := f_interval_Sub a0_0 a0_1 a1_0 a1_1
      let t3 := f_culetref27_Sub a0_0 a0_1 a1_0 a1_1
      bif !(t2.fst == t3.fst && t2.snd.fst == t3.snd.fst) then
        k (false)
      else
        bif t2.snd.snd != t3.snd.snd then
          k (false)
        else
          let t4 := f_interval_Mul a0_0 a0_1 a1_0 a1_1
          let t5 := f_culetref27_Mul a0_0 a0_1 a1_0 a1_1
          bif t4.fst == t5.fst && t4.snd.fst == t5.snd.fst then
            bif t4.snd.snd == t5.snd.snd then
              let t6 := f_interval_Div a0_0 a0_1 a1_0 a1_1
              let t7 := f_culetref27_Div a0_0 a0_1 a1_0 a1_1
              bif t6.fst == t7.fst && t6.snd.fst == t7.snd.fst then
                bif t6.snd.snd == t7.snd.snd then
                  let t8 := f_interval_Neg a0_0 a0_1
                  let t9 := f_culetref27_Neg a0_0 a0_1
                  bif t8.fst == t9.fst && t8.snd.fst == t9.snd.fst then
                    k (t8.snd.snd == t9.snd.snd)
                  else
                    k (false)
                else
                  k (false)
              else
                k (false)
            else
              k (false)
          else
            k (false)
set_option maxRecDepth 100000 in
theorem culetlaw27_IntervalArithmetic.run (f_interval_Add : Int → Int → Int → Int → (Int × Int × Int)) (f_culetref27_Add : Int → Int → Int → Int → (Int × Int × Int)) (f_interval_Sub : Int → Int → Int → Int → (Int × Int × Int)) (f_culetref27_Sub : Int → Int → Int → Int → (Int × Int × Int)) (f_interval_Mul : Int → Int → Int → Int → (Int × Int × Int)) (f_culetref27_Mul : Int → Int → Int → Int → (Int × Int × Int)) (f_interval_Div : Int → Int → Int → Int → (Int × Int × Int)) (f_culetref27_Div : Int → Int → Int → Int → (Int × Int × Int)) (f_interval_Neg : Int → Int → (Int × Int × Int)) (f_culetref27_Neg : Int → Int → (Int × Int × Int)) (a0_0 : Int) (a0_1 : Int) (a1_0 : Int) (a1_1 : Int) : xfn Tryd.prog ⟨[(9, culetlaw27_awake.sp), (10, interval_Add.sp f_interval_Add), (11, culetref27_Add.sp f_culetref27_Add), (12, interval_Sub.sp f_interval_Sub), (13, culetref27_Sub.sp f_culetref27_Sub), (14, interval_Mul.sp f_interval_Mul), (15, culetref27_Mul.sp f_culetref27_Mul), (16, interval_Div.sp f_interval_Div), (17, culetref27_Div.sp f_culetref27_Div), (18, interval_Neg.sp f_interval_Neg), (19, culetref27_Neg.sp f_culetref27_Neg)], []⟩ [] 40 Tryd.f3 [.agg ⟨[.int .i64 a0_0, .int .i64 a0_1]⟩, .agg ⟨[.int .i64 a1_0, .int .i64 a1_1]⟩] [] = culetlaw27_IntervalArithmetic.K f_interval_Add f_culetref27_Add f_interval_Sub f_culetref27_Sub f_interval_Mul f_culetref27_Mul f_interval_Div f_culetref27_Div f_interval_Neg f_culetref27_Neg a0_0 a0_1 a1_0 a1_1 (fun r => some (.bool r, [])) := by kernel_rfl
def culetlaw27_IntervalArithmetic (a0_0 : Int) (a0_1 : Int) (a1_0 : Int) (a1_1 : Int) : Bool := culetlaw27_IntervalArithmetic.K interval_Add culetref27_Add interval_Sub culetref27_Sub interval_Mul culetref27_Mul interval_Div culetref27_Div interval_Neg culetref27_Neg a0_0 a0_1 a1_0 a1_1 id
theorem culetlaw27_IntervalArithmetic.nat {R : Type} (f_interval_Add : Int → Int → Int → Int → (Int × Int × Int)) (f_culetref27_Add : Int → Int → Int → Int → (Int × Int × Int)) (f_interval_Sub : Int → Int → Int → Int → (Int × Int × Int)) (f_culetref27_Sub : Int → Int → Int → Int → (Int × Int × Int)) (f_interval_Mul : Int → Int → Int → Int → (Int × Int × Int)) (f_culetref27_Mul : Int → Int → Int → Int → (Int × Int × Int)) (f_interval_Div : Int → Int → Int → Int → (Int × Int × Int)) (f_culetref27_Div : Int → Int → Int → Int → (Int × Int × Int)) (f_interval_Neg : Int → Int → (Int × Int × Int)) (f_culetref27_Neg : Int → Int → (Int × Int × Int)) (a0_0 : Int) (a0_1 : Int) (a1_0 : Int) (a1_1 : Int) (k : (Bool) → R) : culetlaw27_IntervalArithmetic.K f_interval_Add f_culetref27_Add f_interval_Sub f_culetref27_Sub f_interval_Mul f_culetref27_Mul f_interval_Div f_culetref27_Div f_interval_Neg f_culetref27_Neg a0_0 a0_1 a1_0 a1_1 k = k (culetlaw27_IntervalArithmetic.K f_interval_Add f_culetref27_Add f_interval_Sub f_culetref27_Sub f_interval_Mul f_culetref27_Mul f_interval_Div f_culetref27_Div f_interval_Neg f_culetref27_Neg a0_0 a0_1 a1_0 a1_1 id) := by
  simp only [culetlaw27_IntervalArithmetic.K, acond k, id_eq]
theorem IntervalArithmetic.law (a b c d : Int) : culetlaw27_IntervalArithmetic a b c d = true := by
  simp only [culetlaw27_IntervalArithmetic, culetlaw27_IntervalArithmetic.K, id_eq, interval_Add.eq, culetref27_Add.eq, interval_Sub.eq, culetref27_Sub.eq, interval_Mul.eq, culetref27_Mul.eq, interval_Div.eq, culetref27_Div.eq, interval_Neg.eq, culetref27_Neg.eq, beq_self_eq_true, bne_self_eq_false, Bool.and_self, Bool.not_true, cond_true, cond_false]
theorem culetlaw27_IntervalArithmetic.calls (a0_0 : Int) (a0_1 : Int) (a1_0 : Int) (a1_1 : Int) (h : culetlaw27_IntervalArithmetic a0_0 a0_1 a1_0 a1_1 = true) (w : World) (ht : TabOk w) : Calls Tryd.prog 3 ⟨[.agg ⟨[.int .i64 a0_0, .int .i64 a0_1]⟩, .agg ⟨[.int .i64 a1_0, .int .i64 a1_1]⟩]⟩ w fun e w' => e = .returned (.bool true) ∧ Below w.heap.size w w' := by
  refine calls_run (E := ⟨[(9, culetlaw27_awake.sp), (10, interval_Add.sp interval_Add), (11, culetref27_Add.sp culetref27_Add), (12, interval_Sub.sp interval_Sub), (13, culetref27_Sub.sp culetref27_Sub), (14, interval_Mul.sp interval_Mul), (15, culetref27_Mul.sp culetref27_Mul), (16, interval_Div.sp interval_Div), (17, culetref27_Div.sp culetref27_Div), (18, interval_Neg.sp interval_Neg), (19, culetref27_Neg.sp culetref27_Neg)], []⟩) (L := []) ⟨(specs_cons culetlaw27_awake.ok (specs_cons interval_Add.ok (specs_cons culetref27_Add.ok (specs_cons interval_Sub.ok (specs_cons culetref27_Sub.ok (specs_cons interval_Mul.ok (specs_cons culetref27_Mul.ok (specs_cons interval_Div.ok (specs_cons culetref27_Div.ok (specs_cons interval_Neg.ok (specs_cons culetref27_Neg.ok specs_nil))))))))))), inl_nil, mixed_ok⟩ 40 Tryd.func3 (by decide) rfl no_loops (vs := [.agg ⟨[.int .i64 a0_0, .int .i64 a0_1]⟩, .agg ⟨[.int .i64 a1_0, .int .i64 a1_1]⟩]) (v := .bool true) ?_ (by simp [okV, Nat.blt]) (clo_spec 8 _ rfl) w ht
  refine (culetlaw27_IntervalArithmetic.run interval_Add culetref27_Add interval_Sub culetref27_Sub interval_Mul culetref27_Mul interval_Div culetref27_Div interval_Neg culetref27_Neg a0_0 a0_1 a1_0 a1_1).trans ?_
  rw [culetlaw27_IntervalArithmetic.nat]
  have h4 : culetlaw27_IntervalArithmetic.K interval_Add culetref27_Add interval_Sub culetref27_Sub interval_Mul culetref27_Mul interval_Div culetref27_Div interval_Neg culetref27_Neg a0_0 a0_1 a1_0 a1_1 id = true := h
  rw [h4]

/-! ### culet/interval.Hull (23) -/
def interval_Hull.K {R : Type} (f_interval_Valid : Int → Int → (Bool)) (a0_0 : Int) (a0_1 : Int) (a1_0 : Int) (a1_1 : Int) (k : Int × Int × Int → R) : R :=
  let t0 := f_interval_Valid a0_0 a0_1
  bif !t0 then
    k (0, 0, 1)
  else
    let t1 := f_interval_Valid a1_0 a1_1
    bif !t1 then
      k (0, 0, 1)
    else
      k (if a1_0 < a0_0 then a1_0 else a0_0, if a1_1 > a0_1 then a1_1 else a0_1, 0)
set_option maxRecDepth 100000 in
theorem interval_Hull.run (f_interval_Valid : Int → Int → (Bool)) (a0_0 : Int) (a0_1 : Int) (a1_0 : Int) (a1_1 : Int) : xfn Tryd.prog ⟨[(45, interval_Valid.sp f_interval_Valid)], [(36, Tryd.f36)]⟩ [] 40 Tryd.f23 [.agg ⟨[.int .i64 a0_0, .int .i64 a0_1]⟩, .agg ⟨[.int .i64 a1_0, .int .i64 a1_1]⟩] [] = interval_Hull.K f_interval_Valid a0_0 a0_1 a1_0 a1_1 (fun r => some (.tuple ⟨[.agg ⟨[.int .i64 r.1, .int .i64 r.2.1]⟩, .int .i64 r.2.2]⟩, [])) := by kernel_rfl
def interval_Hull (a0_0 : Int) (a0_1 : Int) (a1_0 : Int) (a1_1 : Int) : Int × Int × Int := interval_Hull.K interval_Valid a0_0 a0_1 a1_0 a1_1 id
theorem interval_Hull.nat {R : Type} (f_interval_Valid : Int → Int → (Bool)) (a0_0 : Int) (a0_1 : Int) (a1_0 : Int) (a1_1 : Int) (k : Int × Int × Int → R) : interval_Hull.K f_interval_Valid a0_0 a0_1 a1_0 a1_1 k = k (interval_Hull.K f_interval_Valid a0_0 a0_1 a1_0 a1_1 id) := by
  simp only [interval_Hull.K, acond k, id_eq]
def hul (a b c d : Int) : Int × Int × Int := bif V a b && V c d then (min a c, max b d, 0) else (0, 0, 1)
def mee (a b c d : Int) : Int × Int × Int := bif V a b && V c d then (if max a c > min b d then (0, 0, 7) else (max a c, min b d, 0)) else (0, 0, 1)
theorem interval_Hull.eq (a b c d : Int) : interval_Hull a b c d = hul a b c d := by
  simp only [interval_Hull, interval_Hull.K, id_eq, interval_Valid.eq, hul, mnE, mxE]
  cases V a b <;> cases V c d <;> simp
theorem interval_Hull.ok : SOK Tryd.prog 23 (interval_Hull.sp interval_Hull) := by
  refine sok_of (E := ⟨[(45, interval_Valid.sp interval_Valid)], [(36, Tryd.f36)]⟩) (L := []) ⟨(specs_cons interval_Valid.ok specs_nil), (inl_cons ⟨Tryd.func36, by decide, rfl⟩ inl_nil), mixed_ok⟩ 40 Tryd.func23 (by decide) rfl no_loops fun vs bl v bl' h => ?_
  unfold interval_Hull.sp at h
  split at h
  · rename_i a0_0 a0_1 a1_0 a1_1
    simp only [Option.some.injEq, Prod.mk.injEq, true_and] at h
    obtain ⟨rfl, rfl⟩ := h
    refine ⟨?_, by simp [okV, Nat.blt], clo_spec 8 _ (by kernel_rfl), told_blk (by kernel_rfl)⟩
    refine (interval_Hull.run interval_Valid a0_0 a0_1 a1_0 a1_1).trans ?_
    refine (interval_Hull.nat interval_Valid a0_0 a0_1 a1_0 a1_1 _).trans ?_
    kernel_rfl
  · cases h

/-! ### culet/interval.Meet (24) -/
def interval_Meet.K {R : Type} (f_interval_Valid : Int → Int → (Bool)) (a0_0 : Int) (a0_1 : Int) (a1_0 : Int) (a1_1 : Int) (k : Int × Int × Int → R) : R :=
  let t0 := f_interval_Valid a0_0 a0_1
  bif !t0 then
    k (0, 0, 1)
  else
    let t1 := f_interval_Valid a1_0 a1_1
    bif !t1 then
      k (0, 0, 1)
    else
      bif decide ((if a1_0 > a0_0 then a1_0 else a0_0) > if a1_1 < a0_1 then a1_1 else a0_1) then
        k (0, 0, 7)
      else
        k (if a1_0 > a0_0 then a1_0 else a0_0, if a1_1 < a0_1 then a1_1 else a0_1, 0)
set_option maxRecDepth 100000 in
theorem interval_Meet.run (f_interval_Valid : Int → Int → (Bool)) (a0_0 : Int) (a0_1 : Int) (a1_0 : Int) (a1_1 : Int) : xfn Tryd.prog ⟨[(45, interval_Valid.sp f_interval_Valid)], [(36, Tryd.f36)]⟩ [] 40 Tryd.f24 [.agg ⟨[.int .i64 a0_0, .int .i64 a0_1]⟩, .agg ⟨[.int .i64 a1_0, .int .i64 a1_1]⟩] [] = interval_Meet.K f_interval_Valid a0_0 a0_1 a1_0 a1_1 (fun r => some (.tuple ⟨[.agg ⟨[.int .i64 r.1, .int .i64 r.2.1]⟩, .int .i64 r.2.2]⟩, [])) := by kernel_rfl
def interval_Meet (a0_0 : Int) (a0_1 : Int) (a1_0 : Int) (a1_1 : Int) : Int × Int × Int := interval_Meet.K interval_Valid a0_0 a0_1 a1_0 a1_1 id
theorem interval_Meet.nat {R : Type} (f_interval_Valid : Int → Int → (Bool)) (a0_0 : Int) (a0_1 : Int) (a1_0 : Int) (a1_1 : Int) (k : Int × Int × Int → R) : interval_Meet.K f_interval_Valid a0_0 a0_1 a1_0 a1_1 k = k (interval_Meet.K f_interval_Valid a0_0 a0_1 a1_0 a1_1 id) := by
  simp only [interval_Meet.K, acond k, id_eq]
theorem interval_Meet.eq (a b c d : Int) : interval_Meet a b c d = mee a b c d := by
  simp only [interval_Meet, interval_Meet.K, id_eq, interval_Valid.eq, mee, mnE, mxE]
  cases V a b <;> cases V c d <;> by_cases h : max a c > min b d <;> simp [h]
theorem interval_Meet.ok : SOK Tryd.prog 24 (interval_Meet.sp interval_Meet) := by
  refine sok_of (E := ⟨[(45, interval_Valid.sp interval_Valid)], [(36, Tryd.f36)]⟩) (L := []) ⟨(specs_cons interval_Valid.ok specs_nil), (inl_cons ⟨Tryd.func36, by decide, rfl⟩ inl_nil), mixed_ok⟩ 40 Tryd.func24 (by decide) rfl no_loops fun vs bl v bl' h => ?_
  unfold interval_Meet.sp at h
  split at h
  · rename_i a0_0 a0_1 a1_0 a1_1
    simp only [Option.some.injEq, Prod.mk.injEq, true_and] at h
    obtain ⟨rfl, rfl⟩ := h
    refine ⟨?_, by simp [okV, Nat.blt], clo_spec 8 _ (by kernel_rfl), told_blk (by kernel_rfl)⟩
    refine (interval_Meet.run interval_Valid a0_0 a0_1 a1_0 a1_1).trans ?_
    refine (interval_Meet.nat interval_Valid a0_0 a0_1 a1_0 a1_1 _).trans ?_
    kernel_rfl
  · cases h

/-! ### culet/interval.Square (26) -/
def interval_Square.K {R : Type} (f_interval_made : Int → Int → (Int × Int × Int)) (f_interval_floor : Int → Int → (Int)) (f_interval_ceil : Int → Int → (Int)) (f_interval_Valid : Int → Int → (Bool)) (a0_0 : Int) (a0_1 : Int) (k : Int × Int × Int → R) : R :=
  let t0 := f_interval_Valid a0_0 a0_1
  bif !t0 then
    k (0, 0, 1)
  else
    bif decide (a0_0 ≤ 0) then
      bif decide (a0_1 ≥ 0) then
        let t1 := f_interval_floor 0 16777216
        let t2 := f_interval_ceil (mx (mx (IntKind.i64.wrap (a0_0 * a0_0)) (IntKind.i64.wrap (a0_0 * a0_0))) (IntKind.i64.wrap (a0_1 * a0_1))) 16777216
        let t3 := f_interval_made t1 t2
        k (t3.fst, t3.snd.fst, t3.snd.snd)
      else
        let t4 := f_interval_floor (mn (mn (IntKind.i64.wrap (a0_0 * a0_0)) (IntKind.i64.wrap (a0_0 * a0_0))) (IntKind.i64.wrap (a0_1 * a0_1))) 16777216
        let t5 := f_interval_ceil (mx (mx (IntKind.i64.wrap (a0_0 * a0_0)) (IntKind.i64.wrap (a0_0 * a0_0))) (IntKind.i64.wrap (a0_1 * a0_1))) 16777216
        let t6 := f_interval_made t4 t5
        k (t6.fst, t6.snd.fst, t6.snd.snd)
    else
      let t7 := f_interval_floor (mn (mn (IntKind.i64.wrap (a0_0 * a0_0)) (IntKind.i64.wrap (a0_0 * a0_0))) (IntKind.i64.wrap (a0_1 * a0_1))) 16777216
      let t8 := f_interval_ceil (mx (mx (IntKind.i64.wrap (a0_0 * a0_0)) (IntKind.i64.wrap (a0_0 * a0_0))) (IntKind.i64.wrap (a0_1 * a0_1))) 16777216
      let t9 := f_interval_made t7 t8
      k (t9.fst, t9.snd.fst, t9.snd.snd)
set_option maxRecDepth 100000 in
theorem interval_Square.run (f_interval_made : Int → Int → (Int × Int × Int)) (f_interval_floor : Int → Int → (Int)) (f_interval_ceil : Int → Int → (Int)) (f_interval_Valid : Int → Int → (Bool)) (a0_0 : Int) (a0_1 : Int) : xfn Tryd.prog ⟨[(37, interval_made.sp f_interval_made), (40, interval_extremes.sp), (41, interval_floor.sp f_interval_floor), (42, interval_ceil.sp f_interval_ceil), (45, interval_Valid.sp f_interval_Valid)], []⟩ [] 40 Tryd.f26 [.agg ⟨[.int .i64 a0_0, .int .i64 a0_1]⟩] [] = interval_Square.K f_interval_made f_interval_floor f_interval_ceil f_interval_Valid a0_0 a0_1 (fun r => some (.tuple ⟨[.agg ⟨[.int .i64 r.1, .int .i64 r.2.1]⟩, .int .i64 r.2.2]⟩, [])) := by kernel_rfl
def interval_Square (a0_0 : Int) (a0_1 : Int) : Int × Int × Int := interval_Square.K interval_made interval_floor interval_ceil interval_Valid a0_0 a0_1 id
theorem interval_Square.nat {R : Type} (f_interval_made : Int → Int → (Int × Int × Int)) (f_interval_floor : Int → Int → (Int)) (f_interval_ceil : Int → Int → (Int)) (f_interval_Valid : Int → Int → (Bool)) (a0_0 : Int) (a0_1 : Int) (k : Int × Int × Int → R) : interval_Square.K f_interval_made f_interval_floor f_interval_ceil f_interval_Valid a0_0 a0_1 k = k (interval_Square.K f_interval_made f_interval_floor f_interval_ceil f_interval_Valid a0_0 a0_1 id) := by
  simp only [interval_Square.K, acond k, id_eq]
theorem interval_Square.eq (a b : Int) : interval_Square a b = isq a b := by
  simp only [interval_Square, interval_Square.K, id_eq, interval_Valid.eq, isq]
  cases h1 : V a b with
  | false => simp
  | true =>
    have := V_iff.1 h1
    have e1 := mul_bnd30 (x := a) (y := a) (by omega) (by omega) (by omega) (by omega)
    have e4 := mul_bnd30 (x := b) (y := b) (by omega) (by omega) (by omega) (by omega)
    have s1 := sq_nonneg a
    have s2 := sq_nonneg b
    have w1 : IntKind.i64.wrap (a * a) = a * a := w64 (by omega) (by omega)
    have w4 : IntKind.i64.wrap (b * b) = b * b := w64 (by omega) (by omega)
    have m1 : min (min (a * a) (a * a)) (b * b) = min (a * a) (b * b) := by omega
    have m2 : max (max (a * a) (a * a)) (b * b) = max (a * a) (b * b) := by omega
    simp only [w1, w4, mn_eq, mx_eq, Bool.not_true, cond_false, cond_true, m1, m2]
    have r1 : interval_floor (min (a * a) (b * b)) 16777216 = min (a * a) (b * b) / 16777216 := interval_floor.eq (by omega) (by omega) (by omega)
    have r2 : interval_ceil (max (a * a) (b * b)) 16777216 = cl (max (a * a) (b * b)) 16777216 := interval_ceil.eq (by omega) (by omega) (by omega)
    have r3 : interval_floor 0 16777216 = 0 / 16777216 := interval_floor.eq (by omega) (by omega) (by omega)
    have hk : (0 : Int) < 16777216 := by omega
    rw [r1, r2, r3, interval_made.eq (fl_le_cl' hk (by omega)), interval_made.eq (fl_le_cl' hk (by omega))]
    by_cases h2 : a ≤ 0 <;> by_cases h3 : b ≥ 0 <;> simp [h2, h3]
theorem interval_Square.ok : SOK Tryd.prog 26 (interval_Square.sp interval_Square) := by
  refine sok_of (E := ⟨[(37, interval_made.sp interval_made), (40, interval_extremes.sp), (41, interval_floor.sp interval_floor), (42, interval_ceil.sp interval_ceil), (45, interval_Valid.sp interval_Valid)], []⟩) (L := []) ⟨(specs_cons interval_made.ok (specs_cons interval_extremes.ok (specs_cons interval_floor.ok (specs_cons interval_ceil.ok (specs_cons interval_Valid.ok specs_nil))))), inl_nil, mixed_ok⟩ 40 Tryd.func26 (by decide) rfl no_loops fun vs bl v bl' h => ?_
  unfold interval_Square.sp at h
  split at h
  · rename_i a0_0 a0_1
    simp only [Option.some.injEq, Prod.mk.injEq, true_and] at h
    obtain ⟨rfl, rfl⟩ := h
    refine ⟨?_, by simp [okV, Nat.blt], clo_spec 8 _ (by kernel_rfl), told_blk (by kernel_rfl)⟩
    refine (interval_Square.run interval_made interval_floor interval_ceil interval_Valid a0_0 a0_1).trans ?_
    refine (interval_Square.nat interval_made interval_floor interval_ceil interval_Valid a0_0 a0_1 _).trans ?_
    kernel_rfl
  · cases h

/-! ### culet/interval.Sqrt (27) -/
def interval_Sqrt.K {R : Type} (f_interval_made : Int → Int → (Int × Int × Int)) (f_interval_Valid : Int → Int → (Bool)) (a0_0 : Int) (a0_1 : Int) (k : Int × Int × Int → R) : R :=
  let t0 := f_interval_Valid a0_0 a0_1
  bif !t0 then
    k (0, 0, 1)
  else
    bif decide (a0_0 < 0) then
      k (0, 0, 2)
    else
      bif decide (IntKind.i64.wrap (root.rt 32 (IntKind.i64.wrap (a0_1 * 16777216)) 0 * root.rt 32 (IntKind.i64.wrap (a0_1 * 16777216)) 0) < IntKind.i64.wrap (a0_1 * 16777216)) then
        let t1 := f_interval_made (root.rt 32 (IntKind.i64.wrap (a0_0 * 16777216)) 0) (IntKind.i64.wrap (root.rt 32 (IntKind.i64.wrap (a0_1 * 16777216)) 0 + 1))
        k (t1.fst, t1.snd.fst, t1.snd.snd)
      else
        let t2 := f_interval_made (root.rt 32 (IntKind.i64.wrap (a0_0 * 16777216)) 0) (root.rt 32 (IntKind.i64.wrap (a0_1 * 16777216)) 0)
        k (t2.fst, t2.snd.fst, t2.snd.snd)
set_option maxRecDepth 100000 in
theorem interval_Sqrt.run (f_interval_made : Int → Int → (Int × Int × Int)) (f_interval_Valid : Int → Int → (Bool)) (a0_0 : Int) (a0_1 : Int) : xfn Tryd.prog ⟨[(37, interval_made.sp f_interval_made), (45, interval_Valid.sp f_interval_Valid), (46, interval_root.sp)], []⟩ [] 40 Tryd.f27 [.agg ⟨[.int .i64 a0_0, .int .i64 a0_1]⟩] [] = interval_Sqrt.K f_interval_made f_interval_Valid a0_0 a0_1 (fun r => some (.tuple ⟨[.agg ⟨[.int .i64 r.1, .int .i64 r.2.1]⟩, .int .i64 r.2.2]⟩, [])) := by kernel_rfl
def interval_Sqrt (a0_0 : Int) (a0_1 : Int) : Int × Int × Int := interval_Sqrt.K interval_made interval_Valid a0_0 a0_1 id
theorem interval_Sqrt.nat {R : Type} (f_interval_made : Int → Int → (Int × Int × Int)) (f_interval_Valid : Int → Int → (Bool)) (a0_0 : Int) (a0_1 : Int) (k : Int × Int × Int → R) : interval_Sqrt.K f_interval_made f_interval_Valid a0_0 a0_1 k = k (interval_Sqrt.K f_interval_made f_interval_Valid a0_0 a0_1 id) := by
  simp only [interval_Sqrt.K, acond k, id_eq]
theorem root_rts : ∀ (k : Nat) (n r : Int), 0 ≤ n → n ≤ 18014398509481984 → 0 ≤ r → r + ((2 ^ k : Nat) : Int) ≤ 4294967296 → root.rt k n r = rts k n r
  | 0, n, r, _, _, _, _ => rfl
  | k + 1, n, r, h0, h1, h2, h3 => by
    have e : ((2 ^ (k + 1) : Nat) : Int) = ((2 ^ k : Nat) : Int) + ((2 ^ k : Nat) : Int) := by rw [Nat.pow_succ]; omega
    have e2 : (2 : Int) ^ k = ((2 ^ k : Nat) : Int) := (Int.natCast_pow 2 k).symm
    have hp : 0 < ((2 ^ k : Nat) : Int) := by have := Nat.two_pow_pos k; omega
    rw [e] at h3
    have hq := tdiv_bnd (a := n) (b := r + ((2 ^ k : Nat) : Int)) (by omega) (by omega) (by omega)
    simp only [root.rt, rts, bitOf_succ, e2]
    rw [w64 (n := r + ((2 ^ k : Nat) : Int)) (by omega) (by omega), Int.tdiv_eq_ediv_of_nonneg h0, w64 (by omega) (by omega)]
    have hi : r + ((2 ^ k : Nat) : Int) ≤ n / (r + ((2 ^ k : Nat) : Int)) ↔ (r + ((2 ^ k : Nat) : Int)) * (r + ((2 ^ k : Nat) : Int)) ≤ n := le_fl (by omega)
    by_cases hc : (r + ((2 ^ k : Nat) : Int)) * (r + ((2 ^ k : Nat) : Int)) ≤ n
    · rw [if_pos hc, if_pos (hi.2 hc)]
      exact root_rts k n _ h0 h1 (by omega) (by omega)
    · rw [if_neg hc, if_neg (fun h => hc (hi.1 h))]
      exact root_rts k n _ h0 h1 h2 (by omega)
theorem root_sqt {n : Int} (h0 : 0 ≤ n) (h : n ≤ 18014398509481984) : root.rt 32 n 0 = sqt n := root_rts 32 n 0 h0 h (by omega) (by decide)
theorem interval_Sqrt.eq (a b : Int) : interval_Sqrt a b = isr a b := by
  simp only [interval_Sqrt, interval_Sqrt.K, id_eq, interval_Valid.eq, isr]
  cases hv : V a b with
  | false => rfl
  | true =>
    have := V_iff.1 hv
    by_cases ha : a < 0
    · simp only [ha, decide_true, Bool.not_true, cond_false, cond_true, if_true]
    · have w1 : IntKind.i64.wrap (a * 16777216) = a * 16777216 := w64 (by omega) (by omega)
      have w2 : IntKind.i64.wrap (b * 16777216) = b * 16777216 := w64 (by omega) (by omega)
      have r1 := root_sqt (n := a * 16777216) (by omega) (by omega)
      have r2 := root_sqt (n := b * 16777216) (by omega) (by omega)
      have s2 := sqt_spec (n := b * 16777216) (by omega) (by omega)
      have g := isr_range (a := a) (b := b) (by omega) (by omega) (by omega)
      have g2 := (sqc_spec (n := b * 16777216) (by omega) (by omega)).2.2.2
      simp only [ha, decide_false, Bool.not_true, cond_false, cond_true, if_false, w1, w2, r1, r2]
      have g3 := sq_nonneg (sqt (b * 16777216))
      rw [w64 (n := sqt (b * 16777216) * sqt (b * 16777216)) (by omega) (by omega)]
      by_cases hc : sqt (b * 16777216) * sqt (b * 16777216) < b * 16777216
      · have e : sqc (b * 16777216) = sqt (b * 16777216) + 1 := by rw [sqc, if_pos hc]
        simp only [hc, decide_true, cond_true]
        rw [w64 (by omega) (by omega), ← e, interval_made.eq (by omega), chk_of (by omega) (by omega) (by omega)]
      · have e : sqc (b * 16777216) = sqt (b * 16777216) := by rw [sqc, if_neg hc]
        simp only [hc, decide_false, cond_false]
        rw [← e, interval_made.eq (by omega), chk_of (by omega) (by omega) (by omega)]
theorem interval_Sqrt.ok : SOK Tryd.prog 27 (interval_Sqrt.sp interval_Sqrt) := by
  refine sok_of (E := ⟨[(37, interval_made.sp interval_made), (45, interval_Valid.sp interval_Valid), (46, interval_root.sp)], []⟩) (L := []) ⟨(specs_cons interval_made.ok (specs_cons interval_Valid.ok (specs_cons interval_root.ok specs_nil))), inl_nil, mixed_ok⟩ 40 Tryd.func27 (by decide) rfl no_loops fun vs bl v bl' h => ?_
  unfold interval_Sqrt.sp at h
  split at h
  · rename_i a0_0 a0_1
    simp only [Option.some.injEq, Prod.mk.injEq, true_and] at h
    obtain ⟨rfl, rfl⟩ := h
    refine ⟨?_, by simp [okV, Nat.blt], clo_spec 8 _ (by kernel_rfl), told_blk (by kernel_rfl)⟩
    refine (interval_Sqrt.run interval_made interval_Valid a0_0 a0_1).trans ?_
    refine (interval_Sqrt.nat interval_made interval_Valid a0_0 a0_1 _).trans ?_
    kernel_rfl
  · cases h

/-! ### culet/culetref27.Square (28) -/
def culetref27_Square.K {R : Type} (f_culetref27_Valid : Int → Int → (Bool)) (f_culetref27_checked : Int → Int → (Int × Int × Int)) (f_culetref27_floor : Int → Int → (Int)) (f_culetref27_ceil : Int → Int → (Int)) (a0_0 : Int) (a0_1 : Int) (k : Int × Int × Int → R) : R :=
  let t0 := f_culetref27_Valid a0_0 a0_1
  bif !t0 then
    k (0, 0, 1)
  else
    bif decide (a0_0 ≤ 0) then
      bif decide (a0_1 ≥ 0) then
        let t1 := f_culetref27_floor 0 16777216
        let t2 := f_culetref27_ceil (if IntKind.i64.wrap (a0_1 * a0_1) > IntKind.i64.wrap (a0_0 * a0_0) then IntKind.i64.wrap (a0_1 * a0_1) else IntKind.i64.wrap (a0_0 * a0_0)) 16777216
        let t3 := f_culetref27_checked t1 t2
        k (t3.fst, t3.snd.fst, t3.snd.snd)
      else
        let t4 := f_culetref27_floor (if IntKind.i64.wrap (a0_1 * a0_1) < IntKind.i64.wrap (a0_0 * a0_0) then IntKind.i64.wrap (a0_1 * a0_1) else IntKind.i64.wrap (a0_0 * a0_0)) 16777216
        let t5 := f_culetref27_ceil (if IntKind.i64.wrap (a0_1 * a0_1) > IntKind.i64.wrap (a0_0 * a0_0) then IntKind.i64.wrap (a0_1 * a0_1) else IntKind.i64.wrap (a0_0 * a0_0)) 16777216
        let t6 := f_culetref27_checked t4 t5
        k (t6.fst, t6.snd.fst, t6.snd.snd)
    else
      let t7 := f_culetref27_floor (if IntKind.i64.wrap (a0_1 * a0_1) < IntKind.i64.wrap (a0_0 * a0_0) then IntKind.i64.wrap (a0_1 * a0_1) else IntKind.i64.wrap (a0_0 * a0_0)) 16777216
      let t8 := f_culetref27_ceil (if IntKind.i64.wrap (a0_1 * a0_1) > IntKind.i64.wrap (a0_0 * a0_0) then IntKind.i64.wrap (a0_1 * a0_1) else IntKind.i64.wrap (a0_0 * a0_0)) 16777216
      let t9 := f_culetref27_checked t7 t8
      k (t9.fst, t9.snd.fst, t9.snd.snd)
set_option maxRecDepth 100000 in
theorem culetref27_Square.run (f_culetref27_Valid : Int → Int → (Bool)) (f_culetref27_checked : Int → Int → (Int × Int × Int)) (f_culetref27_floor : Int → Int → (Int)) (f_culetref27_ceil : Int → Int → (Int)) (a0_0 : Int) (a0_1 : Int) : xfn Tryd.prog ⟨[(20, culetref27_Valid.sp f_culetref27_Valid), (39, culetref27_checked.sp f_culetref27_checked), (43, culetref27_floor.sp f_culetref27_floor), (44, culetref27_ceil.sp f_culetref27_ceil)], []⟩ [] 40 Tryd.f28 [.agg ⟨[.int .i64 a0_0, .int .i64 a0_1]⟩] [] = culetref27_Square.K f_culetref27_Valid f_culetref27_checked f_culetref27_floor f_culetref27_ceil a0_0 a0_1 (fun r => some (.tuple ⟨[.agg ⟨[.int .i64 r.1, .int .i64 r.2.1]⟩, .int .i64 r.2.2]⟩, [])) := by kernel_rfl
def culetref27_Square (a0_0 : Int) (a0_1 : Int) : Int × Int × Int := culetref27_Square.K culetref27_Valid culetref27_checked culetref27_floor culetref27_ceil a0_0 a0_1 id
theorem culetref27_Square.nat {R : Type} (f_culetref27_Valid : Int → Int → (Bool)) (f_culetref27_checked : Int → Int → (Int × Int × Int)) (f_culetref27_floor : Int → Int → (Int)) (f_culetref27_ceil : Int → Int → (Int)) (a0_0 : Int) (a0_1 : Int) (k : Int × Int × Int → R) : culetref27_Square.K f_culetref27_Valid f_culetref27_checked f_culetref27_floor f_culetref27_ceil a0_0 a0_1 k = k (culetref27_Square.K f_culetref27_Valid f_culetref27_checked f_culetref27_floor f_culetref27_ceil a0_0 a0_1 id) := by
  simp only [culetref27_Square.K, acond k, id_eq]
theorem culetref27_Square.eq (a b : Int) : culetref27_Square a b = isq a b := by
  simp only [culetref27_Square, culetref27_Square.K, id_eq, culetref27_Valid.eq, isq, mnE, mxE]
  cases h1 : V a b with
  | false => simp
  | true =>
    have := V_iff.1 h1
    have e1 := mul_bnd30 (x := a) (y := a) (by omega) (by omega) (by omega) (by omega)
    have e4 := mul_bnd30 (x := b) (y := b) (by omega) (by omega) (by omega) (by omega)
    have s1 := sq_nonneg a
    have s2 := sq_nonneg b
    have w1 : IntKind.i64.wrap (a * a) = a * a := w64 (by omega) (by omega)
    have w4 : IntKind.i64.wrap (b * b) = b * b := w64 (by omega) (by omega)
    have hk : (0 : Int) < 16777216 := by omega
    have r1 : culetref27_floor (min (a * a) (b * b)) 16777216 = min (a * a) (b * b) / 16777216 := culetref27_floor.eq hk (by omega) (by omega)
    have r2 : culetref27_ceil (max (a * a) (b * b)) 16777216 = cl (max (a * a) (b * b)) 16777216 := culetref27_ceil.eq hk (by omega) (by omega)
    have r3 : culetref27_floor 0 16777216 = 0 / 16777216 := culetref27_floor.eq hk (by omega) (by omega)
    simp only [w1, w4, Bool.not_true, cond_false, cond_true, r1, r2, r3, culetref27_checked.eq]
    by_cases h2 : a ≤ 0 <;> by_cases h3 : b ≥ 0 <;> simp [h2, h3]
theorem culetref27_Square.ok : SOK Tryd.prog 28 (culetref27_Square.sp culetref27_Square) := by
  refine sok_of (E := ⟨[(20, culetref27_Valid.sp culetref27_Valid), (39, culetref27_checked.sp culetref27_checked), (43, culetref27_floor.sp culetref27_floor), (44, culetref27_ceil.sp culetref27_ceil)], []⟩) (L := []) ⟨(specs_cons culetref27_Valid.ok (specs_cons culetref27_checked.ok (specs_cons culetref27_floor.ok (specs_cons culetref27_ceil.ok specs_nil)))), inl_nil, mixed_ok⟩ 40 Tryd.func28 (by decide) rfl no_loops fun vs bl v bl' h => ?_
  unfold culetref27_Square.sp at h
  split at h
  · rename_i a0_0 a0_1
    simp only [Option.some.injEq, Prod.mk.injEq, true_and] at h
    obtain ⟨rfl, rfl⟩ := h
    refine ⟨?_, by simp [okV, Nat.blt], clo_spec 8 _ (by kernel_rfl), told_blk (by kernel_rfl)⟩
    refine (culetref27_Square.run culetref27_Valid culetref27_checked culetref27_floor culetref27_ceil a0_0 a0_1).trans ?_
    refine (culetref27_Square.nat culetref27_Valid culetref27_checked culetref27_floor culetref27_ceil a0_0 a0_1 _).trans ?_
    kernel_rfl
  · cases h

/-! ### culet/culetref27.Sqrt (29) -/
def culetref27_Sqrt.K {R : Type} (f_culetref27_Valid : Int → Int → (Bool)) (f_culetref27_checked : Int → Int → (Int × Int × Int)) (a0_0 : Int) (a0_1 : Int) (k : Int × Int × Int → R) : R :=
  let t0 := f_culetref27_Valid a0_0 a0_1
  bif !t0 then
    k (0, 0, 1)
  else
    bif decide (a0_0 < 0) then
      k (0, 0, 2)
    else
      bif decide (IntKind.i64.wrap (rroot.rt 32 (IntKind.i64.wrap (a0_1 * 16777216)) 0 * rroot.rt 32 (IntKind.i64.wrap (a0_1 * 16777216)) 0) < IntKind.i64.wrap (a0_1 * 16777216)) then
        let t1 := f_culetref27_checked (rroot.rt 32 (IntKind.i64.wrap (a0_0 * 16777216)) 0) (IntKind.i64.wrap (rroot.rt 32 (IntKind.i64.wrap (a0_1 * 16777216)) 0 + 1))
        k (t1.fst, t1.snd.fst, t1.snd.snd)
      else
        let t2 := f_culetref27_checked (rroot.rt 32 (IntKind.i64.wrap (a0_0 * 16777216)) 0) (rroot.rt 32 (IntKind.i64.wrap (a0_1 * 16777216)) 0)
        k (t2.fst, t2.snd.fst, t2.snd.snd)
set_option maxRecDepth 100000 in
theorem culetref27_Sqrt.run (f_culetref27_Valid : Int → Int → (Bool)) (f_culetref27_checked : Int → Int → (Int × Int × Int)) (a0_0 : Int) (a0_1 : Int) : xfn Tryd.prog ⟨[(20, culetref27_Valid.sp f_culetref27_Valid), (39, culetref27_checked.sp f_culetref27_checked), (47, culetref27_Root.sp)], []⟩ [] 40 Tryd.f29 [.agg ⟨[.int .i64 a0_0, .int .i64 a0_1]⟩] [] = culetref27_Sqrt.K f_culetref27_Valid f_culetref27_checked a0_0 a0_1 (fun r => some (.tuple ⟨[.agg ⟨[.int .i64 r.1, .int .i64 r.2.1]⟩, .int .i64 r.2.2]⟩, [])) := by kernel_rfl
def culetref27_Sqrt (a0_0 : Int) (a0_1 : Int) : Int × Int × Int := culetref27_Sqrt.K culetref27_Valid culetref27_checked a0_0 a0_1 id
theorem culetref27_Sqrt.nat {R : Type} (f_culetref27_Valid : Int → Int → (Bool)) (f_culetref27_checked : Int → Int → (Int × Int × Int)) (a0_0 : Int) (a0_1 : Int) (k : Int × Int × Int → R) : culetref27_Sqrt.K f_culetref27_Valid f_culetref27_checked a0_0 a0_1 k = k (culetref27_Sqrt.K f_culetref27_Valid f_culetref27_checked a0_0 a0_1 id) := by
  simp only [culetref27_Sqrt.K, acond k, id_eq]
theorem rroot_rts : ∀ (k : Nat) (n r : Int), 0 ≤ n → n ≤ 18014398509481984 → 0 ≤ r → rroot.rt k n r = rts k n r
  | 0, n, r, _, _, _ => rfl
  | k + 1, n, r, h0, h1, h2 => by
    have hp : (0 : Int) < 2 ^ k := pow_nonneg_int k
    simp only [rroot.rt, rts]
    by_cases hc : (r + 2 ^ k) * (r + 2 ^ k) ≤ n
    · have hb : r + 2 ^ k ≤ 134217728 := le_of_sq (by omega) (by omega)
      rw [if_pos hc, if_pos ⟨by omega, hc⟩]
      exact rroot_rts k n _ h0 h1 (by omega)
    · rw [if_neg hc, if_neg (fun h => hc h.2)]
      exact rroot_rts k n _ h0 h1 h2
theorem rroot_sqt {n : Int} (h0 : 0 ≤ n) (h : n ≤ 18014398509481984) : rroot.rt 32 n 0 = sqt n := rroot_rts 32 n 0 h0 h (by omega)
theorem culetref27_Sqrt.eq (a b : Int) : culetref27_Sqrt a b = isr a b := by
  simp only [culetref27_Sqrt, culetref27_Sqrt.K, id_eq, culetref27_Valid.eq, isr]
  cases hv : V a b with
  | false => rfl
  | true =>
    have := V_iff.1 hv
    by_cases ha : a < 0
    · simp only [ha, decide_true, Bool.not_true, cond_false, cond_true, if_true]
    · have w1 : IntKind.i64.wrap (a * 16777216) = a * 16777216 := w64 (by omega) (by omega)
      have w2 : IntKind.i64.wrap (b * 16777216) = b * 16777216 := w64 (by omega) (by omega)
      have r1 := rroot_sqt (n := a * 16777216) (by omega) (by omega)
      have r2 := rroot_sqt (n := b * 16777216) (by omega) (by omega)
      have s2 := sqt_spec (n := b * 16777216) (by omega) (by omega)
      have g := isr_range (a := a) (b := b) (by omega) (by omega) (by omega)
      have g2 := (sqc_spec (n := b * 16777216) (by omega) (by omega)).2.2.2
      simp only [ha, decide_false, Bool.not_true, cond_false, cond_true, if_false, w1, w2, r1, r2]
      have g3 := sq_nonneg (sqt (b * 16777216))
      rw [w64 (n := sqt (b * 16777216) * sqt (b * 16777216)) (by omega) (by omega)]
      by_cases hc : sqt (b * 16777216) * sqt (b * 16777216) < b * 16777216
      · have e : sqc (b * 16777216) = sqt (b * 16777216) + 1 := by rw [sqc, if_pos hc]
        simp only [hc, decide_true, cond_true]
        rw [w64 (by omega) (by omega), ← e, culetref27_checked.eq, chk_of (by omega) (by omega) (by omega)]
      · have e : sqc (b * 16777216) = sqt (b * 16777216) := by rw [sqc, if_neg hc]
        simp only [hc, decide_false, cond_false]
        rw [← e, culetref27_checked.eq, chk_of (by omega) (by omega) (by omega)]
theorem culetref27_Sqrt.ok : SOK Tryd.prog 29 (culetref27_Sqrt.sp culetref27_Sqrt) := by
  refine sok_of (E := ⟨[(20, culetref27_Valid.sp culetref27_Valid), (39, culetref27_checked.sp culetref27_checked), (47, culetref27_Root.sp)], []⟩) (L := []) ⟨(specs_cons culetref27_Valid.ok (specs_cons culetref27_checked.ok (specs_cons culetref27_Root.ok specs_nil))), inl_nil, mixed_ok⟩ 40 Tryd.func29 (by decide) rfl no_loops fun vs bl v bl' h => ?_
  unfold culetref27_Sqrt.sp at h
  split at h
  · rename_i a0_0 a0_1
    simp only [Option.some.injEq, Prod.mk.injEq, true_and] at h
    obtain ⟨rfl, rfl⟩ := h
    refine ⟨?_, by simp [okV, Nat.blt], clo_spec 8 _ (by kernel_rfl), told_blk (by kernel_rfl)⟩
    refine (culetref27_Sqrt.run culetref27_Valid culetref27_checked a0_0 a0_1).trans ?_
    refine (culetref27_Sqrt.nat culetref27_Valid culetref27_checked a0_0 a0_1 _).trans ?_
    kernel_rfl
  · cases h

/-! ### culet/culetref27.Hull (30) -/
def culetref27_Hull.K {R : Type} (f_culetref27_both : Int → Int → Int → Int → (Bool)) (a0_0 : Int) (a0_1 : Int) (a1_0 : Int) (a1_1 : Int) (k : Int × Int × Int → R) : R :=
  let t0 := f_culetref27_both a0_0 a0_1 a1_0 a1_1
  bif !t0 then
    k (0, 0, 1)
  else
    k (if a1_0 < a0_0 then a1_0 else a0_0, if a1_1 > a0_1 then a1_1 else a0_1, 0)
set_option maxRecDepth 100000 in
theorem culetref27_Hull.run (f_culetref27_both : Int → Int → Int → Int → (Bool)) (a0_0 : Int) (a0_1 : Int) (a1_0 : Int) (a1_1 : Int) : xfn Tryd.prog ⟨[(38, culetref27_both.sp f_culetref27_both)], []⟩ [] 40 Tryd.f30 [.agg ⟨[.int .i64 a0_0, .int .i64 a0_1]⟩, .agg ⟨[.int .i64 a1_0, .int .i64 a1_1]⟩] [] = culetref27_Hull.K f_culetref27_both a0_0 a0_1 a1_0 a1_1 (fun r => some (.tuple ⟨[.agg ⟨[.int .i64 r.1, .int .i64 r.2.1]⟩, .int .i64 r.2.2]⟩, [])) := by kernel_rfl
def culetref27_Hull (a0_0 : Int) (a0_1 : Int) (a1_0 : Int) (a1_1 : Int) : Int × Int × Int := culetref27_Hull.K culetref27_both a0_0 a0_1 a1_0 a1_1 id
theorem culetref27_Hull.nat {R : Type} (f_culetref27_both : Int → Int → Int → Int → (Bool)) (a0_0 : Int) (a0_1 : Int) (a1_0 : Int) (a1_1 : Int) (k : Int × Int × Int → R) : culetref27_Hull.K f_culetref27_both a0_0 a0_1 a1_0 a1_1 k = k (culetref27_Hull.K f_culetref27_both a0_0 a0_1 a1_0 a1_1 id) := by
  simp only [culetref27_Hull.K, acond k, id_eq]
theorem culetref27_Hull.eq (a b c d : Int) : culetref27_Hull a b c d = hul a b c d := by
  simp only [culetref27_Hull, culetref27_Hull.K, id_eq, culetref27_both.eq, hul, mnE, mxE]
  cases V a b <;> cases V c d <;> simp
theorem culetref27_Hull.ok : SOK Tryd.prog 30 (culetref27_Hull.sp culetref27_Hull) := by
  refine sok_of (E := ⟨[(38, culetref27_both.sp culetref27_both)], []⟩) (L := []) ⟨(specs_cons culetref27_both.ok specs_nil), inl_nil, mixed_ok⟩ 40 Tryd.func30 (by decide) rfl no_loops fun vs bl v bl' h => ?_
  unfold culetref27_Hull.sp at h
  split at h
  · rename_i a0_0 a0_1 a1_0 a1_1
    simp only [Option.some.injEq, Prod.mk.injEq, true_and] at h
    obtain ⟨rfl, rfl⟩ := h
    refine ⟨?_, by simp [okV, Nat.blt], clo_spec 8 _ (by kernel_rfl), told_blk (by kernel_rfl)⟩
    refine (culetref27_Hull.run culetref27_both a0_0 a0_1 a1_0 a1_1).trans ?_
    refine (culetref27_Hull.nat culetref27_both a0_0 a0_1 a1_0 a1_1 _).trans ?_
    kernel_rfl
  · cases h

/-! ### culet/culetref27.Meet (31) -/
def culetref27_Meet.K {R : Type} (f_culetref27_both : Int → Int → Int → Int → (Bool)) (a0_0 : Int) (a0_1 : Int) (a1_0 : Int) (a1_1 : Int) (k : Int × Int × Int → R) : R :=
  let t0 := f_culetref27_both a0_0 a0_1 a1_0 a1_1
  bif !t0 then
    k (0, 0, 1)
  else
    bif decide ((if a1_0 > a0_0 then a1_0 else a0_0) > if a1_1 < a0_1 then a1_1 else a0_1) then
      k (0, 0, 7)
    else
      k (if a1_0 > a0_0 then a1_0 else a0_0, if a1_1 < a0_1 then a1_1 else a0_1, 0)
set_option maxRecDepth 100000 in
theorem culetref27_Meet.run (f_culetref27_both : Int → Int → Int → Int → (Bool)) (a0_0 : Int) (a0_1 : Int) (a1_0 : Int) (a1_1 : Int) : xfn Tryd.prog ⟨[(38, culetref27_both.sp f_culetref27_both)], []⟩ [] 40 Tryd.f31 [.agg ⟨[.int .i64 a0_0, .int .i64 a0_1]⟩, .agg ⟨[.int .i64 a1_0, .int .i64 a1_1]⟩] [] = culetref27_Meet.K f_culetref27_both a0_0 a0_1 a1_0 a1_1 (fun r => some (.tuple ⟨[.agg ⟨[.int .i64 r.1, .int .i64 r.2.1]⟩, .int .i64 r.2.2]⟩, [])) := by kernel_rfl
def culetref27_Meet (a0_0 : Int) (a0_1 : Int) (a1_0 : Int) (a1_1 : Int) : Int × Int × Int := culetref27_Meet.K culetref27_both a0_0 a0_1 a1_0 a1_1 id
theorem culetref27_Meet.nat {R : Type} (f_culetref27_both : Int → Int → Int → Int → (Bool)) (a0_0 : Int) (a0_1 : Int) (a1_0 : Int) (a1_1 : Int) (k : Int × Int × Int → R) : culetref27_Meet.K f_culetref27_both a0_0 a0_1 a1_0 a1_1 k = k (culetref27_Meet.K f_culetref27_both a0_0 a0_1 a1_0 a1_1 id) := by
  simp only [culetref27_Meet.K, acond k, id_eq]
theorem culetref27_Meet.eq (a b c d : Int) : culetref27_Meet a b c d = mee a b c d := by
  simp only [culetref27_Meet, culetref27_Meet.K, id_eq, culetref27_both.eq, mee, mnE, mxE]
  cases V a b <;> cases V c d <;> by_cases h : max a c > min b d <;> simp [h]
theorem culetref27_Meet.ok : SOK Tryd.prog 31 (culetref27_Meet.sp culetref27_Meet) := by
  refine sok_of (E := ⟨[(38, culetref27_both.sp culetref27_both)], []⟩) (L := []) ⟨(specs_cons culetref27_both.ok specs_nil), inl_nil, mixed_ok⟩ 40 Tryd.func31 (by decide) rfl no_loops fun vs bl v bl' h => ?_
  unfold culetref27_Meet.sp at h
  split at h
  · rename_i a0_0 a0_1 a1_0 a1_1
    simp only [Option.some.injEq, Prod.mk.injEq, true_and] at h
    obtain ⟨rfl, rfl⟩ := h
    refine ⟨?_, by simp [okV, Nat.blt], clo_spec 8 _ (by kernel_rfl), told_blk (by kernel_rfl)⟩
    refine (culetref27_Meet.run culetref27_both a0_0 a0_1 a1_0 a1_1).trans ?_
    refine (culetref27_Meet.nat culetref27_both a0_0 a0_1 a1_0 a1_1 _).trans ?_
    kernel_rfl
  · cases h

/-! ### culet/culetlaw27.IntervalRoots (6) -/
def culetlaw27_IntervalRoots.K {R : Type} (f_interval_Hull : Int → Int → Int → Int → (Int × Int × Int)) (f_interval_Meet : Int → Int → Int → Int → (Int × Int × Int)) (f_interval_Square : Int → Int → (Int × Int × Int)) (f_interval_Sqrt : Int → Int → (Int × Int × Int)) (f_culetref27_Square : Int → Int → (Int × Int × Int)) (f_culetref27_Sqrt : Int → Int → (Int × Int × Int)) (f_culetref27_Hull : Int → Int → Int → Int → (Int × Int × Int)) (f_culetref27_Meet : Int → Int → Int → Int → (Int × Int × Int)) (a0_0 : Int) (a0_1 : Int) (a1_0 : Int) (a1_1 : Int) (k : (Bool) → R) : R :=
  let t0 := f_interval_Square a0_0 a0_1
  let t1 := f_culetref27_Square a0_0 a0_1
  bif t0.fst == t1.fst && t0.snd.fst == t1.snd.fst then
    bif t0.snd.snd == t1.snd.snd then
      let t2 := f_interval_Sqrt a0_0 a0_1
      let t3 := f_culetref27_Sqrt a0_0 a0_1
      bif t2.fst == t3.fst && t2.snd.fst == t3.snd.fst then
        bif t2.snd.snd == t3.snd.snd then
          let t4 := f_interval_Hull a0_0 a0_1 a1_0 a1_1
          let t5 := f_culetref27_Hull a0_0 a0_1 a1_0 a1_1
          bif t4.fst == t5.fst && t4.snd.fst == t5.snd.fst then
            bif t4.snd.snd == t5.snd.snd then
              let t6 := f_interval_Meet a0_0 a0_1 a1_0 a1_1
              let t7 := f_culetref27_Meet a0_0 a0_1 a1_0 a1_1
              bif t6.fst == t7.fst && t6.snd.fst == t7.snd.fst then
                k (t6.snd.snd == t7.snd.snd)
              else
                k (false)
            else
              k (false)
          else
            k (false)
        else
          k (false)
      else
        k (false)
    else
      k (false)
  else
    k (false)
set_option maxRecDepth 100000 in
theorem culetlaw27_IntervalRoots.run (f_interval_Hull : Int → Int → Int → Int → (Int × Int × Int)) (f_interval_Meet : Int → Int → Int → Int → (Int × Int × Int)) (f_interval_Square : Int → Int → (Int × Int × Int)) (f_interval_Sqrt : Int → Int → (Int × Int × Int)) (f_culetref27_Square : Int → Int → (Int × Int × Int)) (f_culetref27_Sqrt : Int → Int → (Int × Int × Int)) (f_culetref27_Hull : Int → Int → Int → Int → (Int × Int × Int)) (f_culetref27_Meet : Int → Int → Int → Int → (Int × Int × Int)) (a0_0 : Int) (a0_1 : Int) (a1_0 : Int) (a1_1 : Int) : xfn Tryd.prog ⟨[(9, culetlaw27_awake.sp), (23, interval_Hull.sp f_interval_Hull), (24, interval_Meet.sp f_interval_Meet), (26, interval_Square.sp f_interval_Square), (27, interval_Sqrt.sp f_interval_Sqrt), (28, culetref27_Square.sp f_culetref27_Square), (29, culetref27_Sqrt.sp f_culetref27_Sqrt), (30, culetref27_Hull.sp f_culetref27_Hull), (31, culetref27_Meet.sp f_culetref27_Meet)], []⟩ [] 40 Tryd.f6 [.agg ⟨[.int .i64 a0_0, .int .i64 a0_1]⟩, .agg ⟨[.int .i64 a1_0, .int .i64 a1_1]⟩] [] = culetlaw27_IntervalRoots.K f_interval_Hull f_interval_Meet f_interval_Square f_interval_Sqrt f_culetref27_Square f_culetref27_Sqrt f_culetref27_Hull f_culetref27_Meet a0_0 a0_1 a1_0 a1_1 (fun r => some (.bool r, [])) := by kernel_rfl
def culetlaw27_IntervalRoots (a0_0 : Int) (a0_1 : Int) (a1_0 : Int) (a1_1 : Int) : Bool := culetlaw27_IntervalRoots.K interval_Hull interval_Meet interval_Square interval_Sqrt culetref27_Square culetref27_Sqrt culetref27_Hull culetref27_Meet a0_0 a0_1 a1_0 a1_1 id
theorem culetlaw27_IntervalRoots.nat {R : Type} (f_interval_Hull : Int → Int → Int → Int → (Int × Int × Int)) (f_interval_Meet : Int → Int → Int → Int → (Int × Int × Int)) (f_interval_Square : Int → Int → (Int × Int × Int)) (f_interval_Sqrt : Int → Int → (Int × Int × Int)) (f_culetref27_Square : Int → Int → (Int × Int × Int)) (f_culetref27_Sqrt : Int → Int → (Int × Int × Int)) (f_culetref27_Hull : Int → Int → Int → Int → (Int × Int × Int)) (f_culetref27_Meet : Int → Int → Int → Int → (Int × Int × Int)) (a0_0 : Int) (a0_1 : Int) (a1_0 : Int) (a1_1 : Int) (k : (Bool) → R) : culetlaw27_IntervalRoots.K f_interval_Hull f_interval_Meet f_interval_Square f_interval_Sqrt f_culetref27_Square f_culetref27_Sqrt f_culetref27_Hull f_culetref27_Meet a0_0 a0_1 a1_0 a1_1 k = k (culetlaw27_IntervalRoots.K f_interval_Hull f_interval_Meet f_interval_Square f_interval_Sqrt f_culetref27_Square f_culetref27_Sqrt f_culetref27_Hull f_culetref27_Meet a0_0 a0_1 a1_0 a1_1 id) := by
  simp only [culetlaw27_IntervalRoots.K, acond k, id_eq]
theorem IntervalRoots.law (a b c d : Int) : culetlaw27_IntervalRoots a b c d = true := by
  simp only [culetlaw27_IntervalRoots, culetlaw27_IntervalRoots.K, id_eq, interval_Square.eq, culetref27_Square.eq, interval_Sqrt.eq, culetref27_Sqrt.eq, interval_Hull.eq, culetref27_Hull.eq, interval_Meet.eq, culetref27_Meet.eq, beq_self_eq_true, bne_self_eq_false, Bool.and_self, Bool.not_true, cond_true, cond_false]
theorem culetlaw27_IntervalRoots.calls (a0_0 : Int) (a0_1 : Int) (a1_0 : Int) (a1_1 : Int) (h : culetlaw27_IntervalRoots a0_0 a0_1 a1_0 a1_1 = true) (w : World) (ht : TabOk w) : Calls Tryd.prog 6 ⟨[.agg ⟨[.int .i64 a0_0, .int .i64 a0_1]⟩, .agg ⟨[.int .i64 a1_0, .int .i64 a1_1]⟩]⟩ w fun e w' => e = .returned (.bool true) ∧ Below w.heap.size w w' := by
  refine calls_run (E := ⟨[(9, culetlaw27_awake.sp), (23, interval_Hull.sp interval_Hull), (24, interval_Meet.sp interval_Meet), (26, interval_Square.sp interval_Square), (27, interval_Sqrt.sp interval_Sqrt), (28, culetref27_Square.sp culetref27_Square), (29, culetref27_Sqrt.sp culetref27_Sqrt), (30, culetref27_Hull.sp culetref27_Hull), (31, culetref27_Meet.sp culetref27_Meet)], []⟩) (L := []) ⟨(specs_cons culetlaw27_awake.ok (specs_cons interval_Hull.ok (specs_cons interval_Meet.ok (specs_cons interval_Square.ok (specs_cons interval_Sqrt.ok (specs_cons culetref27_Square.ok (specs_cons culetref27_Sqrt.ok (specs_cons culetref27_Hull.ok (specs_cons culetref27_Meet.ok specs_nil))))))))), inl_nil, mixed_ok⟩ 40 Tryd.func6 (by decide) rfl no_loops (vs := [.agg ⟨[.int .i64 a0_0, .int .i64 a0_1]⟩, .agg ⟨[.int .i64 a1_0, .int .i64 a1_1]⟩]) (v := .bool true) ?_ (by simp [okV, Nat.blt]) (clo_spec 8 _ rfl) w ht
  refine (culetlaw27_IntervalRoots.run interval_Hull interval_Meet interval_Square interval_Sqrt culetref27_Square culetref27_Sqrt culetref27_Hull culetref27_Meet a0_0 a0_1 a1_0 a1_1).trans ?_
  rw [culetlaw27_IntervalRoots.nat]
  have h4 : culetlaw27_IntervalRoots.K interval_Hull interval_Meet interval_Square interval_Sqrt culetref27_Square culetref27_Sqrt culetref27_Hull culetref27_Meet a0_0 a0_1 a1_0 a1_1 id = true := h
  rw [h4]

end Go.Proofs.YtpghmdjjkpjnfaaDoor.G
