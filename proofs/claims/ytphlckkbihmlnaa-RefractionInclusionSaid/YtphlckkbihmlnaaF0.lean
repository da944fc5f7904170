/- The functions, their runs and their contracts. WRITTEN BY gen.py of this repo. -/
import Derived.Test.YtphlckkbihmlnaaS
import Derived.Test.YtphlckkbihmlnaaM
import Derived.Test.YtphlckkbihmlnaaIv
import Derived.Test.YtphlckkbihmlnaaRf
import Derived.Test.YtphlckkbihmlnaaExt
import Derived.Test.YtphlckkbihmlnaaRoot
namespace Go.Proofs.Ytphlckkbihmlnaa.G
open Go Go.Proofs Go.RowKit RX
set_option linter.unusedVariables false
set_option linter.unusedSimpArgs false
/-! ### culet/interval.Valid (56) -/
def interval_Valid.K {R : Type} (a0_0 : Int) (a0_1 : Int) (k : (Bool) → R) : R :=
  bif decide (a0_0 ≤ a0_1) then
    bif decide (a0_0 ≥ -1073741824) then
      k (decide (a0_1 ≤ 1073741824))
    else
      k (false)
  else
    k (false)
set_option maxRecDepth 100000 in
theorem interval_Valid.run (a0_0 : Int) (a0_1 : Int) : xfn Try.prog ⟨[], []⟩ [] 40 Try.f56 [.agg ⟨[.int .i64 a0_0, .int .i64 a0_1]⟩] [] = interval_Valid.K a0_0 a0_1 (fun r => some (.bool r, [])) := by kernel_rfl
def interval_Valid (a0_0 : Int) (a0_1 : Int) : Bool := interval_Valid.K a0_0 a0_1 id
theorem interval_Valid.nat {R : Type} (a0_0 : Int) (a0_1 : Int) (k : (Bool) → R) : interval_Valid.K a0_0 a0_1 k = k (interval_Valid.K a0_0 a0_1 id) := by
  simp only [interval_Valid.K, acond k, id_eq]
theorem interval_Valid.eq (a b : Int) : interval_Valid a b = V a b := by
  simp only [interval_Valid, interval_Valid.K, id_eq, V]
  by_cases h1 : a ≤ b <;> by_cases h2 : a ≥ -1073741824 <;> by_cases h3 : b ≤ 1073741824 <;> simp [h1, h2, h3] <;> omega
theorem interval_Valid.ok : SOK Try.prog 56 (interval_Valid.sp interval_Valid) := by
  refine sok_of (E := ⟨[], []⟩) ⟨specs_nil, inl_nil, mixed_ok⟩ 40 Try.func56 (by decide) rfl no_loops fun vs bl v bl' h => ?_
  unfold interval_Valid.sp at h
  split at h
  · rename_i a0_0 a0_1
    simp only [Option.some.injEq, Prod.mk.injEq, true_and] at h
    obtain ⟨rfl, rfl⟩ := h
    refine ⟨?_, by simp [okV, Nat.blt], clo_spec 8 _ (by kernel_rfl), told_blk (by kernel_rfl)⟩
    refine (interval_Valid.run a0_0 a0_1).trans ?_
    refine (interval_Valid.nat a0_0 a0_1 _).trans ?_
    kernel_rfl
  · cases h

/-! ### culet/interval.made (70) -/
def interval_made.K {R : Type} (a0 : Int) (a1 : Int) (k : Int × Int × Int → R) : R :=
  bif decide (a0 < -1073741824) then
    k (0, 0, 3)
  else
    bif decide (a1 > 1073741824) then
      k (0, 0, 3)
    else
      k (a0, a1, 0)
set_option maxRecDepth 100000 in
theorem interval_made.run (a0 : Int) (a1 : Int) : xfn Try.prog ⟨[], []⟩ [] 40 Try.f70 [.int .i64 a0, .int .i64 a1] [] = interval_made.K a0 a1 (fun r => some (.tuple ⟨[.agg ⟨[.int .i64 r.1, .int .i64 r.2.1]⟩, .int .i64 r.2.2]⟩, [])) := by kernel_rfl
def interval_made (a0 : Int) (a1 : Int) : Int × Int × Int := interval_made.K a0 a1 id
theorem interval_made.nat {R : Type} (a0 : Int) (a1 : Int) (k : Int × Int × Int → R) : interval_made.K a0 a1 k = k (interval_made.K a0 a1 id) := by
  simp only [interval_made.K, acond k, id_eq]
theorem interval_made.eq {a b : Int} (h : a ≤ b) : interval_made a b = chk a b := by
  simp only [interval_made, interval_made.K, id_eq, chk]
  by_cases h1 : a < -1073741824
  · rw [V_not.2 (by omega)]; simp [h1]
  · by_cases h2 : b > 1073741824
    · rw [V_not.2 (by omega)]; simp [h1, h2]
    · rw [V_iff.2 ⟨by omega, h, by omega⟩]; simp [h1, h2]
theorem interval_made.ok : SOK Try.prog 70 (interval_made.sp interval_made) := by
  refine sok_of (E := ⟨[], []⟩) ⟨specs_nil, inl_nil, mixed_ok⟩ 40 Try.func70 (by decide) rfl no_loops fun vs bl v bl' h => ?_
  unfold interval_made.sp at h
  split at h
  · rename_i a0 a1
    simp only [Option.some.injEq, Prod.mk.injEq, true_and] at h
    obtain ⟨rfl, rfl⟩ := h
    refine ⟨?_, by simp [okV, Nat.blt], clo_spec 8 _ (by kernel_rfl), told_blk (by kernel_rfl)⟩
    refine (interval_made.run a0 a1).trans ?_
    refine (interval_made.nat a0 a1 _).trans ?_
    kernel_rfl
  · cases h

/-! ### culet/interval.Sqrt (36) -/
def interval_Sqrt.K {R : Type} (f_interval_Valid : Int → Int → (Bool)) (f_interval_made : Int → Int → (Int × Int × Int)) (a0_0 : Int) (a0_1 : Int) (k : Int × Int × Int → R) : R :=
  let t0 := f_interval_Valid a0_0 a0_1
  bif !t0 then
    k (0, 0, 1)
  else
    bif decide (a0_0 < 0) then
      k (0, 0, 2)
    else
      bif decide (IntKind.i64.wrap (root.rt 32 (IntKind.i64.wrap (a0_1 * 16777216)) 0 * root.rt 32 (IntKind.i64.wrap (a0_1 * 16777216)) 0) < IntKind.i64.wrap (a0_1 * 16777216)) then
        let t1 := f_interval_made (root.rt 32 (IntKind.i64.wrap (a0_0 * 16777216)) 0) (IntKind.i64.wrap (root.rt 32 (IntKind.i64.wrap (a0_1 * 16777216)) 0 + 1))
        k (t1.fst, t1.snd.fst, t1.snd.snd)
      else
        let t2 := f_interval_made (root.rt 32 (IntKind.i64.wrap (a0_0 * 16777216)) 0) (root.rt 32 (IntKind.i64.wrap (a0_1 * 16777216)) 0)
        k (t2.fst, t2.snd.fst, t2.snd.snd)
set_option maxRecDepth 100000 in
theorem interval_Sqrt.run (f_interval_Valid : Int → Int → (Bool)) (f_interval_made : Int → Int → (Int × Int × Int)) (a0_0 : Int) (a0_1 : Int) : xfn Try.prog ⟨[(56, interval_Valid.sp f_interval_Valid), (69, interval_root.sp), (70, interval_made.sp f_interval_made)], []⟩ [] 40 Try.f36 [.agg ⟨[.int .i64 a0_0, .int .i64 a0_1]⟩] [] = interval_Sqrt.K f_interval_Valid f_interval_made a0_0 a0_1 (fun r => some (.tuple ⟨[.agg ⟨[.int .i64 r.1, .int .i64 r.2.1]⟩, .int .i64 r.2.2]⟩, [])) := by kernel_rfl
def interval_Sqrt (a0_0 : Int) (a0_1 : Int) : Int × Int × Int := interval_Sqrt.K interval_Valid interval_made a0_0 a0_1 id
theorem interval_Sqrt.nat {R : Type} (f_interval_Valid : Int → Int → (Bool)) (f_interval_made : Int → Int → (Int × Int × Int)) (a0_0 : Int) (a0_1 : Int) (k : Int × Int × Int → R) : interval_Sqrt.K f_interval_Valid f_interval_made a0_0 a0_1 k = k (interval_Sqrt.K f_interval_Valid f_interval_made a0_0 a0_1 id) := by
  simp only [interval_Sqrt.K, acond k, id_eq]
theorem root_rts : ∀ (k : Nat) (n r : Int), 0 ≤ n → n ≤ 18014398509481984 → 0 ≤ r → r + ((2 ^ k : Nat) : Int) ≤ 4294967296 → root.rt k n r = rts k n r
  | 0, n, r, _, _, _, _ => rfl
  | k + 1, n, r, h0, h1, h2, h3 => by
    have e : ((2 ^ (k + 1) : Nat) : Int) = ((2 ^ k : Nat) : Int) + ((2 ^ k : Nat) : Int) := by rw [Nat.pow_succ]; omega
    have e2 : (2 : Int) ^ k = ((2 ^ k : Nat) : Int) := (Int.natCast_pow 2 k).symm
    have hp : 0 < ((2 ^ k : Nat) : Int) := by have := Nat.two_pow_pos k; omega
    rw [e] at h3
    have hq := tdiv_bnd (a := n) (b := r + ((2 ^ k : Nat) : Int)) (by omega) (by omega) (by omega)
    simp only [root.rt, rts, bitOf_succ, e2]
    rw [w64 (n := r + ((2 ^ k : Nat) : Int)) (by omega) (by omega), Int.tdiv_eq_ediv_of_nonneg h0, w64 (by omega) (by omega)]
    have hi : r + ((2 ^ k : Nat) : Int) ≤ n / (r + ((2 ^ k : Nat) : Int)) ↔ (r + ((2 ^ k : Nat) : Int)) * (r + ((2 ^ k : Nat) : Int)) ≤ n := le_fl (by omega)
    by_cases hc : (r + ((2 ^ k : Nat) : Int)) * (r + ((2 ^ k : Nat) : Int)) ≤ n
    · rw [if_pos hc, if_pos (hi.2 hc)]
      exact root_rts k n _ h0 h1 (by omega) (by omega)
    · rw [if_neg hc, if_neg (fun h => hc (hi.1 h))]
      exact root_rts k n _ h0 h1 h2 (by omega)
theorem root_sqt {n : Int} (h0 : 0 ≤ n) (h : n ≤ 18014398509481984) : root.rt 32 n 0 = sqt n := root_rts 32 n 0 h0 h (by omega) (by decide)
theorem interval_Sqrt.eq (a b : Int) : interval_Sqrt a b = isr a b := by
  simp only [interval_Sqrt, interval_Sqrt.K, id_eq, interval_Valid.eq, isr]
  cases hv : V a b with
  | false => rfl
  | true =>
    have := V_iff.1 hv
    by_cases ha : a < 0
    · simp only [ha, decide_true, Bool.not_true, cond_false, cond_true, if_true]
    · have w1 : IntKind.i64.wrap (a * 16777216) = a * 16777216 := w64 (by omega) (by omega)
      have w2 : IntKind.i64.wrap (b * 16777216) = b * 16777216 := w64 (by omega) (by omega)
      have r1 := root_sqt (n := a * 16777216) (by omega) (by omega)
      have r2 := root_sqt (n := b * 16777216) (by omega) (by omega)
      have s2 := sqt_spec (n := b * 16777216) (by omega) (by omega)
      have g := isr_range (a := a) (b := b) (by omega) (by omega) (by omega)
      have g2 := (sqc_spec (n := b * 16777216) (by omega) (by omega)).2.2.2
      simp only [ha, decide_false, Bool.not_true, cond_false, cond_true, if_false, w1, w2, r1, r2]
      have g3 := sq_nonneg (sqt (b * 16777216))
      rw [w64 (n := sqt (b * 16777216) * sqt (b * 16777216)) (by omega) (by omega)]
      by_cases hc : sqt (b * 16777216) * sqt (b * 16777216) < b * 16777216
      · have e : sqc (b * 16777216) = sqt (b * 16777216) + 1 := by rw [sqc, if_pos hc]
        simp only [hc, decide_true, cond_true]
        rw [w64 (by omega) (by omega), ← e, interval_made.eq (by omega), chk_of (by omega) (by omega) (by omega)]
      · have e : sqc (b * 16777216) = sqt (b * 16777216) := by rw [sqc, if_neg hc]
        simp only [hc, decide_false, cond_false]
        rw [← e, interval_made.eq (by omega), chk_of (by omega) (by omega) (by omega)]
theorem interval_Sqrt.ok : SOK Try.prog 36 (interval_Sqrt.sp interval_Sqrt) := by
  refine sok_of (E := ⟨[(56, interval_Valid.sp interval_Valid), (69, interval_root.sp), (70, interval_made.sp interval_made)], []⟩) ⟨(specs_cons interval_Valid.ok (specs_cons interval_root.ok (specs_cons interval_made.ok specs_nil))), inl_nil, mixed_ok⟩ 40 Try.func36 (by decide) rfl no_loops fun vs bl v bl' h => ?_
  unfold interval_Sqrt.sp at h
  split at h
  · rename_i a0_0 a0_1
    simp only [Option.some.injEq, Prod.mk.injEq, true_and] at h
    obtain ⟨rfl, rfl⟩ := h
    refine ⟨?_, by simp [okV, Nat.blt], clo_spec 8 _ (by kernel_rfl), told_blk (by kernel_rfl)⟩
    refine (interval_Sqrt.run interval_Valid interval_made a0_0 a0_1).trans ?_
    refine (interval_Sqrt.nat interval_Valid interval_made a0_0 a0_1 _).trans ?_
    kernel_rfl
  · cases h

/-! ### culet/interval.Neg (37) -/
def interval_Neg.K {R : Type} (f_interval_Valid : Int → Int → (Bool)) (f_interval_made : Int → Int → (Int × Int × Int)) (a0_0 : Int) (a0_1 : Int) (k : Int × Int × Int → R) : R :=
  let t0 := f_interval_Valid a0_0 a0_1
  bif !t0 then
    k (0, 0, 1)
  else
    let t1 := f_interval_made (IntKind.i64.wrap (0 - a0_1)) (IntKind.i64.wrap (0 - a0_0))
    k (t1.fst, t1.snd.fst, t1.snd.snd)
set_option maxRecDepth 100000 in
theorem interval_Neg.run (f_interval_Valid : Int → Int → (Bool)) (f_interval_made : Int → Int → (Int × Int × Int)) (a0_0 : Int) (a0_1 : Int) : xfn Try.prog ⟨[(56, interval_Valid.sp f_interval_Valid), (70, interval_made.sp f_interval_made)], []⟩ [] 40 Try.f37 [.agg ⟨[.int .i64 a0_0, .int .i64 a0_1]⟩] [] = interval_Neg.K f_interval_Valid f_interval_made a0_0 a0_1 (fun r => some (.tuple ⟨[.agg ⟨[.int .i64 r.1, .int .i64 r.2.1]⟩, .int .i64 r.2.2]⟩, [])) := by kernel_rfl
def interval_Neg (a0_0 : Int) (a0_1 : Int) : Int × Int × Int := interval_Neg.K interval_Valid interval_made a0_0 a0_1 id
theorem interval_Neg.nat {R : Type} (f_interval_Valid : Int → Int → (Bool)) (f_interval_made : Int → Int → (Int × Int × Int)) (a0_0 : Int) (a0_1 : Int) (k : Int × Int × Int → R) : interval_Neg.K f_interval_Valid f_interval_made a0_0 a0_1 k = k (interval_Neg.K f_interval_Valid f_interval_made a0_0 a0_1 id) := by
  simp only [interval_Neg.K, acond k, id_eq]
theorem interval_Neg.eq (a b : Int) : interval_Neg a b = ineg a b := by
  simp only [interval_Neg, interval_Neg.K, id_eq, interval_Valid.eq, ineg]
  cases hv : V a b with
  | false => rfl
  | true =>
    have := V_iff.1 hv
    rw [Int.zero_sub, Int.zero_sub, w64 (by omega) (by omega), w64 (by omega) (by omega), interval_made.eq (by omega), chk_of (by omega) (by omega) (by omega)]
    rfl
theorem interval_Neg.ok : SOK Try.prog 37 (interval_Neg.sp interval_Neg) := by
  refine sok_of (E := ⟨[(56, interval_Valid.sp interval_Valid), (70, interval_made.sp interval_made)], []⟩) ⟨(specs_cons interval_Valid.ok (specs_cons interval_made.ok specs_nil)), inl_nil, mixed_ok⟩ 40 Try.func37 (by decide) rfl no_loops fun vs bl v bl' h => ?_
  unfold interval_Neg.sp at h
  split at h
  · rename_i a0_0 a0_1
    simp only [Option.some.injEq, Prod.mk.injEq, true_and] at h
    obtain ⟨rfl, rfl⟩ := h
    refine ⟨?_, by simp [okV, Nat.blt], clo_spec 8 _ (by kernel_rfl), told_blk (by kernel_rfl)⟩
    refine (interval_Neg.run interval_Valid interval_made a0_0 a0_1).trans ?_
    refine (interval_Neg.nat interval_Valid interval_made a0_0 a0_1 _).trans ?_
    kernel_rfl
  · cases h

/-! ### culet/interval.floor (74) -/
def interval_floor.K {R : Type} (a0 : Int) (a1 : Int) (k : (Int) → Option R) : Option R :=
  bif a1 != 0 then
    bif a1 != 0 then
      bif a0.tmod a1 != 0 then
        bif decide (a0 < 0) then
          k (IntKind.i64.wrap (IntKind.i64.wrap (a0.tdiv a1) - 1))
        else
          k (IntKind.i64.wrap (a0.tdiv a1))
      else
        k (IntKind.i64.wrap (a0.tdiv a1))
    else
      none
  else
    none
set_option maxRecDepth 100000 in
theorem interval_floor.run (a0 : Int) (a1 : Int) : xfn Try.prog ⟨[], []⟩ [] 40 Try.f74 [.int .i64 a0, .int .i64 a1] [] = interval_floor.K a0 a1 (fun r => some (.int .i64 r, [])) := by kernel_rfl
def interval_floor.o (a0 : Int) (a1 : Int) : Option (Int) := interval_floor.K a0 a1 some
def interval_floor.pre (a0 : Int) (a1 : Int) : Bool := (interval_floor.o a0 a1).isSome
def interval_floor (a0 : Int) (a1 : Int) : Int := (interval_floor.o a0 a1).getD default
theorem interval_floor.nat {R : Type} (a0 : Int) (a1 : Int) (k : (Int) → Option R) : interval_floor.K a0 a1 k = (interval_floor.K a0 a1 some).bind k := by
  simp only [interval_floor.K, bcond, Option.bind_some, Option.bind_none]
theorem interval_floor.eq {a b : Int} (hb : 0 < b) (h1 : -4611686018427387904 ≤ a) (h2 : a ≤ 4611686018427387904) : interval_floor a b = a / b := by
  have hb0 : (b != 0) = true := by simp; omega
  have hq := tdiv_bnd hb h1 h2
  simp only [interval_floor, interval_floor.o, interval_floor.K, hb0, cond_true]
  have hd : a.tdiv b = a / b + if 0 ≤ a ∨ b ∣ a then 0 else b.sign := Int.tdiv_eq_ediv
  rw [Int.sign_eq_one_of_pos hb] at hd
  by_cases hm : a.tmod b = 0
  · have hv : b ∣ a := Int.dvd_of_tmod_eq_zero hm
    simp only [hv, or_true, if_true, Int.add_zero] at hd
    simp only [hm, bne_self_eq_false, cond_false, Option.getD_some, hd]
    exact w64 (by omega) (by omega)
  · have hv : ¬ b ∣ a := fun h => hm (Int.tmod_eq_zero_of_dvd h)
    have hm' : (a.tmod b != 0) = true := by simp [hm]
    simp only [hm', cond_true]
    by_cases ha : a < 0
    · simp only [hv, or_false, show ¬ 0 ≤ a from by omega, if_false] at hd
      simp only [ha, decide_true, cond_true, Option.getD_some, hd]
      rw [w64 (n := a / b + 1) (by omega) (by omega), Int.add_sub_cancel, w64 (by omega) (by omega)]
    · simp only [show 0 ≤ a from by omega, true_or, if_true, Int.add_zero] at hd
      simp only [ha, decide_false, cond_false, Option.getD_some, hd]
      exact w64 (by omega) (by omega)
theorem interval_floor.ok : SOK Try.prog 74 (interval_floor.sp interval_floor) := by
  refine sok_of (E := ⟨[], []⟩) ⟨specs_nil, inl_nil, mixed_ok⟩ 40 Try.func74 (by decide) rfl no_loops fun vs bl v bl' h => ?_
  unfold interval_floor.sp at h
  split at h
  · rename_i a0 a1
    simp only [Option.some.injEq, Prod.mk.injEq] at h
    obtain ⟨hp, rfl, rfl⟩ := h
    have hr := interval_floor.run a0 a1
    rw [interval_floor.nat] at hr
    obtain ⟨r, h2⟩ := Option.isSome_iff_exists.1 (by simp [interval_floor.o, interval_floor.K, isSome_cond, bool_cond_true, hp] : (interval_floor.o a0 a1).isSome = true)
    have h3 : interval_floor a0 a1 = r := by unfold interval_floor; rw [h2]; rfl
    have h4 : interval_floor.K a0 a1 some = some r := h2
    rw [h4, Option.bind_some] at hr
    rw [h3]
    exact ⟨hr, by simp [okV, Nat.blt], clo_spec 8 _ (by kernel_rfl), told_blk (by kernel_rfl)⟩
  · cases h

/-! ### culet/interval.ceil (75) -/
def interval_ceil.K {R : Type} (f_interval_floor : Int → Int → (Int)) (a0 : Int) (a1 : Int) (k : (Int) → Option R) : Option R :=
  bif a1 != 0 then
    let t0 := f_interval_floor (IntKind.i64.wrap (0 - a0)) a1
    k (IntKind.i64.wrap (0 - t0))
  else
    none
set_option maxRecDepth 100000 in
theorem interval_ceil.run (f_interval_floor : Int → Int → (Int)) (a0 : Int) (a1 : Int) : xfn Try.prog ⟨[(74, interval_floor.sp f_interval_floor)], []⟩ [] 40 Try.f75 [.int .i64 a0, .int .i64 a1] [] = interval_ceil.K f_interval_floor a0 a1 (fun r => some (.int .i64 r, [])) := by kernel_rfl
def interval_ceil.o (a0 : Int) (a1 : Int) : Option (Int) := interval_ceil.K interval_floor a0 a1 some
def interval_ceil.pre (a0 : Int) (a1 : Int) : Bool := (interval_ceil.o a0 a1).isSome
def interval_ceil (a0 : Int) (a1 : Int) : Int := (interval_ceil.o a0 a1).getD default
theorem interval_ceil.nat {R : Type} (f_interval_floor : Int → Int → (Int)) (a0 : Int) (a1 : Int) (k : (Int) → Option R) : interval_ceil.K f_interval_floor a0 a1 k = (interval_ceil.K f_interval_floor a0 a1 some).bind k := by
  simp only [interval_ceil.K, bcond, Option.bind_some, Option.bind_none]
theorem interval_ceil.eq {a b : Int} (hb : 0 < b) (h1 : -4611686018427387904 ≤ a) (h2 : a ≤ 4611686018427387904) : interval_ceil a b = cl a b := by
  have hb0 : (b != 0) = true := by simp; omega
  have hq := tdiv_bnd (a := -a) hb (by omega) (by omega)
  simp only [interval_ceil, interval_ceil.o, interval_ceil.K, hb0, cond_true, Option.getD_some, Int.zero_sub]
  rw [w64 (n := -a) (by omega) (by omega), interval_floor.eq hb (by omega) (by omega), w64 (by omega) (by omega)]
  rfl
theorem interval_ceil.ok : SOK Try.prog 75 (interval_ceil.sp interval_ceil) := by
  refine sok_of (E := ⟨[(74, interval_floor.sp interval_floor)], []⟩) ⟨(specs_cons interval_floor.ok specs_nil), inl_nil, mixed_ok⟩ 40 Try.func75 (by decide) rfl no_loops fun vs bl v bl' h => ?_
  unfold interval_ceil.sp at h
  split at h
  · rename_i a0 a1
    simp only [Option.some.injEq, Prod.mk.injEq] at h
    obtain ⟨hp, rfl, rfl⟩ := h
    have hr := interval_ceil.run interval_floor a0 a1
    rw [interval_ceil.nat] at hr
    obtain ⟨r, h2⟩ := Option.isSome_iff_exists.1 (by simp [interval_ceil.o, interval_ceil.K, isSome_cond, bool_cond_true, hp] : (interval_ceil.o a0 a1).isSome = true)
    have h3 : interval_ceil a0 a1 = r := by unfold interval_ceil; rw [h2]; rfl
    have h4 : interval_ceil.K interval_floor a0 a1 some = some r := h2
    rw [h4, Option.bind_some] at hr
    rw [h3]
    exact ⟨hr, by simp [okV, Nat.blt], clo_spec 8 _ (by kernel_rfl), told_blk (by kernel_rfl)⟩
  · cases h

/-! ### culet/interval.Square (57) -/
def interval_Square.K {R : Type} (f_interval_Valid : Int → Int → (Bool)) (f_interval_made : Int → Int → (Int × Int × Int)) (f_interval_floor : Int → Int → (Int)) (f_interval_ceil : Int → Int → (Int)) (a0_0 : Int) (a0_1 : Int) (k : Int × Int × Int → R) : R :=
  let t0 := f_interval_Valid a0_0 a0_1
  bif !t0 then
    k (0, 0, 1)
  else
    bif decide (a0_0 ≤ 0) then
      bif decide (a0_1 ≥ 0) then
        let t1 := f_interval_floor 0 16777216
        let t2 := f_interval_ceil (mx (mx (IntKind.i64.wrap (a0_0 * a0_0)) (IntKind.i64.wrap (a0_0 * a0_0))) (IntKind.i64.wrap (a0_1 * a0_1))) 16777216
        let t3 := f_interval_made t1 t2
        k (t3.fst, t3.snd.fst, t3.snd.snd)
      else
        let t4 := f_interval_floor (mn (mn (IntKind.i64.wrap (a0_0 * a0_0)) (IntKind.i64.wrap (a0_0 * a0_0))) (IntKind.i64.wrap (a0_1 * a0_1))) 16777216
        let t5 := f_interval_ceil (mx (mx (IntKind.i64.wrap (a0_0 * a0_0)) (IntKind.i64.wrap (a0_0 * a0_0))) (IntKind.i64.wrap (a0_1 * a0_1))) 16777216
        let t6 := f_interval_made t4 t5
        k (t6.fst, t6.snd.fst, t6.snd.snd)
    else
      let t7 := f_interval_floor (mn (mn (IntKind.i64.wrap (a0_0 * a0_0)) (IntKind.i64.wrap (a0_0 * a0_0))) (IntKind.i64.wrap (a0_1 * a0_1))) 16777216
      let t8 := f_interval_ceil (mx (mx (IntKind.i64.wrap (a0_0 * a0_0)) (IntKind.i64.wrap (a0_0 * a0_0))) (IntKind.i64.wrap (a0_1 * a0_1))) 16777216
      let t9 := f_interval_made t7 t8
      k (t9.fst, t9.snd.fst, t9.snd.snd)
set_option maxRecDepth 100000 in
theorem interval_Square.run (f_interval_Valid : Int → Int → (Bool)) (f_interval_made : Int → Int → (Int × Int × Int)) (f_interval_floor : Int → Int → (Int)) (f_interval_ceil : Int → Int → (Int)) (a0_0 : Int) (a0_1 : Int) : xfn Try.prog ⟨[(56, interval_Valid.sp f_interval_Valid), (70, interval_made.sp f_interval_made), (73, interval_extremes.sp), (74, interval_floor.sp f_interval_floor), (75, interval_ceil.sp f_interval_ceil)], []⟩ [] 40 Try.f57 [.agg ⟨[.int .i64 a0_0, .int .i64 a0_1]⟩] [] = interval_Square.K f_interval_Valid f_interval_made f_interval_floor f_interval_ceil a0_0 a0_1 (fun r => some (.tuple ⟨[.agg ⟨[.int .i64 r.1, .int .i64 r.2.1]⟩, .int .i64 r.2.2]⟩, [])) := by kernel_rfl
def interval_Square (a0_0 : Int) (a0_1 : Int) : Int × Int × Int := interval_Square.K interval_Valid interval_made interval_floor interval_ceil a0_0 a0_1 id
theorem interval_Square.nat {R : Type} (f_interval_Valid : Int → Int → (Bool)) (f_interval_made : Int → Int → (Int × Int × Int)) (f_interval_floor : Int → Int → (Int)) (f_interval_ceil : Int → Int → (Int)) (a0_0 : Int) (a0_1 : Int) (k : Int × Int × Int → R) : interval_Square.K f_interval_Valid f_interval_made f_interval_floor f_interval_ceil a0_0 a0_1 k = k (interval_Square.K f_interval_Valid f_interval_made f_interval_floor f_interval_ceil a0_0 a0_1 id) := by
  simp only [interval_Square.K, acond k, id_eq]
theorem interval_Square.eq (a b : Int) : interval_Square a b = isq a b := by
  simp only [interval_Square, interval_Square.K, id_eq, interval_Valid.eq, isq]
  cases h1 : V a b with
  | false => simp
  | true =>
    have := V_iff.1 h1
    have e1 := mul_bnd30 (x := a) (y := a) (by omega) (by omega) (by omega) (by omega)
    have e4 := mul_bnd30 (x := b) (y := b) (by omega) (by omega) (by omega) (by omega)
    have s1 := sq_nonneg a
    have s2 := sq_nonneg b
    have w1 : IntKind.i64.wrap (a * a) = a * a := w64 (by omega) (by omega)
    have w4 : IntKind.i64.wrap (b * b) = b * b := w64 (by omega) (by omega)
    have m1 : min (min (a * a) (a * a)) (b * b) = min (a * a) (b * b) := by omega
    have m2 : max (max (a * a) (a * a)) (b * b) = max (a * a) (b * b) := by omega
    simp only [w1, w4, mn_eq, mx_eq, Bool.not_true, cond_false, cond_true, m1, m2]
    have r1 : interval_floor (min (a * a) (b * b)) 16777216 = min (a * a) (b * b) / 16777216 := interval_floor.eq (by omega) (by omega) (by omega)
    have r2 : interval_ceil (max (a * a) (b * b)) 16777216 = cl (max (a * a) (b * b)) 16777216 := interval_ceil.eq (by omega) (by omega) (by omega)
    have r3 : interval_floor 0 16777216 = 0 / 16777216 := interval_floor.eq (by omega) (by omega) (by omega)
    have hk : (0 : Int) < 16777216 := by omega
    rw [r1, r2, r3, interval_made.eq (fl_le_cl' hk (by omega)), interval_made.eq (fl_le_cl' hk (by omega))]
    by_cases h2 : a ≤ 0 <;> by_cases h3 : b ≥ 0 <;> simp [h2, h3]
theorem interval_Square.ok : SOK Try.prog 57 (interval_Square.sp interval_Square) := by
  refine sok_of (E := ⟨[(56, interval_Valid.sp interval_Valid), (70, interval_made.sp interval_made), (73, interval_extremes.sp), (74, interval_floor.sp interval_floor), (75, interval_ceil.sp interval_ceil)], []⟩) ⟨(specs_cons interval_Valid.ok (specs_cons interval_made.ok (specs_cons interval_extremes.ok (specs_cons interval_floor.ok (specs_cons interval_ceil.ok specs_nil))))), inl_nil, mixed_ok⟩ 40 Try.func57 (by decide) rfl no_loops fun vs bl v bl' h => ?_
  unfold interval_Square.sp at h
  split at h
  · rename_i a0_0 a0_1
    simp only [Option.some.injEq, Prod.mk.injEq, true_and] at h
    obtain ⟨rfl, rfl⟩ := h
    refine ⟨?_, by simp [okV, Nat.blt], clo_spec 8 _ (by kernel_rfl), told_blk (by kernel_rfl)⟩
    refine (interval_Square.run interval_Valid interval_made interval_floor interval_ceil a0_0 a0_1).trans ?_
    refine (interval_Square.nat interval_Valid interval_made interval_floor interval_ceil a0_0 a0_1 _).trans ?_
    kernel_rfl
  · cases h

/-! ### (*culet/refraction.calc).one@culet/interval.Square (35) -/
def refraction_calc_one_interval_Square.K {R : Type} (f_interval_Sqrt : Int → Int → (Int × Int × Int)) (f_interval_Neg : Int → Int → (Int × Int × Int)) (f_interval_Square : Int → Int → (Int × Int × Int)) (s0_0 : Int) (a2_0 : Int) (a2_1 : Int) (k : Int × Int × Int → R) : R :=
  bif s0_0 != 0 then
    k (a2_0, a2_1, s0_0)
  else
    let t0 := f_interval_Square a2_0 a2_1
    k (t0.fst, t0.snd.fst, t0.snd.snd)
set_option maxRecDepth 100000 in
theorem refraction_calc_one_interval_Square.run (f_interval_Sqrt : Int → Int → (Int × Int × Int)) (f_interval_Neg : Int → Int → (Int × Int × Int)) (f_interval_Square : Int → Int → (Int × Int × Int)) (s0_0 : Int) (a2_0 : Int) (a2_1 : Int) : xfn Try.prog ⟨[(36, interval_Sqrt.sp f_interval_Sqrt), (37, interval_Neg.sp f_interval_Neg), (57, interval_Square.sp f_interval_Square)], []⟩ [] 40 Try.f35 [.pointer (some ⟨0, 0, none⟩), .func (.func 57) ⟨[]⟩ ⟨[]⟩, .agg ⟨[.int .i64 a2_0, .int .i64 a2_1]⟩] [.cs [.int .i64 s0_0] 63] = refraction_calc_one_interval_Square.K f_interval_Sqrt f_interval_Neg f_interval_Square s0_0 a2_0 a2_1 (fun r => some (.agg ⟨[.int .i64 r.1, .int .i64 r.2.1]⟩, [.cs [.int .i64 r.2.2] 63])) := by kernel_rfl
def refraction_calc_one_interval_Square (s0_0 : Int) (a2_0 : Int) (a2_1 : Int) : Int × Int × Int := refraction_calc_one_interval_Square.K interval_Sqrt interval_Neg interval_Square s0_0 a2_0 a2_1 id
theorem refraction_calc_one_interval_Square.nat {R : Type} (f_interval_Sqrt : Int → Int → (Int × Int × Int)) (f_interval_Neg : Int → Int → (Int × Int × Int)) (f_interval_Square : Int → Int → (Int × Int × Int)) (s0_0 : Int) (a2_0 : Int) (a2_1 : Int) (k : Int × Int × Int → R) : refraction_calc_one_interval_Square.K f_interval_Sqrt f_interval_Neg f_interval_Square s0_0 a2_0 a2_1 k = k (refraction_calc_one_interval_Square.K f_interval_Sqrt f_interval_Neg f_interval_Square s0_0 a2_0 a2_1 id) := by
  simp only [refraction_calc_one_interval_Square.K, acond k, id_eq]
theorem refraction_calc_one_interval_Square.eq (s a b : Int) : refraction_calc_one_interval_Square s a b = st s a b (isq a b) := by
  simp only [refraction_calc_one_interval_Square, refraction_calc_one_interval_Square.K, id_eq, interval_Square.eq, st]

/-! ### (*culet/refraction.calc).one@culet/interval.Sqrt (35) -/
def refraction_calc_one_interval_Sqrt.K {R : Type} (f_interval_Sqrt : Int → Int → (Int × Int × Int)) (f_interval_Neg : Int → Int → (Int × Int × Int)) (f_interval_Square : Int → Int → (Int × Int × Int)) (s0_0 : Int) (a2_0 : Int) (a2_1 : Int) (k : Int × Int × Int → R) : R :=
  bif s0_0 != 0 then
    k (a2_0, a2_1, s0_0)
  else
    let t0 := f_interval_Sqrt a2_0 a2_1
    k (t0.fst, t0.snd.fst, t0.snd.snd)
set_option maxRecDepth 100000 in
theorem refraction_calc_one_interval_Sqrt.run (f_interval_Sqrt : Int → Int → (Int × Int × Int)) (f_interval_Neg : Int → Int → (Int × Int × Int)) (f_interval_Square : Int → Int → (Int × Int × Int)) (s0_0 : Int) (a2_0 : Int) (a2_1 : Int) : xfn Try.prog ⟨[(36, interval_Sqrt.sp f_interval_Sqrt), (37, interval_Neg.sp f_interval_Neg), (57, interval_Square.sp f_interval_Square)], []⟩ [] 40 Try.f35 [.pointer (some ⟨0, 0, none⟩), .func (.func 36) ⟨[]⟩ ⟨[]⟩, .agg ⟨[.int .i64 a2_0, .int .i64 a2_1]⟩] [.cs [.int .i64 s0_0] 63] = refraction_calc_one_interval_Sqrt.K f_interval_Sqrt f_interval_Neg f_interval_Square s0_0 a2_0 a2_1 (fun r => some (.agg ⟨[.int .i64 r.1, .int .i64 r.2.1]⟩, [.cs [.int .i64 r.2.2] 63])) := by kernel_rfl
def refraction_calc_one_interval_Sqrt (s0_0 : Int) (a2_0 : Int) (a2_1 : Int) : Int × Int × Int := refraction_calc_one_interval_Sqrt.K interval_Sqrt interval_Neg interval_Square s0_0 a2_0 a2_1 id
theorem refraction_calc_one_interval_Sqrt.nat {R : Type} (f_interval_Sqrt : Int → Int → (Int × Int × Int)) (f_interval_Neg : Int → Int → (Int × Int × Int)) (f_interval_Square : Int → Int → (Int × Int × Int)) (s0_0 : Int) (a2_0 : Int) (a2_1 : Int) (k : Int × Int × Int → R) : refraction_calc_one_interval_Sqrt.K f_interval_Sqrt f_interval_Neg f_interval_Square s0_0 a2_0 a2_1 k = k (refraction_calc_one_interval_Sqrt.K f_interval_Sqrt f_interval_Neg f_interval_Square s0_0 a2_0 a2_1 id) := by
  simp only [refraction_calc_one_interval_Sqrt.K, acond k, id_eq]
theorem refraction_calc_one_interval_Sqrt.eq (s a b : Int) : refraction_calc_one_interval_Sqrt s a b = st s a b (isr a b) := by
  simp only [refraction_calc_one_interval_Sqrt, refraction_calc_one_interval_Sqrt.K, id_eq, interval_Sqrt.eq, st]

/-! ### (*culet/refraction.calc).one@culet/interval.Neg (35) -/
def refraction_calc_one_interval_Neg.K {R : Type} (f_interval_Sqrt : Int → Int → (Int × Int × Int)) (f_interval_Neg : Int → Int → (Int × Int × Int)) (f_interval_Square : Int → Int → (Int × Int × Int)) (s0_0 : Int) (a2_0 : Int) (a2_1 : Int) (k : Int × Int × Int → R) : R :=
  bif s0_0 != 0 then
    k (a2_0, a2_1, s0_0)
  else
    let t0 := f_interval_Neg a2_0 a2_1
    k (t0.fst, t0.snd.fst, t0.snd.snd)
set_option maxRecDepth 100000 in
theorem refraction_calc_one_interval_Neg.run (f_interval_Sqrt : Int → Int → (Int × Int × Int)) (f_interval_Neg : Int → Int → (Int × Int × Int)) (f_interval_Square : Int → Int → (Int × Int × Int)) (s0_0 : Int) (a2_0 : Int) (a2_1 : Int) : xfn Try.prog ⟨[(36, interval_Sqrt.sp f_interval_Sqrt), (37, interval_Neg.sp f_interval_Neg), (57, interval_Square.sp f_interval_Square)], []⟩ [] 40 Try.f35 [.pointer (some ⟨0, 0, none⟩), .func (.func 37) ⟨[]⟩ ⟨[]⟩, .agg ⟨[.int .i64 a2_0, .int .i64 a2_1]⟩] [.cs [.int .i64 s0_0] 63] = refraction_calc_one_interval_Neg.K f_interval_Sqrt f_interval_Neg f_interval_Square s0_0 a2_0 a2_1 (fun r => some (.agg ⟨[.int .i64 r.1, .int .i64 r.2.1]⟩, [.cs [.int .i64 r.2.2] 63])) := by kernel_rfl
def refraction_calc_one_interval_Neg (s0_0 : Int) (a2_0 : Int) (a2_1 : Int) : Int × Int × Int := refraction_calc_one_interval_Neg.K interval_Sqrt interval_Neg interval_Square s0_0 a2_0 a2_1 id
theorem refraction_calc_one_interval_Neg.nat {R : Type} (f_interval_Sqrt : Int → Int → (Int × Int × Int)) (f_interval_Neg : Int → Int → (Int × Int × Int)) (f_interval_Square : Int → Int → (Int × Int × Int)) (s0_0 : Int) (a2_0 : Int) (a2_1 : Int) (k : Int × Int × Int → R) : refraction_calc_one_interval_Neg.K f_interval_Sqrt f_interval_Neg f_interval_Square s0_0 a2_0 a2_1 k = k (refraction_calc_one_interval_Neg.K f_interval_Sqrt f_interval_Neg f_interval_Square s0_0 a2_0 a2_1 id) := by
  simp only [refraction_calc_one_interval_Neg.K, acond k, id_eq]
theorem refraction_calc_one_interval_Neg.eq (s a b : Int) : refraction_calc_one_interval_Neg s a b = st s a b (ineg a b) := by
  simp only [refraction_calc_one_interval_Neg, refraction_calc_one_interval_Neg.K, id_eq, interval_Neg.eq, st]
theorem refraction_calc_one.ok : SOK Try.prog 35 (refraction_calc_one.sp refraction_calc_one_interval_Square refraction_calc_one_interval_Sqrt refraction_calc_one_interval_Neg) := by
  refine sok_of (E := ⟨[(36, interval_Sqrt.sp interval_Sqrt), (37, interval_Neg.sp interval_Neg), (57, interval_Square.sp interval_Square)], []⟩) ⟨(specs_cons interval_Sqrt.ok (specs_cons interval_Neg.ok (specs_cons interval_Square.ok specs_nil))), inl_nil, mixed_ok⟩ 40 Try.func35 (by decide) rfl no_loops fun vs bl v bl' h => ?_
  unfold refraction_calc_one.sp at h
  split at h
  · rename_i a2_0 a2_1 s0_0
    simp only [Option.some.injEq, Prod.mk.injEq, true_and] at h
    obtain ⟨rfl, rfl⟩ := h
    refine ⟨?_, by simp [okV, Nat.blt], clo_spec 8 _ (by kernel_rfl), told_blk (by kernel_rfl)⟩
    refine (refraction_calc_one_interval_Square.run interval_Sqrt interval_Neg interval_Square s0_0 a2_0 a2_1).trans ?_
    refine (refraction_calc_one_interval_Square.nat interval_Sqrt interval_Neg interval_Square s0_0 a2_0 a2_1 _).trans ?_
    kernel_rfl
  · rename_i a2_0 a2_1 s0_0
    simp only [Option.some.injEq, Prod.mk.injEq, true_and] at h
    obtain ⟨rfl, rfl⟩ := h
    refine ⟨?_, by simp [okV, Nat.blt], clo_spec 8 _ (by kernel_rfl), told_blk (by kernel_rfl)⟩
    refine (refraction_calc_one_interval_Sqrt.run interval_Sqrt interval_Neg interval_Square s0_0 a2_0 a2_1).trans ?_
    refine (refraction_calc_one_interval_Sqrt.nat interval_Sqrt interval_Neg interval_Square s0_0 a2_0 a2_1 _).trans ?_
    kernel_rfl
  · rename_i a2_0 a2_1 s0_0
    simp only [Option.some.injEq, Prod.mk.injEq, true_and] at h
    obtain ⟨rfl, rfl⟩ := h
    refine ⟨?_, by simp [okV, Nat.blt], clo_spec 8 _ (by kernel_rfl), told_blk (by kernel_rfl)⟩
    refine (refraction_calc_one_interval_Neg.run interval_Sqrt interval_Neg interval_Square s0_0 a2_0 a2_1).trans ?_
    refine (refraction_calc_one_interval_Neg.nat interval_Sqrt interval_Neg interval_Square s0_0 a2_0 a2_1 _).trans ?_
    kernel_rfl
  · cases h

/-! ### culet/interval.Sub (40) -/
def interval_Sub.K {R : Type} (f_interval_made : Int → Int → (Int × Int × Int)) (f_interval_Valid : Int → Int → (Bool)) (a0_0 : Int) (a0_1 : Int) (a1_0 : Int) (a1_1 : Int) (k : Int × Int × Int → R) : R :=
  let t0 := f_interval_Valid a0_0 a0_1
  bif !t0 then
    k (0, 0, 1)
  else
    let t1 := f_interval_Valid a1_0 a1_1
    bif !t1 then
      k (0, 0, 1)
    else
      let t2 := f_interval_made (IntKind.i64.wrap (a0_0 - a1_1)) (IntKind.i64.wrap (a0_1 - a1_0))
      k (t2.fst, t2.snd.fst, t2.snd.snd)
set_option maxRecDepth 100000 in
theorem interval_Sub.run (f_interval_made : Int → Int → (Int × Int × Int)) (f_interval_Valid : Int → Int → (Bool)) (a0_0 : Int) (a0_1 : Int) (a1_0 : Int) (a1_1 : Int) : xfn Try.prog ⟨[(70, interval_made.sp f_interval_made), (56, interval_Valid.sp f_interval_Valid)], [(72, Try.f72)]⟩ [] 40 Try.f40 [.agg ⟨[.int .i64 a0_0, .int .i64 a0_1]⟩, .agg ⟨[.int .i64 a1_0, .int .i64 a1_1]⟩] [] = interval_Sub.K f_interval_made f_interval_Valid a0_0 a0_1 a1_0 a1_1 (fun r => some (.tuple ⟨[.agg ⟨[.int .i64 r.1, .int .i64 r.2.1]⟩, .int .i64 r.2.2]⟩, [])) := by kernel_rfl
def interval_Sub (a0_0 : Int) (a0_1 : Int) (a1_0 : Int) (a1_1 : Int) : Int × Int × Int := interval_Sub.K interval_made interval_Valid a0_0 a0_1 a1_0 a1_1 id
theorem interval_Sub.nat {R : Type} (f_interval_made : Int → Int → (Int × Int × Int)) (f_interval_Valid : Int → Int → (Bool)) (a0_0 : Int) (a0_1 : Int) (a1_0 : Int) (a1_1 : Int) (k : Int × Int × Int → R) : interval_Sub.K f_interval_made f_interval_Valid a0_0 a0_1 a1_0 a1_1 k = k (interval_Sub.K f_interval_made f_interval_Valid a0_0 a0_1 a1_0 a1_1 id) := by
  simp only [interval_Sub.K, acond k, id_eq]
theorem interval_Sub.eq (a b c d : Int) : interval_Sub a b c d = isub a b c d := by
  simp only [interval_Sub, interval_Sub.K, id_eq, interval_Valid.eq, isub]
  cases h1 : V a b with
  | false => simp
  | true => cases h2 : V c d with
    | false => simp
    | true =>
      have := V_iff.1 h1
      have := V_iff.1 h2
      rw [w64 (by omega) (by omega), w64 (by omega) (by omega), interval_made.eq (by omega)]
      simp
theorem interval_Sub.ok : SOK Try.prog 40 (interval_Sub.sp interval_Sub) := by
  refine sok_of (E := ⟨[(70, interval_made.sp interval_made), (56, interval_Valid.sp interval_Valid)], [(72, Try.f72)]⟩) ⟨(specs_cons interval_made.ok (specs_cons interval_Valid.ok specs_nil)), (inl_cons ⟨Try.func72, by decide, rfl⟩ inl_nil), mixed_ok⟩ 40 Try.func40 (by decide) rfl no_loops fun vs bl v bl' h => ?_
  unfold interval_Sub.sp at h
  split at h
  · rename_i a0_0 a0_1 a1_0 a1_1
    simp only [Option.some.injEq, Prod.mk.injEq, true_and] at h
    obtain ⟨rfl, rfl⟩ := h
    refine ⟨?_, by simp [okV, Nat.blt], clo_spec 8 _ (by kernel_rfl), told_blk (by kernel_rfl)⟩
    refine (interval_Sub.run interval_made interval_Valid a0_0 a0_1 a1_0 a1_1).trans ?_
    refine (interval_Sub.nat interval_made interval_Valid a0_0 a0_1 a1_0 a1_1 _).trans ?_
    kernel_rfl
  · cases h

/-! ### culet/interval.Mul (41) -/
def interval_Mul.K {R : Type} (f_interval_made : Int → Int → (Int × Int × Int)) (f_interval_Valid : Int → Int → (Bool)) (f_interval_floor : Int → Int → (Int)) (f_interval_ceil : Int → Int → (Int)) (a0_0 : Int) (a0_1 : Int) (a1_0 : Int) (a1_1 : Int) (k : Int × Int × Int → R) : R :=
  let t0 := f_interval_Valid a0_0 a0_1
  bif !t0 then
    k (0, 0, 1)
  else
    let t1 := f_interval_Valid a1_0 a1_1
    bif !t1 then
      k (0, 0, 1)
    else
      let t2 := f_interval_floor (mn (mn (mn (mn (IntKind.i64.wrap (a0_0 * a1_0)) (IntKind.i64.wrap (a0_0 * a1_0))) (IntKind.i64.wrap (a0_0 * a1_1))) (IntKind.i64.wrap (a0_1 * a1_0))) (IntKind.i64.wrap (a0_1 * a1_1))) 16777216
      let t3 := f_interval_ceil (mx (mx (mx (mx (IntKind.i64.wrap (a0_0 * a1_0)) (IntKind.i64.wrap (a0_0 * a1_0))) (IntKind.i64.wrap (a0_0 * a1_1))) (IntKind.i64.wrap (a0_1 * a1_0))) (IntKind.i64.wrap (a0_1 * a1_1))) 16777216
      let t4 := f_interval_made t2 t3
      k (t4.fst, t4.snd.fst, t4.snd.snd)
set_option maxRecDepth 100000 in
theorem interval_Mul.run (f_interval_made : Int → Int → (Int × Int × Int)) (f_interval_Valid : Int → Int → (Bool)) (f_interval_floor : Int → Int → (Int)) (f_interval_ceil : Int → Int → (Int)) (a0_0 : Int) (a0_1 : Int) (a1_0 : Int) (a1_1 : Int) : xfn Try.prog ⟨[(70, interval_made.sp f_interval_made), (56, interval_Valid.sp f_interval_Valid), (73, interval_extremes.sp), (74, interval_floor.sp f_interval_floor), (75, interval_ceil.sp f_interval_ceil)], [(72, Try.f72)]⟩ [] 40 Try.f41 [.agg ⟨[.int .i64 a0_0, .int .i64 a0_1]⟩, .agg ⟨[.int .i64 a1_0, .int .i64 a1_1]⟩] [] = interval_Mul.K f_interval_made f_interval_Valid f_interval_floor f_interval_ceil a0_0 a0_1 a1_0 a1_1 (fun r => some (.tuple ⟨[.agg ⟨[.int .i64 r.1, .int .i64 r.2.1]⟩, .int .i64 r.2.2]⟩, [])) := by kernel_rfl
def interval_Mul (a0_0 : Int) (a0_1 : Int) (a1_0 : Int) (a1_1 : Int) : Int × Int × Int := interval_Mul.K interval_made interval_Valid interval_floor interval_ceil a0_0 a0_1 a1_0 a1_1 id
theorem interval_Mul.nat {R : Type} (f_interval_made : Int → Int → (Int × Int × Int)) (f_interval_Valid : Int → Int → (Bool)) (f_interval_floor : Int → Int → (Int)) (f_interval_ceil : Int → Int → (Int)) (a0_0 : Int) (a0_1 : Int) (a1_0 : Int) (a1_1 : Int) (k : Int × Int × Int → R) : interval_Mul.K f_interval_made f_interval_Valid f_interval_floor f_interval_ceil a0_0 a0_1 a1_0 a1_1 k = k (interval_Mul.K f_interval_made f_interval_Valid f_interval_floor f_interval_ceil a0_0 a0_1 a1_0 a1_1 id) := by
  simp only [interval_Mul.K, acond k, id_eq]
theorem interval_Mul.eq (a b c d : Int) : interval_Mul a b c d = imul a b c d := by
  simp only [interval_Mul, interval_Mul.K, id_eq, interval_Valid.eq, imul]
  cases h1 : V a b with
  | false => simp
  | true => cases h2 : V c d with
    | false => simp
    | true =>
      have := V_iff.1 h1
      have := V_iff.1 h2
      have e1 := mul_bnd30 (x := a) (y := c) (by omega) (by omega) (by omega) (by omega)
      have e2 := mul_bnd30 (x := a) (y := d) (by omega) (by omega) (by omega) (by omega)
      have e3 := mul_bnd30 (x := b) (y := c) (by omega) (by omega) (by omega) (by omega)
      have e4 := mul_bnd30 (x := b) (y := d) (by omega) (by omega) (by omega) (by omega)
      have w1 : IntKind.i64.wrap (a * c) = a * c := w64 (by omega) (by omega)
      have w2 : IntKind.i64.wrap (a * d) = a * d := w64 (by omega) (by omega)
      have w3 : IntKind.i64.wrap (b * c) = b * c := w64 (by omega) (by omega)
      have w4 : IntKind.i64.wrap (b * d) = b * d := w64 (by omega) (by omega)
      have m1 : min (min (min (min (a * c) (a * c)) (a * d)) (b * c)) (b * d) = mn4 (a * c) (a * d) (b * c) (b * d) := by simp only [mn4]; omega
      have m2 : max (max (max (max (a * c) (a * c)) (a * d)) (b * c)) (b * d) = mx4 (a * c) (a * d) (b * c) (b * d) := by simp only [mx4]; omega
      simp only [w1, w2, w3, w4, mn_eq, mx_eq, Bool.not_true, cond_false, Bool.and_self, cond_true, m1, m2]
      have hmn : mn4 (a * c) (a * d) (b * c) (b * d) ≤ mx4 (a * c) (a * d) (b * c) (b * d) := by simp only [mn4, mx4]; omega
      rw [interval_floor.eq (by omega) (by simp only [mn4]; omega) (by simp only [mn4]; omega), interval_ceil.eq (by omega) (by simp only [mx4]; omega) (by simp only [mx4]; omega), interval_made.eq (fl_le_cl' (by omega) hmn)]
theorem interval_Mul.ok : SOK Try.prog 41 (interval_Mul.sp interval_Mul) := by
  refine sok_of (E := ⟨[(70, interval_made.sp interval_made), (56, interval_Valid.sp interval_Valid), (73, interval_extremes.sp), (74, interval_floor.sp interval_floor), (75, interval_ceil.sp interval_ceil)], [(72, Try.f72)]⟩) ⟨(specs_cons interval_made.ok (specs_cons interval_Valid.ok (specs_cons interval_extremes.ok (specs_cons interval_floor.ok (specs_cons interval_ceil.ok specs_nil))))), (inl_cons ⟨Try.func72, by decide, rfl⟩ inl_nil), mixed_ok⟩ 40 Try.func41 (by decide) rfl no_loops fun vs bl v bl' h => ?_
  unfold interval_Mul.sp at h
  split at h
  · rename_i a0_0 a0_1 a1_0 a1_1
    simp only [Option.some.injEq, Prod.mk.injEq, true_and] at h
    obtain ⟨rfl, rfl⟩ := h
    refine ⟨?_, by simp [okV, Nat.blt], clo_spec 8 _ (by kernel_rfl), told_blk (by kernel_rfl)⟩
    refine (interval_Mul.run interval_made interval_Valid interval_floor interval_ceil a0_0 a0_1 a1_0 a1_1).trans ?_
    refine (interval_Mul.nat interval_made interval_Valid interval_floor interval_ceil a0_0 a0_1 a1_0 a1_1 _).trans ?_
    kernel_rfl
  · cases h

/-! ### culet/interval.Add (53) -/
def interval_Add.K {R : Type} (f_interval_made : Int → Int → (Int × Int × Int)) (f_interval_Valid : Int → Int → (Bool)) (a0_0 : Int) (a0_1 : Int) (a1_0 : Int) (a1_1 : Int) (k : Int × Int × Int → R) : R :=
  let t0 := f_interval_Valid a0_0 a0_1
  bif !t0 then
    k (0, 0, 1)
  else
    let t1 := f_interval_Valid a1_0 a1_1
    bif !t1 then
      k (0, 0, 1)
    else
      let t2 := f_interval_made (IntKind.i64.wrap (a0_0 + a1_0)) (IntKind.i64.wrap (a0_1 + a1_1))
      k (t2.fst, t2.snd.fst, t2.snd.snd)
set_option maxRecDepth 100000 in
theorem interval_Add.run (f_interval_made : Int → Int → (Int × Int × Int)) (f_interval_Valid : Int → Int → (Bool)) (a0_0 : Int) (a0_1 : Int) (a1_0 : Int) (a1_1 : Int) : xfn Try.prog ⟨[(70, interval_made.sp f_interval_made), (56, interval_Valid.sp f_interval_Valid)], [(72, Try.f72)]⟩ [] 40 Try.f53 [.agg ⟨[.int .i64 a0_0, .int .i64 a0_1]⟩, .agg ⟨[.int .i64 a1_0, .int .i64 a1_1]⟩] [] = interval_Add.K f_interval_made f_interval_Valid a0_0 a0_1 a1_0 a1_1 (fun r => some (.tuple ⟨[.agg ⟨[.int .i64 r.1, .int .i64 r.2.1]⟩, .int .i64 r.2.2]⟩, [])) := by kernel_rfl
def interval_Add (a0_0 : Int) (a0_1 : Int) (a1_0 : Int) (a1_1 : Int) : Int × Int × Int := interval_Add.K interval_made interval_Valid a0_0 a0_1 a1_0 a1_1 id
theorem interval_Add.nat {R : Type} (f_interval_made : Int → Int → (Int × Int × Int)) (f_interval_Valid : Int → Int → (Bool)) (a0_0 : Int) (a0_1 : Int) (a1_0 : Int) (a1_1 : Int) (k : Int × Int × Int → R) : interval_Add.K f_interval_made f_interval_Valid a0_0 a0_1 a1_0 a1_1 k = k (interval_Add.K f_interval_made f_interval_Valid a0_0 a0_1 a1_0 a1_1 id) := by
  simp only [interval_Add.K, acond k, id_eq]
theorem interval_Add.eq (a b c d : Int) : interval_Add a b c d = iadd a b c d := by
  simp only [interval_Add, interval_Add.K, id_eq, interval_Valid.eq, iadd]
  cases h1 : V a b with
  | false => simp
  | true => cases h2 : V c d with
    | false => simp
    | true =>
      have := V_iff.1 h1
      have := V_iff.1 h2
      rw [w64 (by omega) (by omega), w64 (by omega) (by omega), interval_made.eq (by omega)]
      simp
theorem interval_Add.ok : SOK Try.prog 53 (interval_Add.sp interval_Add) := by
  refine sok_of (E := ⟨[(70, interval_made.sp interval_made), (56, interval_Valid.sp interval_Valid)], [(72, Try.f72)]⟩) ⟨(specs_cons interval_made.ok (specs_cons interval_Valid.ok specs_nil)), (inl_cons ⟨Try.func72, by decide, rfl⟩ inl_nil), mixed_ok⟩ 40 Try.func53 (by decide) rfl no_loops fun vs bl v bl' h => ?_
  unfold interval_Add.sp at h
  split at h
  · rename_i a0_0 a0_1 a1_0 a1_1
    simp only [Option.some.injEq, Prod.mk.injEq, true_and] at h
    obtain ⟨rfl, rfl⟩ := h
    refine ⟨?_, by simp [okV, Nat.blt], clo_spec 8 _ (by kernel_rfl), told_blk (by kernel_rfl)⟩
    refine (interval_Add.run interval_made interval_Valid a0_0 a0_1 a1_0 a1_1).trans ?_
    refine (interval_Add.nat interval_made interval_Valid a0_0 a0_1 a1_0 a1_1 _).trans ?_
    kernel_rfl
  · cases h

/-! ### culet/interval.Div (60) -/
def interval_Div.K {R : Type} (f_interval_made : Int → Int → (Int × Int × Int)) (f_interval_Valid : Int → Int → (Bool)) (f_interval_floor : Int → Int → (Int)) (f_interval_ceil : Int → Int → (Int)) (a0_0 : Int) (a0_1 : Int) (a1_0 : Int) (a1_1 : Int) (k : Int × Int × Int → Option R) : Option R :=
  let t0 := f_interval_Valid a0_0 a0_1
  bif !t0 then
    k (0, 0, 1)
  else
    let t1 := f_interval_Valid a1_0 a1_1
    bif !t1 then
      k (0, 0, 1)
    else
      bif decide (a1_0 ≤ 0) then
        bif decide (a1_1 ≥ 0) then
          k (0, 0, 10)
        else
          bif decide (a1_1 < 0) then
            bif IntKind.i64.wrap (0 - a1_1) != 0 then
              bif IntKind.i64.wrap (0 - a1_0) != 0 then
                bif IntKind.i64.wrap (0 - a1_1) != 0 then
                  bif IntKind.i64.wrap (0 - a1_0) != 0 then
                    let t2 := f_interval_floor (IntKind.i64.wrap (IntKind.i64.wrap (0 - a0_1) * 16777216)) (IntKind.i64.wrap (0 - a1_1))
                    let t3 := f_interval_floor (IntKind.i64.wrap (IntKind.i64.wrap (0 - a0_1) * 16777216)) (IntKind.i64.wrap (0 - a1_0))
                    let t4 := f_interval_ceil (IntKind.i64.wrap (IntKind.i64.wrap (0 - a0_0) * 16777216)) (IntKind.i64.wrap (0 - a1_1))
                    let t5 := f_interval_ceil (IntKind.i64.wrap (IntKind.i64.wrap (0 - a0_0) * 16777216)) (IntKind.i64.wrap (0 - a1_0))
                    let t6 := f_interval_made (mn (mn t2 t2) t3) (mx (mx t4 t4) t5)
                    k (t6.fst, t6.snd.fst, t6.snd.snd)
                  else
                    none
                else
                  none
              else
                none
            else
              none
          else
            bif a1_0 != 0 then
              bif a1_1 != 0 then
                bif a1_0 != 0 then
                  bif a1_1 != 0 then
                    let t7 := f_interval_floor (IntKind.i64.wrap (a0_0 * 16777216)) a1_0
                    let t8 := f_interval_floor (IntKind.i64.wrap (a0_0 * 16777216)) a1_1
                    let t9 := f_interval_ceil (IntKind.i64.wrap (a0_1 * 16777216)) a1_0
                    let t10 := f_interval_ceil (IntKind.i64.wrap (a0_1 * 16777216)) a1_1
                    let t11 := f_interval_made (mn (mn t7 t7) t8) (mx (mx t9 t9) t10)
                    k (t11.fst, t11.snd.fst, t11.snd.snd)
                  else
                    none
                else
                  none
              else
                none
            else
              none
      else
        bif decide (a1_1 < 0) then
          bif IntKind.i64.wrap (0 - a1_1) != 0 then
            bif IntKind.i64.wrap (0 - a1_0) != 0 then
              bif IntKind.i64.wrap (0 - a1_1) != 0 then
                bif IntKind.i64.wrap (0 - a1_0) != 0 then
                  let t12 := f_interval_floor (IntKind.i64.wrap (IntKind.i64.wrap (0 - a0_1) * 16777216)) (IntKind.i64.wrap (0 - a1_1))
                  let t13 := f_interval_floor (IntKind.i64.wrap (IntKind.i64.wrap (0 - a0_1) * 16777216)) (IntKind.i64.wrap (0 - a1_0))
                  let t14 := f_interval_ceil (IntKind.i64.wrap (IntKind.i64.wrap (0 - a0_0) * 16777216)) (IntKind.i64.wrap (0 - a1_1))
                  let t15 := f_interval_ceil (IntKind.i64.wrap (IntKind.i64.wrap (0 - a0_0) * 16777216)) (IntKind.i64.wrap (0 - a1_0))
                  let t16 := f_interval_made (mn (mn t12 t12) t13) (mx (mx t14 t14) t15)
                  k (t16.fst, t16.snd.fst, t16.snd.snd)
                else
                  none
              else
                none
            else
              none
          else
            none
        else
          bif a1_0 != 0 then
            bif a1_1 != 0 then
              bif a1_0 != 0 then
                bif a1_1 != 0 then
                  let t17 := f_interval_floor (IntKind.i64.wrap (a0_0 * 16777216)) a1_0
                  let t18 := f_interval_floor (IntKind.i64.wrap (a0_0 * 16777216)) a1_1
                  let t19 := f_interval_ceil (IntKind.i64.wrap (a0_1 * 16777216)) a1_0
                  let t20 := f_interval_ceil (IntKind.i64.wrap (a0_1 * 16777216)) a1_1
                  let t21 := f_interval_made (mn (mn t17 t17) t18) (mx (mx t19 t19) t20)
                  k (t21.fst, t21.snd.fst, t21.snd.snd)
                else
                  none
              else
                none
            else
              none
          else
            none
set_option maxRecDepth 100000 in
theorem interval_Div.run (f_interval_made : Int → Int → (Int × Int × Int)) (f_interval_Valid : Int → Int → (Bool)) (f_interval_floor : Int → Int → (Int)) (f_interval_ceil : Int → Int → (Int)) (a0_0 : Int) (a0_1 : Int) (a1_0 : Int) (a1_1 : Int) : xfn Try.prog ⟨[(70, interval_made.sp f_interval_made), (56, interval_Valid.sp f_interval_Valid), (73, interval_extremes.sp), (74, interval_floor.sp f_interval_floor), (75, interval_ceil.sp f_interval_ceil)], [(72, Try.f72)]⟩ [] 40 Try.f60 [.agg ⟨[.int .i64 a0_0, .int .i64 a0_1]⟩, .agg ⟨[.int .i64 a1_0, .int .i64 a1_1]⟩] [] = interval_Div.K f_interval_made f_interval_Valid f_interval_floor f_interval_ceil a0_0 a0_1 a1_0 a1_1 (fun r => some (.tuple ⟨[.agg ⟨[.int .i64 r.1, .int .i64 r.2.1]⟩, .int .i64 r.2.2]⟩, [])) := by kernel_rfl
def interval_Div.o (a0_0 : Int) (a0_1 : Int) (a1_0 : Int) (a1_1 : Int) : Option (Int × Int × Int) := interval_Div.K interval_made interval_Valid interval_floor interval_ceil a0_0 a0_1 a1_0 a1_1 some
def interval_Div.pre (a0_0 : Int) (a0_1 : Int) (a1_0 : Int) (a1_1 : Int) : Bool := (interval_Div.o a0_0 a0_1 a1_0 a1_1).isSome
def interval_Div (a0_0 : Int) (a0_1 : Int) (a1_0 : Int) (a1_1 : Int) : Int × Int × Int := (interval_Div.o a0_0 a0_1 a1_0 a1_1).getD default
theorem interval_Div.nat {R : Type} (f_interval_made : Int → Int → (Int × Int × Int)) (f_interval_Valid : Int → Int → (Bool)) (f_interval_floor : Int → Int → (Int)) (f_interval_ceil : Int → Int → (Int)) (a0_0 : Int) (a0_1 : Int) (a1_0 : Int) (a1_1 : Int) (k : Int × Int × Int → Option R) : interval_Div.K f_interval_made f_interval_Valid f_interval_floor f_interval_ceil a0_0 a0_1 a1_0 a1_1 k = (interval_Div.K f_interval_made f_interval_Valid f_interval_floor f_interval_ceil a0_0 a0_1 a1_0 a1_1 some).bind k := by
  simp only [interval_Div.K, bcond, Option.bind_some, Option.bind_none]
theorem interval_Div.o_eq (a b c d : Int) : interval_Div.o a b c d = some (idiv a b c d) := by
  simp only [interval_Div.o, interval_Div.K, interval_Valid.eq, idiv]
  cases h1 : V a b with
  | false => simp
  | true => cases h2 : V c d with
    | false => simp
    | true =>
      have := V_iff.1 h1
      have := V_iff.1 h2
      have w1 : IntKind.i64.wrap (0 - a) = -a := by rw [Int.zero_sub]; exact w64 (by omega) (by omega)
      have w2 : IntKind.i64.wrap (0 - b) = -b := by rw [Int.zero_sub]; exact w64 (by omega) (by omega)
      have w3 : IntKind.i64.wrap (0 - c) = -c := by rw [Int.zero_sub]; exact w64 (by omega) (by omega)
      have w4 : IntKind.i64.wrap (0 - d) = -d := by rw [Int.zero_sub]; exact w64 (by omega) (by omega)
      have w5 : IntKind.i64.wrap (a * 16777216) = a * 16777216 := w64 (by omega) (by omega)
      have w6 : IntKind.i64.wrap (b * 16777216) = b * 16777216 := w64 (by omega) (by omega)
      have w7 : IntKind.i64.wrap (-a * 16777216) = -a * 16777216 := w64 (by omega) (by omega)
      have w8 : IntKind.i64.wrap (-b * 16777216) = -b * 16777216 := w64 (by omega) (by omega)
      simp only [w1, w2, w3, w4, w5, w6, w7, w8, mn_eq, mx_eq, Bool.not_true, cond_false, cond_true, Bool.and_self]
      have pos : ∀ x y u v : Int, -1073741824 ≤ x → x ≤ y → y ≤ 1073741824 → 0 < u → u ≤ v → v ≤ 1073741824 → interval_made (min (min (interval_floor (x * 16777216) u) (interval_floor (x * 16777216) u)) (interval_floor (x * 16777216) v)) (max (max (interval_ceil (y * 16777216) u) (interval_ceil (y * 16777216) u)) (interval_ceil (y * 16777216) v)) = pdiv x y u v := fun x y u v hx hxy hy hu huv hv => by
        have hv0 : 0 < v := by omega
        have f1 : interval_floor (x * 16777216) u = x * 16777216 / u := interval_floor.eq hu (by omega) (by omega)
        have f2 : interval_floor (x * 16777216) v = x * 16777216 / v := interval_floor.eq hv0 (by omega) (by omega)
        have f3 : interval_ceil (y * 16777216) u = cl (y * 16777216) u := interval_ceil.eq hu (by omega) (by omega)
        have f4 : interval_ceil (y * 16777216) v = cl (y * 16777216) v := interval_ceil.eq hv0 (by omega) (by omega)
        rw [f1, f2, f3, f4, Int.min_self, Int.max_self]
        have := fl_le_cl' (x := x * 16777216) (y := y * 16777216) hu (by omega)
        exact interval_made.eq (by omega)
      by_cases h3 : c ≤ 0
      · by_cases h4 : d ≥ 0
        · simp [h3, h4]
        · have h5 : d < 0 := by omega
          have n1 : ((-d) != 0) = true := by simp; omega
          have n2 : ((-c) != 0) = true := by simp; omega
          have n3 : ¬ (c ≤ 0 ∧ 0 ≤ d) := by omega
          rw [if_neg n3, if_pos h5]
          simp only [h3, h4, h5, n1, n2, decide_true, decide_false, cond_true, cond_false, pos (-b) (-a) (-d) (-c) (by omega) (by omega) (by omega) (by omega) (by omega) (by omega)]
      · have h5 : ¬ d < 0 := by omega
        have n1 : (c != 0) = true := by simp; omega
        have n2 : (d != 0) = true := by simp; omega
        have n3 : ¬ (c ≤ 0 ∧ 0 ≤ d) := by omega
        rw [if_neg n3, if_neg h5]
        simp only [h3, h5, n1, n2, decide_true, decide_false, cond_true, cond_false, pos a b c d (by omega) (by omega) (by omega) (by omega) (by omega) (by omega)]
theorem interval_Div.total (a b c d : Int) : (interval_Div.o a b c d).isSome = true := by rw [interval_Div.o_eq]; rfl
theorem interval_Div.eq (a b c d : Int) : interval_Div a b c d = idiv a b c d := by rw [interval_Div, interval_Div.o_eq]; rfl
theorem interval_Div.ok : SOK Try.prog 60 (interval_Div.sp interval_Div) := by
  refine sok_of (E := ⟨[(70, interval_made.sp interval_made), (56, interval_Valid.sp interval_Valid), (73, interval_extremes.sp), (74, interval_floor.sp interval_floor), (75, interval_ceil.sp interval_ceil)], [(72, Try.f72)]⟩) ⟨(specs_cons interval_made.ok (specs_cons interval_Valid.ok (specs_cons interval_extremes.ok (specs_cons interval_floor.ok (specs_cons interval_ceil.ok specs_nil))))), (inl_cons ⟨Try.func72, by decide, rfl⟩ inl_nil), mixed_ok⟩ 40 Try.func60 (by decide) rfl no_loops fun vs bl v bl' h => ?_
  unfold interval_Div.sp at h
  split at h
  · rename_i a0_0 a0_1 a1_0 a1_1
    simp only [Option.some.injEq, Prod.mk.injEq] at h
    obtain ⟨hp, rfl, rfl⟩ := h
    have hr := interval_Div.run interval_made interval_Valid interval_floor interval_ceil a0_0 a0_1 a1_0 a1_1
    rw [interval_Div.nat] at hr
    obtain ⟨r, h2⟩ := Option.isSome_iff_exists.1 (interval_Div.total a0_0 a0_1 a1_0 a1_1 : (interval_Div.o a0_0 a0_1 a1_0 a1_1).isSome = true)
    have h3 : interval_Div a0_0 a0_1 a1_0 a1_1 = r := by unfold interval_Div; rw [h2]; rfl
    have h4 : interval_Div.K interval_made interval_Valid interval_floor interval_ceil a0_0 a0_1 a1_0 a1_1 some = some r := h2
    rw [h4, Option.bind_some] at hr
    rw [h3]
    exact ⟨hr, by simp [okV, Nat.blt], clo_spec 8 _ (by kernel_rfl), told_blk (by kernel_rfl)⟩
  · cases h

/-! ### (*culet/refraction.calc).two@culet/interval.Add (39) -/
def refraction_calc_two_interval_Add.K {R : Type} (f_interval_Sub : Int → Int → Int → Int → (Int × Int × Int)) (f_interval_Mul : Int → Int → Int → Int → (Int × Int × Int)) (f_interval_Add : Int → Int → Int → Int → (Int × Int × Int)) (f_interval_Div : Int → Int → Int → Int → (Int × Int × Int)) (s0_0 : Int) (a2_0 : Int) (a2_1 : Int) (a3_0 : Int) (a3_1 : Int) (k : Int × Int × Int → R) : R :=
  bif s0_0 != 0 then
    k (a2_0, a2_1, s0_0)
  else
    let t0 := f_interval_Add a2_0 a2_1 a3_0 a3_1
    k (t0.fst, t0.snd.fst, t0.snd.snd)
set_option maxRecDepth 100000 in
theorem refraction_calc_two_interval_Add.run (f_interval_Sub : Int → Int → Int → Int → (Int × Int × Int)) (f_interval_Mul : Int → Int → Int → Int → (Int × Int × Int)) (f_interval_Add : Int → Int → Int → Int → (Int × Int × Int)) (f_interval_Div : Int → Int → Int → Int → (Int × Int × Int)) (s0_0 : Int) (a2_0 : Int) (a2_1 : Int) (a3_0 : Int) (a3_1 : Int) : xfn Try.prog ⟨[(40, interval_Sub.sp f_interval_Sub), (41, interval_Mul.sp f_interval_Mul), (53, interval_Add.sp f_interval_Add), (60, interval_Div.sp f_interval_Div)], []⟩ [] 40 Try.f39 [.pointer (some ⟨0, 0, none⟩), .func (.func 53) ⟨[]⟩ ⟨[]⟩, .agg ⟨[.int .i64 a2_0, .int .i64 a2_1]⟩, .agg ⟨[.int .i64 a3_0, .int .i64 a3_1]⟩] [.cs [.int .i64 s0_0] 63] = refraction_calc_two_interval_Add.K f_interval_Sub f_interval_Mul f_interval_Add f_interval_Div s0_0 a2_0 a2_1 a3_0 a3_1 (fun r => some (.agg ⟨[.int .i64 r.1, .int .i64 r.2.1]⟩, [.cs [.int .i64 r.2.2] 63])) := by kernel_rfl
def refraction_calc_two_interval_Add (s0_0 : Int) (a2_0 : Int) (a2_1 : Int) (a3_0 : Int) (a3_1 : Int) : Int × Int × Int := refraction_calc_two_interval_Add.K interval_Sub interval_Mul interval_Add interval_Div s0_0 a2_0 a2_1 a3_0 a3_1 id
theorem refraction_calc_two_interval_Add.nat {R : Type} (f_interval_Sub : Int → Int → Int → Int → (Int × Int × Int)) (f_interval_Mul : Int → Int → Int → Int → (Int × Int × Int)) (f_interval_Add : Int → Int → Int → Int → (Int × Int × Int)) (f_interval_Div : Int → Int → Int → Int → (Int × Int × Int)) (s0_0 : Int) (a2_0 : Int) (a2_1 : Int) (a3_0 : Int) (a3_1 : Int) (k : Int × Int × Int → R) : refraction_calc_two_interval_Add.K f_interval_Sub f_interval_Mul f_interval_Add f_interval_Div s0_0 a2_0 a2_1 a3_0 a3_1 k = k (refraction_calc_two_interval_Add.K f_interval_Sub f_interval_Mul f_interval_Add f_interval_Div s0_0 a2_0 a2_1 a3_0 a3_1 id) := by
  simp only [refraction_calc_two_interval_Add.K, acond k, id_eq]
theorem refraction_calc_two_interval_Add.eq (s a b c d : Int) : refraction_calc_two_interval_Add s a b c d = st s a b (iadd a b c d) := by
  simp only [refraction_calc_two_interval_Add, refraction_calc_two_interval_Add.K, id_eq, interval_Add.eq, st]

/-! ### (*culet/refraction.calc).two@culet/interval.Sub (39) -/
def refraction_calc_two_interval_Sub.K {R : Type} (f_interval_Sub : Int → Int → Int → Int → (Int × Int × Int)) (f_interval_Mul : Int → Int → Int → Int → (Int × Int × Int)) (f_interval_Add : Int → Int → Int → Int → (Int × Int × Int)) (f_interval_Div : Int → Int → Int → Int → (Int × Int × Int)) (s0_0 : Int) (a2_0 : Int) (a2_1 : Int) (a3_0 : Int) (a3_1 : Int) (k : Int × Int × Int → R) : R :=
  bif s0_0 != 0 then
    k (a2_0, a2_1, s0_0)
  else
    let t0 := f_interval_Sub a2_0 a2_1 a3_0 a3_1
    k (t0.fst, t0.snd.fst, t0.snd.snd)
set_option maxRecDepth 100000 in
theorem refraction_calc_two_interval_Sub.run (f_interval_Sub : Int → Int → Int → Int → (Int × Int × Int)) (f_interval_Mul : Int → Int → Int → Int → (Int × Int × Int)) (f_interval_Add : Int → Int → Int → Int → (Int × Int × Int)) (f_interval_Div : Int → Int → Int → Int → (Int × Int × Int)) (s0_0 : Int) (a2_0 : Int) (a2_1 : Int) (a3_0 : Int) (a3_1 : Int) : xfn Try.prog ⟨[(40, interval_Sub.sp f_interval_Sub), (41, interval_Mul.sp f_interval_Mul), (53, interval_Add.sp f_interval_Add), (60, interval_Div.sp f_interval_Div)], []⟩ [] 40 Try.f39 [.pointer (some ⟨0, 0, none⟩), .func (.func 40) ⟨[]⟩ ⟨[]⟩, .agg ⟨[.int .i64 a2_0, .int .i64 a2_1]⟩, .agg ⟨[.int .i64 a3_0, .int .i64 a3_1]⟩] [.cs [.int .i64 s0_0] 63] = refraction_calc_two_interval_Sub.K f_interval_Sub f_interval_Mul f_interval_Add f_interval_Div s0_0 a2_0 a2_1 a3_0 a3_1 (fun r => some (.agg ⟨[.int .i64 r.1, .int .i64 r.2.1]⟩, [.cs [.int .i64 r.2.2] 63])) := by kernel_rfl
def refraction_calc_two_interval_Sub (s0_0 : Int) (a2_0 : Int) (a2_1 : Int) (a3_0 : Int) (a3_1 : Int) : Int × Int × Int := refraction_calc_two_interval_Sub.K interval_Sub interval_Mul interval_Add interval_Div s0_0 a2_0 a2_1 a3_0 a3_1 id
theorem refraction_calc_two_interval_Sub.nat {R : Type} (f_interval_Sub : Int → Int → Int → Int → (Int × Int × Int)) (f_interval_Mul : Int → Int → Int → Int → (Int × Int × Int)) (f_interval_Add : Int → Int → Int → Int → (Int × Int × Int)) (f_interval_Div : Int → Int → Int → Int → (Int × Int × Int)) (s0_0 : Int) (a2_0 : Int) (a2_1 : Int) (a3_0 : Int) (a3_1 : Int) (k : Int × Int × Int → R) : refraction_calc_two_interval_Sub.K f_interval_Sub f_interval_Mul f_interval_Add f_interval_Div s0_0 a2_0 a2_1 a3_0 a3_1 k = k (refraction_calc_two_interval_Sub.K f_interval_Sub f_interval_Mul f_interval_Add f_interval_Div s0_0 a2_0 a2_1 a3_0 a3_1 id) := by
  simp only [refraction_calc_two_interval_Sub.K, acond k, id_eq]
theorem refraction_calc_two_interval_Sub.eq (s a b c d : Int) : refraction_calc_two_interval_Sub s a b c d = st s a b (isub a b c d) := by
  simp only [refraction_calc_two_interval_Sub, refraction_calc_two_interval_Sub.K, id_eq, interval_Sub.eq, st]

/-! ### (*culet/refraction.calc).two@culet/interval.Mul (39) -/
def refraction_calc_two_interval_Mul.K {R : Type} (f_interval_Sub : Int → Int → Int → Int → (Int × Int × Int)) (f_interval_Mul : Int → Int → Int → Int → (Int × Int × Int)) (f_interval_Add : Int → Int → Int → Int → (Int × Int × Int)) (f_interval_Div : Int → Int → Int → Int → (Int × Int × Int)) (s0_0 : Int) (a2_0 : Int) (a2_1 : Int) (a3_0 : Int) (a3_1 : Int) (k : Int × Int × Int → R) : R :=
  bif s0_0 != 0 then
    k (a2_0, a2_1, s0_0)
  else
    let t0 := f_interval_Mul a2_0 a2_1 a3_0 a3_1
    k (t0.fst, t0.snd.fst, t0.snd.snd)
set_option maxRecDepth 100000 in
theorem refraction_calc_two_interval_Mul.run (f_interval_Sub : Int → Int → Int → Int → (Int × Int × Int)) (f_interval_Mul : Int → Int → Int → Int → (Int × Int × Int)) (f_interval_Add : Int → Int → Int → Int → (Int × Int × Int)) (f_interval_Div : Int → Int → Int → Int → (Int × Int × Int)) (s0_0 : Int) (a2_0 : Int) (a2_1 : Int) (a3_0 : Int) (a3_1 : Int) : xfn Try.prog ⟨[(40, interval_Sub.sp f_interval_Sub), (41, interval_Mul.sp f_interval_Mul), (53, interval_Add.sp f_interval_Add), (60, interval_Div.sp f_interval_Div)], []⟩ [] 40 Try.f39 [.pointer (some ⟨0, 0, none⟩), .func (.func 41) ⟨[]⟩ ⟨[]⟩, .agg ⟨[.int .i64 a2_0, .int .i64 a2_1]⟩, .agg ⟨[.int .i64 a3_0, .int .i64 a3_1]⟩] [.cs [.int .i64 s0_0] 63] = refraction_calc_two_interval_Mul.K f_interval_Sub f_interval_Mul f_interval_Add f_interval_Div s0_0 a2_0 a2_1 a3_0 a3_1 (fun r => some (.agg ⟨[.int .i64 r.1, .int .i64 r.2.1]⟩, [.cs [.int .i64 r.2.2] 63])) := by kernel_rfl
def refraction_calc_two_interval_Mul (s0_0 : Int) (a2_0 : Int) (a2_1 : Int) (a3_0 : Int) (a3_1 : Int) : Int × Int × Int := refraction_calc_two_interval_Mul.K interval_Sub interval_Mul interval_Add interval_Div s0_0 a2_0 a2_1 a3_0 a3_1 id
theorem refraction_calc_two_interval_Mul.nat {R : Type} (f_interval_Sub : Int → Int → Int → Int → (Int × Int × Int)) (f_interval_Mul : Int → Int → Int → Int → (Int × Int × Int)) (f_interval_Add : Int → Int → Int → Int → (Int × Int × Int)) (f_interval_Div : Int → Int → Int → Int → (Int × Int × Int)) (s0_0 : Int) (a2_0 : Int) (a2_1 : Int) (a3_0 : Int) (a3_1 : Int) (k : Int × Int × Int → R) : refraction_calc_two_interval_Mul.K f_interval_Sub f_interval_Mul f_interval_Add f_interval_Div s0_0 a2_0 a2_1 a3_0 a3_1 k = k (refraction_calc_two_interval_Mul.K f_interval_Sub f_interval_Mul f_interval_Add f_interval_Div s0_0 a2_0 a2_1 a3_0 a3_1 id) := by
  simp only [refraction_calc_two_interval_Mul.K, acond k, id_eq]
theorem refraction_calc_two_interval_Mul.eq (s a b c d : Int) : refraction_calc_two_interval_Mul s a b c d = st s a b (imul a b c d) := by
  simp only [refraction_calc_two_interval_Mul, refraction_calc_two_interval_Mul.K, id_eq, interval_Mul.eq, st]

/-! ### (*culet/refraction.calc).two@culet/interval.Div (39) -/
def refraction_calc_two_interval_Div.K {R : Type} (f_interval_Sub : Int → Int → Int → Int → (Int × Int × Int)) (f_interval_Mul : Int → Int → Int → Int → (Int × Int × Int)) (f_interval_Add : Int → Int → Int → Int → (Int × Int × Int)) (f_interval_Div : Int → Int → Int → Int → (Int × Int × Int)) (s0_0 : Int) (a2_0 : Int) (a2_1 : Int) (a3_0 : Int) (a3_1 : Int) (k : Int × Int × Int → R) : R :=
  bif s0_0 != 0 then
    k (a2_0, a2_1, s0_0)
  else
    let t0 := f_interval_Div a2_0 a2_1 a3_0 a3_1
    k (t0.fst, t0.snd.fst, t0.snd.snd)
set_option maxRecDepth 100000 in
theorem refraction_calc_two_interval_Div.run (f_interval_Sub : Int → Int → Int → Int → (Int × Int × Int)) (f_interval_Mul : Int → Int → Int → Int → (Int × Int × Int)) (f_interval_Add : Int → Int → Int → Int → (Int × Int × Int)) (f_interval_Div : Int → Int → Int → Int → (Int × Int × Int)) (s0_0 : Int) (a2_0 : Int) (a2_1 : Int) (a3_0 : Int) (a3_1 : Int) : xfn Try.prog ⟨[(40, interval_Sub.sp f_interval_Sub), (41, interval_Mul.sp f_interval_Mul), (53, interval_Add.sp f_interval_Add), (60, interval_Div.sp f_interval_Div)], []⟩ [] 40 Try.f39 [.pointer (some ⟨0, 0, none⟩), .func (.func 60) ⟨[]⟩ ⟨[]⟩, .agg ⟨[.int .i64 a2_0, .int .i64 a2_1]⟩, .agg ⟨[.int .i64 a3_0, .int .i64 a3_1]⟩] [.cs [.int .i64 s0_0] 63] = refraction_calc_two_interval_Div.K f_interval_Sub f_interval_Mul f_interval_Add f_interval_Div s0_0 a2_0 a2_1 a3_0 a3_1 (fun r => some (.agg ⟨[.int .i64 r.1, .int .i64 r.2.1]⟩, [.cs [.int .i64 r.2.2] 63])) := by kernel_rfl
def refraction_calc_two_interval_Div (s0_0 : Int) (a2_0 : Int) (a2_1 : Int) (a3_0 : Int) (a3_1 : Int) : Int × Int × Int := refraction_calc_two_interval_Div.K interval_Sub interval_Mul interval_Add interval_Div s0_0 a2_0 a2_1 a3_0 a3_1 id
theorem refraction_calc_two_interval_Div.nat {R : Type} (f_interval_Sub : Int → Int → Int → Int → (Int × Int × Int)) (f_interval_Mul : Int → Int → Int → Int → (Int × Int × Int)) (f_interval_Add : Int → Int → Int → Int → (Int × Int × Int)) (f_interval_Div : Int → Int → Int → Int → (Int × Int × Int)) (s0_0 : Int) (a2_0 : Int) (a2_1 : Int) (a3_0 : Int) (a3_1 : Int) (k : Int × Int × Int → R) : refraction_calc_two_interval_Div.K f_interval_Sub f_interval_Mul f_interval_Add f_interval_Div s0_0 a2_0 a2_1 a3_0 a3_1 k = k (refraction_calc_two_interval_Div.K f_interval_Sub f_interval_Mul f_interval_Add f_interval_Div s0_0 a2_0 a2_1 a3_0 a3_1 id) := by
  simp only [refraction_calc_two_interval_Div.K, acond k, id_eq]
theorem refraction_calc_two_interval_Div.eq (s a b c d : Int) : refraction_calc_two_interval_Div s a b c d = st s a b (idiv a b c d) := by
  simp only [refraction_calc_two_interval_Div, refraction_calc_two_interval_Div.K, id_eq, interval_Div.eq, st]
theorem refraction_calc_two.ok : SOK Try.prog 39 (refraction_calc_two.sp refraction_calc_two_interval_Add refraction_calc_two_interval_Sub refraction_calc_two_interval_Mul refraction_calc_two_interval_Div) := by
  refine sok_of (E := ⟨[(40, interval_Sub.sp interval_Sub), (41, interval_Mul.sp interval_Mul), (53, interval_Add.sp interval_Add), (60, interval_Div.sp interval_Div)], []⟩) ⟨(specs_cons interval_Sub.ok (specs_cons interval_Mul.ok (specs_cons interval_Add.ok (specs_cons interval_Div.ok specs_nil)))), inl_nil, mixed_ok⟩ 40 Try.func39 (by decide) rfl no_loops fun vs bl v bl' h => ?_
  unfold refraction_calc_two.sp at h
  split at h
  · rename_i a2_0 a2_1 a3_0 a3_1 s0_0
    simp only [Option.some.injEq, Prod.mk.injEq, true_and] at h
    obtain ⟨rfl, rfl⟩ := h
    refine ⟨?_, by simp [okV, Nat.blt], clo_spec 8 _ (by kernel_rfl), told_blk (by kernel_rfl)⟩
    refine (refraction_calc_two_interval_Add.run interval_Sub interval_Mul interval_Add interval_Div s0_0 a2_0 a2_1 a3_0 a3_1).trans ?_
    refine (refraction_calc_two_interval_Add.nat interval_Sub interval_Mul interval_Add interval_Div s0_0 a2_0 a2_1 a3_0 a3_1 _).trans ?_
    kernel_rfl
  · rename_i a2_0 a2_1 a3_0 a3_1 s0_0
    simp only [Option.some.injEq, Prod.mk.injEq, true_and] at h
    obtain ⟨rfl, rfl⟩ := h
    refine ⟨?_, by simp [okV, Nat.blt], clo_spec 8 _ (by kernel_rfl), told_blk (by kernel_rfl)⟩
    refine (refraction_calc_two_interval_Sub.run interval_Sub interval_Mul interval_Add interval_Div s0_0 a2_0 a2_1 a3_0 a3_1).trans ?_
    refine (refraction_calc_two_interval_Sub.nat interval_Sub interval_Mul interval_Add interval_Div s0_0 a2_0 a2_1 a3_0 a3_1 _).trans ?_
    kernel_rfl
  · rename_i a2_0 a2_1 a3_0 a3_1 s0_0
    simp only [Option.some.injEq, Prod.mk.injEq, true_and] at h
    obtain ⟨rfl, rfl⟩ := h
    refine ⟨?_, by simp [okV, Nat.blt], clo_spec 8 _ (by kernel_rfl), told_blk (by kernel_rfl)⟩
    refine (refraction_calc_two_interval_Mul.run interval_Sub interval_Mul interval_Add interval_Div s0_0 a2_0 a2_1 a3_0 a3_1).trans ?_
    refine (refraction_calc_two_interval_Mul.nat interval_Sub interval_Mul interval_Add interval_Div s0_0 a2_0 a2_1 a3_0 a3_1 _).trans ?_
    kernel_rfl
  · rename_i a2_0 a2_1 a3_0 a3_1 s0_0
    simp only [Option.some.injEq, Prod.mk.injEq, true_and] at h
    obtain ⟨rfl, rfl⟩ := h
    refine ⟨?_, by simp [okV, Nat.blt], clo_spec 8 _ (by kernel_rfl), told_blk (by kernel_rfl)⟩
    refine (refraction_calc_two_interval_Div.run interval_Sub interval_Mul interval_Add interval_Div s0_0 a2_0 a2_1 a3_0 a3_1).trans ?_
    refine (refraction_calc_two_interval_Div.nat interval_Sub interval_Mul interval_Add interval_Div s0_0 a2_0 a2_1 a3_0 a3_1 _).trans ?_
    kernel_rfl
  · cases h

/-! ### culet/refraction.unit (58) -/
def refraction_unit.K {R : Type} (k : Int × Int → R) : R :=
  k (16777216, 16777216)
set_option maxRecDepth 100000 in
theorem refraction_unit.run : xfn Try.prog ⟨[], []⟩ [] 40 Try.f58 [] [] = refraction_unit.K (fun r => some (.agg ⟨[.int .i64 r.1, .int .i64 r.2]⟩, [])) := by kernel_rfl
def refraction_unit : Int × Int := refraction_unit.K id
theorem refraction_unit.nat {R : Type} (k : Int × Int → R) : refraction_unit.K k = k (refraction_unit.K id) := by
  simp only [refraction_unit.K, acond k, id_eq]
theorem refraction_unit.eq : refraction_unit = (16777216, 16777216) := rfl
theorem refraction_unit.ok : SOK Try.prog 58 (refraction_unit.sp refraction_unit) := by
  refine sok_of (E := ⟨[], []⟩) ⟨specs_nil, inl_nil, mixed_ok⟩ 40 Try.func58 (by decide) rfl no_loops fun vs bl v bl' h => ?_
  unfold refraction_unit.sp at h
  split at h
  · simp only [Option.some.injEq, Prod.mk.injEq, true_and] at h
    obtain ⟨rfl, rfl⟩ := h
    refine ⟨?_, by simp [okV, Nat.blt], clo_spec 8 _ (by kernel_rfl), told_blk (by kernel_rfl)⟩
    refine (refraction_unit.run).trans ?_
    refine (refraction_unit.nat _).trans ?_
    kernel_rfl
  · cases h

/-! ### culet/refraction.Radicand (18) -/
def refraction_Radicand.K {R : Type} (f_refraction_calc_one_interval_Square : Int → Int → Int → (Int × Int × Int)) (f_refraction_calc_one_interval_Sqrt : Int → Int → Int → (Int × Int × Int)) (f_refraction_calc_one_interval_Neg : Int → Int → Int → (Int × Int × Int)) (f_refraction_calc_two_interval_Add : Int → Int → Int → Int → Int → (Int × Int × Int)) (f_refraction_calc_two_interval_Sub : Int → Int → Int → Int → Int → (Int × Int × Int)) (f_refraction_calc_two_interval_Mul : Int → Int → Int → Int → Int → (Int × Int × Int)) (f_refraction_calc_two_interval_Div : Int → Int → Int → Int → Int → (Int × Int × Int)) (f_interval_Sub : Int → Int → Int → Int → (Int × Int × Int)) (f_interval_Mul : Int → Int → Int → Int → (Int × Int × Int)) (f_interval_Valid : Int → Int → (Bool)) (f_interval_Square : Int → Int → (Int × Int × Int)) (f_refraction_unit : (Int × Int)) (a0_0 : Int) (a0_1 : Int) (a1_0 : Int) (a1_1 : Int) (k : Int × Int × Int → R) : R :=
  let t0 := f_interval_Valid a0_0 a0_1
  bif !t0 then
    k (0, 0, 1)
  else
    let t1 := f_interval_Valid a1_0 a1_1
    bif !t1 then
      k (0, 0, 1)
    else
      let t2 := f_refraction_calc_one_interval_Square 0 a1_0 a1_1
      let t3 := f_refraction_calc_one_interval_Square t2.snd.snd a0_0 a0_1
      let t4 := f_refraction_calc_two_interval_Sub t3.snd.snd f_refraction_unit.fst f_refraction_unit.snd t3.fst t3.snd.fst
      let t5 := f_refraction_calc_two_interval_Mul t4.snd.snd t2.fst t2.snd.fst t4.fst t4.snd.fst
      let t6 := f_refraction_calc_two_interval_Sub t5.snd.snd f_refraction_unit.fst f_refraction_unit.snd t5.fst t5.snd.fst
      bif t6.snd.snd != 0 then
        k (0, 0, t6.snd.snd)
      else
        k (t6.fst, t6.snd.fst, 0)
set_option maxRecDepth 100000 in
theorem refraction_Radicand.run (f_refraction_calc_one_interval_Square : Int → Int → Int → (Int × Int × Int)) (f_refraction_calc_one_interval_Sqrt : Int → Int → Int → (Int × Int × Int)) (f_refraction_calc_one_interval_Neg : Int → Int → Int → (Int × Int × Int)) (f_refraction_calc_two_interval_Add : Int → Int → Int → Int → Int → (Int × Int × Int)) (f_refraction_calc_two_interval_Sub : Int → Int → Int → Int → Int → (Int × Int × Int)) (f_refraction_calc_two_interval_Mul : Int → Int → Int → Int → Int → (Int × Int × Int)) (f_refraction_calc_two_interval_Div : Int → Int → Int → Int → Int → (Int × Int × Int)) (f_interval_Sub : Int → Int → Int → Int → (Int × Int × Int)) (f_interval_Mul : Int → Int → Int → Int → (Int × Int × Int)) (f_interval_Valid : Int → Int → (Bool)) (f_interval_Square : Int → Int → (Int × Int × Int)) (f_refraction_unit : (Int × Int)) (a0_0 : Int) (a0_1 : Int) (a1_0 : Int) (a1_1 : Int) : xfn Try.prog ⟨[(35, refraction_calc_one.sp f_refraction_calc_one_interval_Square f_refraction_calc_one_interval_Sqrt f_refraction_calc_one_interval_Neg), (39, refraction_calc_two.sp f_refraction_calc_two_interval_Add f_refraction_calc_two_interval_Sub f_refraction_calc_two_interval_Mul f_refraction_calc_two_interval_Div), (40, interval_Sub.sp f_interval_Sub), (41, interval_Mul.sp f_interval_Mul), (56, interval_Valid.sp f_interval_Valid), (57, interval_Square.sp f_interval_Square), (58, refraction_unit.sp f_refraction_unit)], []⟩ [] 40 Try.f18 [.agg ⟨[.int .i64 a0_0, .int .i64 a0_1]⟩, .agg ⟨[.int .i64 a1_0, .int .i64 a1_1]⟩] [] = refraction_Radicand.K f_refraction_calc_one_interval_Square f_refraction_calc_one_interval_Sqrt f_refraction_calc_one_interval_Neg f_refraction_calc_two_interval_Add f_refraction_calc_two_interval_Sub f_refraction_calc_two_interval_Mul f_refraction_calc_two_interval_Div f_interval_Sub f_interval_Mul f_interval_Valid f_interval_Square f_refraction_unit a0_0 a0_1 a1_0 a1_1 (fun r => some (.tuple ⟨[.agg ⟨[.int .i64 r.1, .int .i64 r.2.1]⟩, .int .i64 r.2.2]⟩, [])) := by kernel_rfl
def refraction_Radicand (a0_0 : Int) (a0_1 : Int) (a1_0 : Int) (a1_1 : Int) : Int × Int × Int := refraction_Radicand.K refraction_calc_one_interval_Square refraction_calc_one_interval_Sqrt refraction_calc_one_interval_Neg refraction_calc_two_interval_Add refraction_calc_two_interval_Sub refraction_calc_two_interval_Mul refraction_calc_two_interval_Div interval_Sub interval_Mul interval_Valid interval_Square refraction_unit a0_0 a0_1 a1_0 a1_1 id
theorem refraction_Radicand.nat {R : Type} (f_refraction_calc_one_interval_Square : Int → Int → Int → (Int × Int × Int)) (f_refraction_calc_one_interval_Sqrt : Int → Int → Int → (Int × Int × Int)) (f_refraction_calc_one_interval_Neg : Int → Int → Int → (Int × Int × Int)) (f_refraction_calc_two_interval_Add : Int → Int → Int → Int → Int → (Int × Int × Int)) (f_refraction_calc_two_interval_Sub : Int → Int → Int → Int → Int → (Int × Int × Int)) (f_refraction_calc_two_interval_Mul : Int → Int → Int → Int → Int → (Int × Int × Int)) (f_refraction_calc_two_interval_Div : Int → Int → Int → Int → Int → (Int × Int × Int)) (f_interval_Sub : Int → Int → Int → Int → (Int × Int × Int)) (f_interval_Mul : Int → Int → Int → Int → (Int × Int × Int)) (f_interval_Valid : Int → Int → (Bool)) (f_interval_Square : Int → Int → (Int × Int × Int)) (f_refraction_unit : (Int × Int)) (a0_0 : Int) (a0_1 : Int) (a1_0 : Int) (a1_1 : Int) (k : Int × Int × Int → R) : refraction_Radicand.K f_refraction_calc_one_interval_Square f_refraction_calc_one_interval_Sqrt f_refraction_calc_one_interval_Neg f_refraction_calc_two_interval_Add f_refraction_calc_two_interval_Sub f_refraction_calc_two_interval_Mul f_refraction_calc_two_interval_Div f_interval_Sub f_interval_Mul f_interval_Valid f_interval_Square f_refraction_unit a0_0 a0_1 a1_0 a1_1 k = k (refraction_Radicand.K f_refraction_calc_one_interval_Square f_refraction_calc_one_interval_Sqrt f_refraction_calc_one_interval_Neg f_refraction_calc_two_interval_Add f_refraction_calc_two_interval_Sub f_refraction_calc_two_interval_Mul f_refraction_calc_two_interval_Div f_interval_Sub f_interval_Mul f_interval_Valid f_interval_Square f_refraction_unit a0_0 a0_1 a1_0 a1_1 id) := by
  simp only [refraction_Radicand.K, acond k, id_eq]
theorem refraction_Radicand.eq (a b c d : Int) : refraction_Radicand a b c d = o3 (rdc (a, b) (c, d)) := by
  simp only [refraction_Radicand, refraction_Radicand.K, id_eq, interval_Valid.eq, refraction_unit.eq, refraction_calc_one_interval_Square.eq, refraction_calc_two_interval_Sub.eq, refraction_calc_two_interval_Mul.eq, rdc, V2, sqR, subR, mulR, one2]
  cases hV0 : V a b with
  | false =>
    simp only [hV0, st0, kr0, st70, t3_ok, bind_ok, bind_er, o7, o3, o2, o11, V2_mk, kp0, cond_true, cond_false, Bool.not_true, Bool.not_false, Bool.false_and, Bool.and_false, Bool.true_and, Bool.and_true, bne_self_eq_false, beq_self_eq_true, if_true, if_false]
  | true =>
    cases hV1 : V c d with
    | false =>
      simp only [hV0, hV1, st0, kr0, st70, t3_ok, bind_ok, bind_er, o7, o3, o2, o11, V2_mk, kp0, cond_true, cond_false, Bool.not_true, Bool.not_false, Bool.false_and, Bool.and_false, Bool.true_and, Bool.and_true, bne_self_eq_false, beq_self_eq_true, if_true, if_false]
    | true =>
      rcases t3c (isq c d) with ⟨q0, q1, h0⟩ | ⟨q0, q1, e0, n0, h0⟩
      · simp only [hV0, hV1, h0, st0, kr0, st70, t3_ok, bind_ok, bind_er, o7, o3, o2, o11, V2_mk, kp0, cond_true, cond_false, Bool.not_true, Bool.not_false, Bool.false_and, Bool.and_false, Bool.true_and, Bool.and_true, bne_self_eq_false, beq_self_eq_true, if_true, if_false]
        rcases t3c (isq a b) with ⟨s0, s1, h1⟩ | ⟨s0, s1, e1, n1, h1⟩
        · simp only [h1, st0, kr0, st70, t3_ok, bind_ok, bind_er, o7, o3, o2, o11, V2_mk, kp0, cond_true, cond_false, Bool.not_true, Bool.not_false, Bool.false_and, Bool.and_false, Bool.true_and, Bool.and_true, bne_self_eq_false, beq_self_eq_true, if_true, if_false]
          rcases t3c (isub 16777216 16777216 s0 s1) with ⟨t0, t1, h2⟩ | ⟨t0, t1, e2, n2, h2⟩
          · simp only [h2, st0, kr0, st70, t3_ok, bind_ok, bind_er, o7, o3, o2, o11, V2_mk, kp0, cond_true, cond_false, Bool.not_true, Bool.not_false, Bool.false_and, Bool.and_false, Bool.true_and, Bool.and_true, bne_self_eq_false, beq_self_eq_true, if_true, if_false]
            rcases t3c (imul q0 q1 t0 t1) with ⟨p0, p1, h3⟩ | ⟨p0, p1, e3, n3, h3⟩
            · simp only [h3, st0, kr0, st70, t3_ok, bind_ok, bind_er, o7, o3, o2, o11, V2_mk, kp0, cond_true, cond_false, Bool.not_true, Bool.not_false, Bool.false_and, Bool.and_false, Bool.true_and, Bool.and_true, bne_self_eq_false, beq_self_eq_true, if_true, if_false]
              rcases t3c (isub 16777216 16777216 p0 p1) with ⟨u0, u1, h4⟩ | ⟨u0, u1, e4, n4, h4⟩
              · simp only [h4, st0, kr0, st70, t3_ok, bind_ok, bind_er, o7, o3, o2, o11, V2_mk, kp0, cond_true, cond_false, Bool.not_true, Bool.not_false, Bool.false_and, Bool.and_false, Bool.true_and, Bool.and_true, bne_self_eq_false, beq_self_eq_true, if_true, if_false]
              · simp only [h4, stE n4, krE n4, st7E n4, t3_er n4, bne_of n4, beq_of n4, kpn _ n4, st0, kr0, st70, t3_ok, bind_ok, bind_er, o7, o3, o2, o11, V2_mk, kp0, cond_true, cond_false, Bool.not_true, Bool.not_false, Bool.false_and, Bool.and_false, Bool.true_and, Bool.and_true, bne_self_eq_false, beq_self_eq_true, if_true, if_false]
            · simp only [h3, stE n3, krE n3, st7E n3, t3_er n3, bne_of n3, beq_of n3, kpn _ n3, st0, kr0, st70, t3_ok, bind_ok, bind_er, o7, o3, o2, o11, V2_mk, kp0, cond_true, cond_false, Bool.not_true, Bool.not_false, Bool.false_and, Bool.and_false, Bool.true_and, Bool.and_true, bne_self_eq_false, beq_self_eq_true, if_true, if_false]
          · simp only [h2, stE n2, krE n2, st7E n2, t3_er n2, bne_of n2, beq_of n2, kpn _ n2, st0, kr0, st70, t3_ok, bind_ok, bind_er, o7, o3, o2, o11, V2_mk, kp0, cond_true, cond_false, Bool.not_true, Bool.not_false, Bool.false_and, Bool.and_false, Bool.true_and, Bool.and_true, bne_self_eq_false, beq_self_eq_true, if_true, if_false]
        · simp only [h1, stE n1, krE n1, st7E n1, t3_er n1, bne_of n1, beq_of n1, kpn _ n1, st0, kr0, st70, t3_ok, bind_ok, bind_er, o7, o3, o2, o11, V2_mk, kp0, cond_true, cond_false, Bool.not_true, Bool.not_false, Bool.false_and, Bool.and_false, Bool.true_and, Bool.and_true, bne_self_eq_false, beq_self_eq_true, if_true, if_false]
      · simp only [hV0, hV1, h0, stE n0, krE n0, st7E n0, t3_er n0, bne_of n0, beq_of n0, kpn _ n0, st0, kr0, st70, t3_ok, bind_ok, bind_er, o7, o3, o2, o11, V2_mk, kp0, cond_true, cond_false, Bool.not_true, Bool.not_false, Bool.false_and, Bool.and_false, Bool.true_and, Bool.and_true, bne_self_eq_false, beq_self_eq_true, if_true, if_false]
theorem refraction_Radicand.ok : SOK Try.prog 18 (refraction_Radicand.sp refraction_Radicand) := by
  refine sok_of (E := ⟨[(35, refraction_calc_one.sp refraction_calc_one_interval_Square refraction_calc_one_interval_Sqrt refraction_calc_one_interval_Neg), (39, refraction_calc_two.sp refraction_calc_two_interval_Add refraction_calc_two_interval_Sub refraction_calc_two_interval_Mul refraction_calc_two_interval_Div), (40, interval_Sub.sp interval_Sub), (41, interval_Mul.sp interval_Mul), (56, interval_Valid.sp interval_Valid), (57, interval_Square.sp interval_Square), (58, refraction_unit.sp refraction_unit)], []⟩) ⟨(specs_cons refraction_calc_one.ok (specs_cons refraction_calc_two.ok (specs_cons interval_Sub.ok (specs_cons interval_Mul.ok (specs_cons interval_Valid.ok (specs_cons interval_Square.ok (specs_cons refraction_unit.ok specs_nil))))))), inl_nil, mixed_ok⟩ 40 Try.func18 (by decide) rfl no_loops fun vs bl v bl' h => ?_
  unfold refraction_Radicand.sp at h
  split at h
  · rename_i a0_0 a0_1 a1_0 a1_1
    simp only [Option.some.injEq, Prod.mk.injEq, true_and] at h
    obtain ⟨rfl, rfl⟩ := h
    refine ⟨?_, by simp [okV, Nat.blt], clo_spec 8 _ (by kernel_rfl), told_blk (by kernel_rfl)⟩
    refine (refraction_Radicand.run refraction_calc_one_interval_Square refraction_calc_one_interval_Sqrt refraction_calc_one_interval_Neg refraction_calc_two_interval_Add refraction_calc_two_interval_Sub refraction_calc_two_interval_Mul refraction_calc_two_interval_Div interval_Sub interval_Mul interval_Valid interval_Square refraction_unit a0_0 a0_1 a1_0 a1_1).trans ?_
    refine (refraction_Radicand.nat refraction_calc_one_interval_Square refraction_calc_one_interval_Sqrt refraction_calc_one_interval_Neg refraction_calc_two_interval_Add refraction_calc_two_interval_Sub refraction_calc_two_interval_Mul refraction_calc_two_interval_Div interval_Sub interval_Mul interval_Valid interval_Square refraction_unit a0_0 a0_1 a1_0 a1_1 _).trans ?_
    kernel_rfl
  · cases h

/-! ### culet/refraction.Refract$1 (31) -/
def refraction_Refract_1.K {R : Type} (a0 : Int) (k : Int × Int × Int × Int × Int × Int × Int × Int × Int × Int × Int → R) : R :=
  k (0, 0, 0, 0, 0, 0, 0, 0, 0, 0, a0)
set_option maxRecDepth 100000 in
theorem refraction_Refract_1.run (a0 : Int) : xfn Try.prog ⟨[], []⟩ [] 40 Try.f31 [.int .i64 a0] [] = refraction_Refract_1.K a0 (fun r => some (.tuple ⟨[.agg ⟨[.int .i64 r.1, .int .i64 r.2.1, .int .i64 r.2.2.1, .int .i64 r.2.2.2.1, .int .i64 r.2.2.2.2.1, .int .i64 r.2.2.2.2.2.1]⟩, .agg ⟨[.int .i64 r.2.2.2.2.2.2.1, .int .i64 r.2.2.2.2.2.2.2.1]⟩, .agg ⟨[.int .i64 r.2.2.2.2.2.2.2.2.1, .int .i64 r.2.2.2.2.2.2.2.2.2.1]⟩, .int .i64 r.2.2.2.2.2.2.2.2.2.2]⟩, [])) := by kernel_rfl
def refraction_Refract_1 (a0 : Int) : Int × Int × Int × Int × Int × Int × Int × Int × Int × Int × Int := refraction_Refract_1.K a0 id
theorem refraction_Refract_1.nat {R : Type} (a0 : Int) (k : Int × Int × Int × Int × Int × Int × Int × Int × Int × Int × Int → R) : refraction_Refract_1.K a0 k = k (refraction_Refract_1.K a0 id) := by
  simp only [refraction_Refract_1.K, acond k, id_eq]
theorem refraction_Refract_1.eq (e : Int) : refraction_Refract_1 e = (0, 0, 0, 0, 0, 0, 0, 0, 0, 0, e) := rfl
theorem refraction_Refract_1.ok : SOK Try.prog 31 (refraction_Refract_1.sp refraction_Refract_1) := by
  refine sok_of (E := ⟨[], []⟩) ⟨specs_nil, inl_nil, mixed_ok⟩ 40 Try.func31 (by decide) rfl no_loops fun vs bl v bl' h => ?_
  unfold refraction_Refract_1.sp at h
  split at h
  · rename_i a0
    simp only [Option.some.injEq, Prod.mk.injEq, true_and] at h
    obtain ⟨rfl, rfl⟩ := h
    refine ⟨?_, by simp [okV, Nat.blt], clo_spec 8 _ (by kernel_rfl), told_blk (by kernel_rfl)⟩
    refine (refraction_Refract_1.run a0).trans ?_
    refine (refraction_Refract_1.nat a0 _).trans ?_
    kernel_rfl
  · cases h

/-! ### culet/direction.Valid (65) -/
def direction_Valid.K {R : Type} (f_interval_Valid : Int → Int → (Bool)) (a0_0 : Int) (a0_1 : Int) (a0_2 : Int) (a0_3 : Int) (a0_4 : Int) (a0_5 : Int) (k : (Bool) → R) : R :=
  let t0 := f_interval_Valid a0_0 a0_1
  bif t0 then
    let t1 := f_interval_Valid a0_2 a0_3
    bif t1 then
      let t2 := f_interval_Valid a0_4 a0_5
      k (t2)
    else
      k (false)
  else
    k (false)
set_option maxRecDepth 100000 in
theorem direction_Valid.run (f_interval_Valid : Int → Int → (Bool)) (a0_0 : Int) (a0_1 : Int) (a0_2 : Int) (a0_3 : Int) (a0_4 : Int) (a0_5 : Int) : xfn Try.prog ⟨[(56, interval_Valid.sp f_interval_Valid)], []⟩ [] 40 Try.f65 [.agg ⟨[.int .i64 a0_0, .int .i64 a0_1, .int .i64 a0_2, .int .i64 a0_3, .int .i64 a0_4, .int .i64 a0_5]⟩] [] = direction_Valid.K f_interval_Valid a0_0 a0_1 a0_2 a0_3 a0_4 a0_5 (fun r => some (.bool r, [])) := by kernel_rfl
def direction_Valid (a0_0 : Int) (a0_1 : Int) (a0_2 : Int) (a0_3 : Int) (a0_4 : Int) (a0_5 : Int) : Bool := direction_Valid.K interval_Valid a0_0 a0_1 a0_2 a0_3 a0_4 a0_5 id
theorem direction_Valid.nat {R : Type} (f_interval_Valid : Int → Int → (Bool)) (a0_0 : Int) (a0_1 : Int) (a0_2 : Int) (a0_3 : Int) (a0_4 : Int) (a0_5 : Int) (k : (Bool) → R) : direction_Valid.K f_interval_Valid a0_0 a0_1 a0_2 a0_3 a0_4 a0_5 k = k (direction_Valid.K f_interval_Valid a0_0 a0_1 a0_2 a0_3 a0_4 a0_5 id) := by
  simp only [direction_Valid.K, acond k, id_eq]
theorem direction_Valid.eq (a0 a1 a2 a3 a4 a5 : Int) : direction_Valid a0 a1 a2 a3 a4 a5 = VB ((a0, a1), (a2, a3), (a4, a5)) := by
  simp only [direction_Valid, direction_Valid.K, id_eq, interval_Valid.eq, VB, V2]
  cases V a0 a1 <;> cases V a2 a3 <;> cases V a4 a5 <;> rfl
theorem direction_Valid.ok : SOK Try.prog 65 (direction_Valid.sp direction_Valid) := by
  refine sok_of (E := ⟨[(56, interval_Valid.sp interval_Valid)], []⟩) ⟨(specs_cons interval_Valid.ok specs_nil), inl_nil, mixed_ok⟩ 40 Try.func65 (by decide) rfl no_loops fun vs bl v bl' h => ?_
  unfold direction_Valid.sp at h
  split at h
  · rename_i a0_0 a0_1 a0_2 a0_3 a0_4 a0_5
    simp only [Option.some.injEq, Prod.mk.injEq, true_and] at h
    obtain ⟨rfl, rfl⟩ := h
    refine ⟨?_, by simp [okV, Nat.blt], clo_spec 8 _ (by kernel_rfl), told_blk (by kernel_rfl)⟩
    refine (direction_Valid.run interval_Valid a0_0 a0_1 a0_2 a0_3 a0_4 a0_5).trans ?_
    refine (direction_Valid.nat interval_Valid a0_0 a0_1 a0_2 a0_3 a0_4 a0_5 _).trans ?_
    kernel_rfl
  · cases h

/-! ### culet/refraction.valid (32) -/
def refraction_valid.K {R : Type} (f_interval_Valid : Int → Int → (Bool)) (f_direction_Valid : Int → Int → Int → Int → Int → Int → (Bool)) (a0_0 : Int) (a0_1 : Int) (a0_2 : Int) (a0_3 : Int) (a0_4 : Int) (a0_5 : Int) (a1_0 : Int) (a1_1 : Int) (a1_2 : Int) (a1_3 : Int) (a1_4 : Int) (a1_5 : Int) (a2_0 : Int) (a2_1 : Int) (k : (Bool) → R) : R :=
  let t0 := f_direction_Valid a0_0 a0_1 a0_2 a0_3 a0_4 a0_5
  bif t0 then
    let t1 := f_direction_Valid a1_0 a1_1 a1_2 a1_3 a1_4 a1_5
    bif t1 then
      let t2 := f_interval_Valid a2_0 a2_1
      k (t2)
    else
      k (false)
  else
    k (false)
set_option maxRecDepth 100000 in
theorem refraction_valid.run (f_interval_Valid : Int → Int → (Bool)) (f_direction_Valid : Int → Int → Int → Int → Int → Int → (Bool)) (a0_0 : Int) (a0_1 : Int) (a0_2 : Int) (a0_3 : Int) (a0_4 : Int) (a0_5 : Int) (a1_0 : Int) (a1_1 : Int) (a1_2 : Int) (a1_3 : Int) (a1_4 : Int) (a1_5 : Int) (a2_0 : Int) (a2_1 : Int) : xfn Try.prog ⟨[(56, interval_Valid.sp f_interval_Valid), (65, direction_Valid.sp f_direction_Valid)], []⟩ [] 40 Try.f32 [.agg ⟨[.int .i64 a0_0, .int .i64 a0_1, .int .i64 a0_2, .int .i64 a0_3, .int .i64 a0_4, .int .i64 a0_5]⟩, .agg ⟨[.int .i64 a1_0, .int .i64 a1_1, .int .i64 a1_2, .int .i64 a1_3, .int .i64 a1_4, .int .i64 a1_5]⟩, .agg ⟨[.int .i64 a2_0, .int .i64 a2_1]⟩] [] = refraction_valid.K f_interval_Valid f_direction_Valid a0_0 a0_1 a0_2 a0_3 a0_4 a0_5 a1_0 a1_1 a1_2 a1_3 a1_4 a1_5 a2_0 a2_1 (fun r => some (.bool r, [])) := by kernel_rfl
def refraction_valid (a0_0 : Int) (a0_1 : Int) (a0_2 : Int) (a0_3 : Int) (a0_4 : Int) (a0_5 : Int) (a1_0 : Int) (a1_1 : Int) (a1_2 : Int) (a1_3 : Int) (a1_4 : Int) (a1_5 : Int) (a2_0 : Int) (a2_1 : Int) : Bool := refraction_valid.K interval_Valid direction_Valid a0_0 a0_1 a0_2 a0_3 a0_4 a0_5 a1_0 a1_1 a1_2 a1_3 a1_4 a1_5 a2_0 a2_1 id
theorem refraction_valid.nat {R : Type} (f_interval_Valid : Int → Int → (Bool)) (f_direction_Valid : Int → Int → Int → Int → Int → Int → (Bool)) (a0_0 : Int) (a0_1 : Int) (a0_2 : Int) (a0_3 : Int) (a0_4 : Int) (a0_5 : Int) (a1_0 : Int) (a1_1 : Int) (a1_2 : Int) (a1_3 : Int) (a1_4 : Int) (a1_5 : Int) (a2_0 : Int) (a2_1 : Int) (k : (Bool) → R) : refraction_valid.K f_interval_Valid f_direction_Valid a0_0 a0_1 a0_2 a0_3 a0_4 a0_5 a1_0 a1_1 a1_2 a1_3 a1_4 a1_5 a2_0 a2_1 k = k (refraction_valid.K f_interval_Valid f_direction_Valid a0_0 a0_1 a0_2 a0_3 a0_4 a0_5 a1_0 a1_1 a1_2 a1_3 a1_4 a1_5 a2_0 a2_1 id) := by
  simp only [refraction_valid.K, acond k, id_eq]
theorem refraction_valid.eq (a0 a1 a2 a3 a4 a5 b0 b1 b2 b3 b4 b5 r0 r1 : Int) : refraction_valid a0 a1 a2 a3 a4 a5 b0 b1 b2 b3 b4 b5 r0 r1 = (VB ((a0, a1), (a2, a3), (a4, a5)) && (VB ((b0, b1), (b2, b3), (b4, b5)) && V2 (r0, r1))) := by
  simp only [refraction_valid, refraction_valid.K, id_eq, direction_Valid.eq, interval_Valid.eq, V2]
  cases VB ((a0, a1), (a2, a3), (a4, a5)) <;> cases VB ((b0, b1), (b2, b3), (b4, b5)) <;> cases V r0 r1 <;> rfl
theorem refraction_valid.ok : SOK Try.prog 32 (refraction_valid.sp refraction_valid) := by
  refine sok_of (E := ⟨[(56, interval_Valid.sp interval_Valid), (65, direction_Valid.sp direction_Valid)], []⟩) ⟨(specs_cons interval_Valid.ok (specs_cons direction_Valid.ok specs_nil)), inl_nil, mixed_ok⟩ 40 Try.func32 (by decide) rfl no_loops fun vs bl v bl' h => ?_
  unfold refraction_valid.sp at h
  split at h
  · rename_i a0_0 a0_1 a0_2 a0_3 a0_4 a0_5 a1_0 a1_1 a1_2 a1_3 a1_4 a1_5 a2_0 a2_1
    simp only [Option.some.injEq, Prod.mk.injEq, true_and] at h
    obtain ⟨rfl, rfl⟩ := h
    refine ⟨?_, by simp [okV, Nat.blt], clo_spec 8 _ (by kernel_rfl), told_blk (by kernel_rfl)⟩
    refine (refraction_valid.run interval_Valid direction_Valid a0_0 a0_1 a0_2 a0_3 a0_4 a0_5 a1_0 a1_1 a1_2 a1_3 a1_4 a1_5 a2_0 a2_1).trans ?_
    refine (refraction_valid.nat interval_Valid direction_Valid a0_0 a0_1 a0_2 a0_3 a0_4 a0_5 a1_0 a1_1 a1_2 a1_3 a1_4 a1_5 a2_0 a2_1 _).trans ?_
    kernel_rfl
  · cases h

/-! ### (*culet/direction.calc).keep (94) -/
def direction_calc_keep.K {R : Type} (s0_0 : Int) (a1_0 : Int) (a1_1 : Int) (a2 : Int) (k : Int × Int × Int → R) : R :=
  bif s0_0 == 0 then
    k (a1_0, a1_1, a2)
  else
    k (a1_0, a1_1, s0_0)
set_option maxRecDepth 100000 in
theorem direction_calc_keep.run (s0_0 : Int) (a1_0 : Int) (a1_1 : Int) (a2 : Int) : xfn Try.prog ⟨[], []⟩ [] 40 Try.f94 [.pointer (some ⟨0, 0, none⟩), .agg ⟨[.int .i64 a1_0, .int .i64 a1_1]⟩, .int .i64 a2] [.cs [.int .i64 s0_0] 79] = direction_calc_keep.K s0_0 a1_0 a1_1 a2 (fun r => some (.agg ⟨[.int .i64 r.1, .int .i64 r.2.1]⟩, [.cs [.int .i64 r.2.2] 79])) := by kernel_rfl
def direction_calc_keep (s0_0 : Int) (a1_0 : Int) (a1_1 : Int) (a2 : Int) : Int × Int × Int := direction_calc_keep.K s0_0 a1_0 a1_1 a2 id
theorem direction_calc_keep.nat {R : Type} (s0_0 : Int) (a1_0 : Int) (a1_1 : Int) (a2 : Int) (k : Int × Int × Int → R) : direction_calc_keep.K s0_0 a1_0 a1_1 a2 k = k (direction_calc_keep.K s0_0 a1_0 a1_1 a2 id) := by
  simp only [direction_calc_keep.K, acond k, id_eq]
theorem direction_calc_keep.eq (s a b e : Int) : direction_calc_keep s a b e = (a, b, kp s e) := by
  simp only [direction_calc_keep, direction_calc_keep.K, id_eq, kp]
  cases s == 0 <;> rfl
theorem direction_calc_keep.ok : SOK Try.prog 94 (direction_calc_keep.sp direction_calc_keep) := by
  refine sok_of (E := ⟨[], []⟩) ⟨specs_nil, inl_nil, mixed_ok⟩ 40 Try.func94 (by decide) rfl no_loops fun vs bl v bl' h => ?_
  unfold direction_calc_keep.sp at h
  split at h
  · rename_i a1_0 a1_1 a2 s0_0
    simp only [Option.some.injEq, Prod.mk.injEq, true_and] at h
    obtain ⟨rfl, rfl⟩ := h
    refine ⟨?_, by simp [okV, Nat.blt], clo_spec 8 _ (by kernel_rfl), told_blk (by kernel_rfl)⟩
    refine (direction_calc_keep.run s0_0 a1_0 a1_1 a2).trans ?_
    refine (direction_calc_keep.nat s0_0 a1_0 a1_1 a2 _).trans ?_
    kernel_rfl
  · cases h

/-! ### (*culet/direction.calc).mul (66) -/
def direction_calc_mul.K {R : Type} (f_interval_Mul : Int → Int → Int → Int → (Int × Int × Int)) (f_direction_calc_keep : Int → Int → Int → Int → (Int × Int × Int)) (s0_0 : Int) (a1_0 : Int) (a1_1 : Int) (a2_0 : Int) (a2_1 : Int) (k : Int × Int × Int → R) : R :=
  bif s0_0 != 0 then
    k (a1_0, a1_1, s0_0)
  else
    let t0 := f_interval_Mul a1_0 a1_1 a2_0 a2_1
    let t1 := f_direction_calc_keep s0_0 t0.fst t0.snd.fst t0.snd.snd
    k (t1.fst, t1.snd.fst, t1.snd.snd)
set_option maxRecDepth 100000 in
theorem direction_calc_mul.run (f_interval_Mul : Int → Int → Int → Int → (Int × Int × Int)) (f_direction_calc_keep : Int → Int → Int → Int → (Int × Int × Int)) (s0_0 : Int) (a1_0 : Int) (a1_1 : Int) (a2_0 : Int) (a2_1 : Int) : xfn Try.prog ⟨[(41, interval_Mul.sp f_interval_Mul), (94, direction_calc_keep.sp f_direction_calc_keep)], [(89, Try.f89)]⟩ [] 40 Try.f66 [.pointer (some ⟨0, 0, none⟩), .agg ⟨[.int .i64 a1_0, .int .i64 a1_1]⟩, .agg ⟨[.int .i64 a2_0, .int .i64 a2_1]⟩] [.cs [.int .i64 s0_0] 79] = direction_calc_mul.K f_interval_Mul f_direction_calc_keep s0_0 a1_0 a1_1 a2_0 a2_1 (fun r => some (.agg ⟨[.int .i64 r.1, .int .i64 r.2.1]⟩, [.cs [.int .i64 r.2.2] 79])) := by kernel_rfl
def direction_calc_mul (s0_0 : Int) (a1_0 : Int) (a1_1 : Int) (a2_0 : Int) (a2_1 : Int) : Int × Int × Int := direction_calc_mul.K interval_Mul direction_calc_keep s0_0 a1_0 a1_1 a2_0 a2_1 id
theorem direction_calc_mul.nat {R : Type} (f_interval_Mul : Int → Int → Int → Int → (Int × Int × Int)) (f_direction_calc_keep : Int → Int → Int → Int → (Int × Int × Int)) (s0_0 : Int) (a1_0 : Int) (a1_1 : Int) (a2_0 : Int) (a2_1 : Int) (k : Int × Int × Int → R) : direction_calc_mul.K f_interval_Mul f_direction_calc_keep s0_0 a1_0 a1_1 a2_0 a2_1 k = k (direction_calc_mul.K f_interval_Mul f_direction_calc_keep s0_0 a1_0 a1_1 a2_0 a2_1 id) := by
  simp only [direction_calc_mul.K, acond k, id_eq]
theorem direction_calc_mul.eq (s a b c d : Int) : direction_calc_mul s a b c d = st s a b (imul a b c d) := by
  simp only [direction_calc_mul, direction_calc_mul.K, id_eq, interval_Mul.eq, direction_calc_keep.eq, st]
  by_cases hs : s = 0
  · subst hs; rfl
  · simp only [bne_of hs, cond_true]
theorem direction_calc_mul.ok : SOK Try.prog 66 (direction_calc_mul.sp direction_calc_mul) := by
  refine sok_of (E := ⟨[(41, interval_Mul.sp interval_Mul), (94, direction_calc_keep.sp direction_calc_keep)], [(89, Try.f89)]⟩) ⟨(specs_cons interval_Mul.ok (specs_cons direction_calc_keep.ok specs_nil)), (inl_cons ⟨Try.func89, by decide, rfl⟩ inl_nil), mixed_ok⟩ 40 Try.func66 (by decide) rfl no_loops fun vs bl v bl' h => ?_
  unfold direction_calc_mul.sp at h
  split at h
  · rename_i a1_0 a1_1 a2_0 a2_1 s0_0
    simp only [Option.some.injEq, Prod.mk.injEq, true_and] at h
    obtain ⟨rfl, rfl⟩ := h
    refine ⟨?_, by simp [okV, Nat.blt], clo_spec 8 _ (by kernel_rfl), told_blk (by kernel_rfl)⟩
    refine (direction_calc_mul.run interval_Mul direction_calc_keep s0_0 a1_0 a1_1 a2_0 a2_1).trans ?_
    refine (direction_calc_mul.nat interval_Mul direction_calc_keep s0_0 a1_0 a1_1 a2_0 a2_1 _).trans ?_
    kernel_rfl
  · cases h

/-! ### (*culet/direction.calc).result (67) -/
def direction_calc_result.K {R : Type} (s0_0 : Int) (a1_0 : Int) (a1_1 : Int) (k : Int × Int × Int × Int → R) : R :=
  bif s0_0 != 0 then
    k (0, 0, s0_0, s0_0)
  else
    k (a1_0, a1_1, 0, s0_0)
set_option maxRecDepth 100000 in
theorem direction_calc_result.run (s0_0 : Int) (a1_0 : Int) (a1_1 : Int) : xfn Try.prog ⟨[], []⟩ [] 40 Try.f67 [.pointer (some ⟨0, 0, none⟩), .agg ⟨[.int .i64 a1_0, .int .i64 a1_1]⟩] [.cs [.int .i64 s0_0] 79] = direction_calc_result.K s0_0 a1_0 a1_1 (fun r => some (.tuple ⟨[.agg ⟨[.int .i64 r.1, .int .i64 r.2.1]⟩, .int .i64 r.2.2.1]⟩, [.cs [.int .i64 r.2.2.2] 79])) := by kernel_rfl
def direction_calc_result (s0_0 : Int) (a1_0 : Int) (a1_1 : Int) : Int × Int × Int × Int := direction_calc_result.K s0_0 a1_0 a1_1 id
theorem direction_calc_result.nat {R : Type} (s0_0 : Int) (a1_0 : Int) (a1_1 : Int) (k : Int × Int × Int × Int → R) : direction_calc_result.K s0_0 a1_0 a1_1 k = k (direction_calc_result.K s0_0 a1_0 a1_1 id) := by
  simp only [direction_calc_result.K, acond k, id_eq]
theorem direction_calc_result.ok : SOK Try.prog 67 (direction_calc_result.sp direction_calc_result) := by
  refine sok_of (E := ⟨[], []⟩) ⟨specs_nil, inl_nil, mixed_ok⟩ 40 Try.func67 (by decide) rfl no_loops fun vs bl v bl' h => ?_
  unfold direction_calc_result.sp at h
  split at h
  · rename_i a1_0 a1_1 s0_0
    simp only [Option.some.injEq, Prod.mk.injEq, true_and] at h
    obtain ⟨rfl, rfl⟩ := h
    refine ⟨?_, by simp [okV, Nat.blt], clo_spec 8 _ (by kernel_rfl), told_blk (by kernel_rfl)⟩
    refine (direction_calc_result.run s0_0 a1_0 a1_1).trans ?_
    refine (direction_calc_result.nat s0_0 a1_0 a1_1 _).trans ?_
    kernel_rfl
  · cases h

/-! ### (*culet/direction.calc).add (68) -/
def direction_calc_add.K {R : Type} (f_interval_Add : Int → Int → Int → Int → (Int × Int × Int)) (f_direction_calc_keep : Int → Int → Int → Int → (Int × Int × Int)) (s0_0 : Int) (a1_0 : Int) (a1_1 : Int) (a2_0 : Int) (a2_1 : Int) (k : Int × Int × Int → R) : R :=
  bif s0_0 != 0 then
    k (a1_0, a1_1, s0_0)
  else
    let t0 := f_interval_Add a1_0 a1_1 a2_0 a2_1
    let t1 := f_direction_calc_keep s0_0 t0.fst t0.snd.fst t0.snd.snd
    k (t1.fst, t1.snd.fst, t1.snd.snd)
set_option maxRecDepth 100000 in
theorem direction_calc_add.run (f_interval_Add : Int → Int → Int → Int → (Int × Int × Int)) (f_direction_calc_keep : Int → Int → Int → Int → (Int × Int × Int)) (s0_0 : Int) (a1_0 : Int) (a1_1 : Int) (a2_0 : Int) (a2_1 : Int) : xfn Try.prog ⟨[(53, interval_Add.sp f_interval_Add), (94, direction_calc_keep.sp f_direction_calc_keep)], [(89, Try.f89)]⟩ [] 40 Try.f68 [.pointer (some ⟨0, 0, none⟩), .agg ⟨[.int .i64 a1_0, .int .i64 a1_1]⟩, .agg ⟨[.int .i64 a2_0, .int .i64 a2_1]⟩] [.cs [.int .i64 s0_0] 79] = direction_calc_add.K f_interval_Add f_direction_calc_keep s0_0 a1_0 a1_1 a2_0 a2_1 (fun r => some (.agg ⟨[.int .i64 r.1, .int .i64 r.2.1]⟩, [.cs [.int .i64 r.2.2] 79])) := by kernel_rfl
def direction_calc_add (s0_0 : Int) (a1_0 : Int) (a1_1 : Int) (a2_0 : Int) (a2_1 : Int) : Int × Int × Int := direction_calc_add.K interval_Add direction_calc_keep s0_0 a1_0 a1_1 a2_0 a2_1 id
theorem direction_calc_add.nat {R : Type} (f_interval_Add : Int → Int → Int → Int → (Int × Int × Int)) (f_direction_calc_keep : Int → Int → Int → Int → (Int × Int × Int)) (s0_0 : Int) (a1_0 : Int) (a1_1 : Int) (a2_0 : Int) (a2_1 : Int) (k : Int × Int × Int → R) : direction_calc_add.K f_interval_Add f_direction_calc_keep s0_0 a1_0 a1_1 a2_0 a2_1 k = k (direction_calc_add.K f_interval_Add f_direction_calc_keep s0_0 a1_0 a1_1 a2_0 a2_1 id) := by
  simp only [direction_calc_add.K, acond k, id_eq]
theorem direction_calc_add.eq (s a b c d : Int) : direction_calc_add s a b c d = st s a b (iadd a b c d) := by
  simp only [direction_calc_add, direction_calc_add.K, id_eq, interval_Add.eq, direction_calc_keep.eq, st]
  by_cases hs : s = 0
  · subst hs; rfl
  · simp only [bne_of hs, cond_true]
theorem direction_calc_add.ok : SOK Try.prog 68 (direction_calc_add.sp direction_calc_add) := by
  refine sok_of (E := ⟨[(53, interval_Add.sp interval_Add), (94, direction_calc_keep.sp direction_calc_keep)], [(89, Try.f89)]⟩) ⟨(specs_cons interval_Add.ok (specs_cons direction_calc_keep.ok specs_nil)), (inl_cons ⟨Try.func89, by decide, rfl⟩ inl_nil), mixed_ok⟩ 40 Try.func68 (by decide) rfl no_loops fun vs bl v bl' h => ?_
  unfold direction_calc_add.sp at h
  split at h
  · rename_i a1_0 a1_1 a2_0 a2_1 s0_0
    simp only [Option.some.injEq, Prod.mk.injEq, true_and] at h
    obtain ⟨rfl, rfl⟩ := h
    refine ⟨?_, by simp [okV, Nat.blt], clo_spec 8 _ (by kernel_rfl), told_blk (by kernel_rfl)⟩
    refine (direction_calc_add.run interval_Add direction_calc_keep s0_0 a1_0 a1_1 a2_0 a2_1).trans ?_
    refine (direction_calc_add.nat interval_Add direction_calc_keep s0_0 a1_0 a1_1 a2_0 a2_1 _).trans ?_
    kernel_rfl
  · cases h

/-! ### culet/direction.Dot (33) -/
def direction_Dot.K {R : Type} (f_direction_Valid : Int → Int → Int → Int → Int → Int → (Bool)) (f_direction_calc_mul : Int → Int → Int → Int → Int → (Int × Int × Int)) (f_direction_calc_result : Int → Int → Int → (Int × Int × Int × Int)) (f_direction_calc_add : Int → Int → Int → Int → Int → (Int × Int × Int)) (a0_0 : Int) (a0_1 : Int) (a0_2 : Int) (a0_3 : Int) (a0_4 : Int) (a0_5 : Int) (a1_0 : Int) (a1_1 : Int) (a1_2 : Int) (a1_3 : Int) (a1_4 : Int) (a1_5 : Int) (k : Int × Int × Int → R) : R :=
  let t0 := f_direction_Valid a0_0 a0_1 a0_2 a0_3 a0_4 a0_5
  bif !t0 then
    k (0, 0, 1)
  else
    let t1 := f_direction_Valid a1_0 a1_1 a1_2 a1_3 a1_4 a1_5
    bif !t1 then
      k (0, 0, 1)
    else
      let t2 := f_direction_calc_mul 0 a0_0 a0_1 a1_0 a1_1
      let t3 := f_direction_calc_mul t2.snd.snd a0_2 a0_3 a1_2 a1_3
      let t4 := f_direction_calc_mul t3.snd.snd a0_4 a0_5 a1_4 a1_5
      let t5 := f_direction_calc_add t4.snd.snd t2.fst t2.snd.fst t3.fst t3.snd.fst
      let t6 := f_direction_calc_add t5.snd.snd t5.fst t5.snd.fst t4.fst t4.snd.fst
      let t7 := f_direction_calc_result t6.snd.snd t6.fst t6.snd.fst
      k (t7.fst, t7.snd.fst, t7.snd.snd.fst)
set_option maxRecDepth 100000 in
theorem direction_Dot.run (f_direction_Valid : Int → Int → Int → Int → Int → Int → (Bool)) (f_direction_calc_mul : Int → Int → Int → Int → Int → (Int × Int × Int)) (f_direction_calc_result : Int → Int → Int → (Int × Int × Int × Int)) (f_direction_calc_add : Int → Int → Int → Int → Int → (Int × Int × Int)) (a0_0 : Int) (a0_1 : Int) (a0_2 : Int) (a0_3 : Int) (a0_4 : Int) (a0_5 : Int) (a1_0 : Int) (a1_1 : Int) (a1_2 : Int) (a1_3 : Int) (a1_4 : Int) (a1_5 : Int) : xfn Try.prog ⟨[(65, direction_Valid.sp f_direction_Valid), (66, direction_calc_mul.sp f_direction_calc_mul), (67, direction_calc_result.sp f_direction_calc_result), (68, direction_calc_add.sp f_direction_calc_add)], []⟩ [] 40 Try.f33 [.agg ⟨[.int .i64 a0_0, .int .i64 a0_1, .int .i64 a0_2, .int .i64 a0_3, .int .i64 a0_4, .int .i64 a0_5]⟩, .agg ⟨[.int .i64 a1_0, .int .i64 a1_1, .int .i64 a1_2, .int .i64 a1_3, .int .i64 a1_4, .int .i64 a1_5]⟩] [] = direction_Dot.K f_direction_Valid f_direction_calc_mul f_direction_calc_result f_direction_calc_add a0_0 a0_1 a0_2 a0_3 a0_4 a0_5 a1_0 a1_1 a1_2 a1_3 a1_4 a1_5 (fun r => some (.tuple ⟨[.agg ⟨[.int .i64 r.1, .int .i64 r.2.1]⟩, .int .i64 r.2.2]⟩, [])) := by kernel_rfl
def direction_Dot (a0_0 : Int) (a0_1 : Int) (a0_2 : Int) (a0_3 : Int) (a0_4 : Int) (a0_5 : Int) (a1_0 : Int) (a1_1 : Int) (a1_2 : Int) (a1_3 : Int) (a1_4 : Int) (a1_5 : Int) : Int × Int × Int := direction_Dot.K direction_Valid direction_calc_mul direction_calc_result direction_calc_add a0_0 a0_1 a0_2 a0_3 a0_4 a0_5 a1_0 a1_1 a1_2 a1_3 a1_4 a1_5 id
theorem direction_Dot.nat {R : Type} (f_direction_Valid : Int → Int → Int → Int → Int → Int → (Bool)) (f_direction_calc_mul : Int → Int → Int → Int → Int → (Int × Int × Int)) (f_direction_calc_result : Int → Int → Int → (Int × Int × Int × Int)) (f_direction_calc_add : Int → Int → Int → Int → Int → (Int × Int × Int)) (a0_0 : Int) (a0_1 : Int) (a0_2 : Int) (a0_3 : Int) (a0_4 : Int) (a0_5 : Int) (a1_0 : Int) (a1_1 : Int) (a1_2 : Int) (a1_3 : Int) (a1_4 : Int) (a1_5 : Int) (k : Int × Int × Int → R) : direction_Dot.K f_direction_Valid f_direction_calc_mul f_direction_calc_result f_direction_calc_add a0_0 a0_1 a0_2 a0_3 a0_4 a0_5 a1_0 a1_1 a1_2 a1_3 a1_4 a1_5 k = k (direction_Dot.K f_direction_Valid f_direction_calc_mul f_direction_calc_result f_direction_calc_add a0_0 a0_1 a0_2 a0_3 a0_4 a0_5 a1_0 a1_1 a1_2 a1_3 a1_4 a1_5 id) := by
  simp only [direction_Dot.K, acond k, id_eq]
theorem direction_Dot.eq (a0 a1 a2 a3 a4 a5 b0 b1 b2 b3 b4 b5 : Int) : direction_Dot a0 a1 a2 a3 a4 a5 b0 b1 b2 b3 b4 b5 = o3 (ddot ((a0, a1), (a2, a3), (a4, a5)) ((b0, b1), (b2, b3), (b4, b5))) := by
  simp only [direction_Dot, direction_Dot.K, id_eq, direction_Valid.eq, direction_calc_mul.eq, direction_calc_add.eq, direction_calc_result, direction_calc_result.K, id_eq, ddot, mulR, addR]
  cases hV0 : VB ((a0, a1), (a2, a3), (a4, a5)) with
  | false =>
    simp only [hV0, st0, kr0, st70, t3_ok, bind_ok, bind_er, o7, o3, o2, o11, V2_mk, kp0, cond_true, cond_false, Bool.not_true, Bool.not_false, Bool.false_and, Bool.and_false, Bool.true_and, Bool.and_true, bne_self_eq_false, beq_self_eq_true, if_true, if_false]
  | true =>
    cases hV1 : VB ((b0, b1), (b2, b3), (b4, b5)) with
    | false =>
      simp only [hV0, hV1, st0, kr0, st70, t3_ok, bind_ok, bind_er, o7, o3, o2, o11, V2_mk, kp0, cond_true, cond_false, Bool.not_true, Bool.not_false, Bool.false_and, Bool.and_false, Bool.true_and, Bool.and_true, bne_self_eq_false, beq_self_eq_true, if_true, if_false]
    | true =>
      rcases t3c (imul a0 a1 b0 b1) with ⟨x0, x1, h0⟩ | ⟨x0, x1, e0, n0, h0⟩
      · simp only [hV0, hV1, h0, st0, kr0, st70, t3_ok, bind_ok, bind_er, o7, o3, o2, o11, V2_mk, kp0, cond_true, cond_false, Bool.not_true, Bool.not_false, Bool.false_and, Bool.and_false, Bool.true_and, Bool.and_true, bne_self_eq_false, beq_self_eq_true, if_true, if_false]
        rcases t3c (imul a2 a3 b2 b3) with ⟨y0, y1, h1⟩ | ⟨y0, y1, e1, n1, h1⟩
        · simp only [h1, st0, kr0, st70, t3_ok, bind_ok, bind_er, o7, o3, o2, o11, V2_mk, kp0, cond_true, cond_false, Bool.not_true, Bool.not_false, Bool.false_and, Bool.and_false, Bool.true_and, Bool.and_true, bne_self_eq_false, beq_self_eq_true, if_true, if_false]
          rcases t3c (imul a4 a5 b4 b5) with ⟨z0, z1, h2⟩ | ⟨z0, z1, e2, n2, h2⟩
          · simp only [h2, st0, kr0, st70, t3_ok, bind_ok, bind_er, o7, o3, o2, o11, V2_mk, kp0, cond_true, cond_false, Bool.not_true, Bool.not_false, Bool.false_and, Bool.and_false, Bool.true_and, Bool.and_true, bne_self_eq_false, beq_self_eq_true, if_true, if_false]
            rcases t3c (iadd x0 x1 y0 y1) with ⟨s0, s1, h3⟩ | ⟨s0, s1, e3, n3, h3⟩
            · simp only [h3, st0, kr0, st70, t3_ok, bind_ok, bind_er, o7, o3, o2, o11, V2_mk, kp0, cond_true, cond_false, Bool.not_true, Bool.not_false, Bool.false_and, Bool.and_false, Bool.true_and, Bool.and_true, bne_self_eq_false, beq_self_eq_true, if_true, if_false]
              rcases t3c (iadd s0 s1 z0 z1) with ⟨t0, t1, h4⟩ | ⟨t0, t1, e4, n4, h4⟩
              · simp only [h4, st0, kr0, st70, t3_ok, bind_ok, bind_er, o7, o3, o2, o11, V2_mk, kp0, cond_true, cond_false, Bool.not_true, Bool.not_false, Bool.false_and, Bool.and_false, Bool.true_and, Bool.and_true, bne_self_eq_false, beq_self_eq_true, if_true, if_false]
              · simp only [h4, stE n4, krE n4, st7E n4, t3_er n4, bne_of n4, beq_of n4, kpn _ n4, st0, kr0, st70, t3_ok, bind_ok, bind_er, o7, o3, o2, o11, V2_mk, kp0, cond_true, cond_false, Bool.not_true, Bool.not_false, Bool.false_and, Bool.and_false, Bool.true_and, Bool.and_true, bne_self_eq_false, beq_self_eq_true, if_true, if_false]
            · simp only [h3, stE n3, krE n3, st7E n3, t3_er n3, bne_of n3, beq_of n3, kpn _ n3, st0, kr0, st70, t3_ok, bind_ok, bind_er, o7, o3, o2, o11, V2_mk, kp0, cond_true, cond_false, Bool.not_true, Bool.not_false, Bool.false_and, Bool.and_false, Bool.true_and, Bool.and_true, bne_self_eq_false, beq_self_eq_true, if_true, if_false]
          · simp only [h2, stE n2, krE n2, st7E n2, t3_er n2, bne_of n2, beq_of n2, kpn _ n2, st0, kr0, st70, t3_ok, bind_ok, bind_er, o7, o3, o2, o11, V2_mk, kp0, cond_true, cond_false, Bool.not_true, Bool.not_false, Bool.false_and, Bool.and_false, Bool.true_and, Bool.and_true, bne_self_eq_false, beq_self_eq_true, if_true, if_false]
        · simp only [h1, stE n1, krE n1, st7E n1, t3_er n1, bne_of n1, beq_of n1, kpn _ n1, st0, kr0, st70, t3_ok, bind_ok, bind_er, o7, o3, o2, o11, V2_mk, kp0, cond_true, cond_false, Bool.not_true, Bool.not_false, Bool.false_and, Bool.and_false, Bool.true_and, Bool.and_true, bne_self_eq_false, beq_self_eq_true, if_true, if_false]
      · simp only [hV0, hV1, h0, stE n0, krE n0, st7E n0, t3_er n0, bne_of n0, beq_of n0, kpn _ n0, st0, kr0, st70, t3_ok, bind_ok, bind_er, o7, o3, o2, o11, V2_mk, kp0, cond_true, cond_false, Bool.not_true, Bool.not_false, Bool.false_and, Bool.and_false, Bool.true_and, Bool.and_true, bne_self_eq_false, beq_self_eq_true, if_true, if_false]
theorem direction_Dot.ok : SOK Try.prog 33 (direction_Dot.sp direction_Dot) := by
  refine sok_of (E := ⟨[(65, direction_Valid.sp direction_Valid), (66, direction_calc_mul.sp direction_calc_mul), (67, direction_calc_result.sp direction_calc_result), (68, direction_calc_add.sp direction_calc_add)], []⟩) ⟨(specs_cons direction_Valid.ok (specs_cons direction_calc_mul.ok (specs_cons direction_calc_result.ok (specs_cons direction_calc_add.ok specs_nil)))), inl_nil, mixed_ok⟩ 40 Try.func33 (by decide) rfl no_loops fun vs bl v bl' h => ?_
  unfold direction_Dot.sp at h
  split at h
  · rename_i a0_0 a0_1 a0_2 a0_3 a0_4 a0_5 a1_0 a1_1 a1_2 a1_3 a1_4 a1_5
    simp only [Option.some.injEq, Prod.mk.injEq, true_and] at h
    obtain ⟨rfl, rfl⟩ := h
    refine ⟨?_, by simp [okV, Nat.blt], clo_spec 8 _ (by kernel_rfl), told_blk (by kernel_rfl)⟩
    refine (direction_Dot.run direction_Valid direction_calc_mul direction_calc_result direction_calc_add a0_0 a0_1 a0_2 a0_3 a0_4 a0_5 a1_0 a1_1 a1_2 a1_3 a1_4 a1_5).trans ?_
    refine (direction_Dot.nat direction_Valid direction_calc_mul direction_calc_result direction_calc_add a0_0 a0_1 a0_2 a0_3 a0_4 a0_5 a1_0 a1_1 a1_2 a1_3 a1_4 a1_5 _).trans ?_
    kernel_rfl
  · cases h

/-! ### culet/interval.Sign (34) -/
def interval_Sign.K {R : Type} (f_interval_Valid : Int → Int → (Bool)) (a0_0 : Int) (a0_1 : Int) (k : (Int) → R) : R :=
  let t0 := f_interval_Valid a0_0 a0_1
  bif !t0 then
    k (0)
  else
    bif decide (a0_0 > 0) then
      k (1)
    else
      bif decide (a0_1 < 0) then
        k (-1)
      else
        k (0)
set_option maxRecDepth 100000 in
theorem interval_Sign.run (f_interval_Valid : Int → Int → (Bool)) (a0_0 : Int) (a0_1 : Int) : xfn Try.prog ⟨[(56, interval_Valid.sp f_interval_Valid)], []⟩ [] 40 Try.f34 [.agg ⟨[.int .i64 a0_0, .int .i64 a0_1]⟩] [] = interval_Sign.K f_interval_Valid a0_0 a0_1 (fun r => some (.int .i64 r, [])) := by kernel_rfl
def interval_Sign (a0_0 : Int) (a0_1 : Int) : Int := interval_Sign.K interval_Valid a0_0 a0_1 id
theorem interval_Sign.nat {R : Type} (f_interval_Valid : Int → Int → (Bool)) (a0_0 : Int) (a0_1 : Int) (k : (Int) → R) : interval_Sign.K f_interval_Valid a0_0 a0_1 k = k (interval_Sign.K f_interval_Valid a0_0 a0_1 id) := by
  simp only [interval_Sign.K, acond k, id_eq]
theorem interval_Sign.eq (a b : Int) : interval_Sign a b = isg a b := by
  simp only [interval_Sign, interval_Sign.K, id_eq, interval_Valid.eq, isg]
  cases V a b with
  | false => rfl
  | true => by_cases h1 : 0 < a <;> by_cases h2 : b < 0 <;> simp [h1, h2]
theorem interval_Sign.ok : SOK Try.prog 34 (interval_Sign.sp interval_Sign) := by
  refine sok_of (E := ⟨[(56, interval_Valid.sp interval_Valid)], []⟩) ⟨(specs_cons interval_Valid.ok specs_nil), inl_nil, mixed_ok⟩ 40 Try.func34 (by decide) rfl no_loops fun vs bl v bl' h => ?_
  unfold interval_Sign.sp at h
  split at h
  · rename_i a0_0 a0_1
    simp only [Option.some.injEq, Prod.mk.injEq, true_and] at h
    obtain ⟨rfl, rfl⟩ := h
    refine ⟨?_, by simp [okV, Nat.blt], clo_spec 8 _ (by kernel_rfl), told_blk (by kernel_rfl)⟩
    refine (interval_Sign.run interval_Valid a0_0 a0_1).trans ?_
    refine (interval_Sign.nat interval_Valid a0_0 a0_1 _).trans ?_
    kernel_rfl
  · cases h

/-! ### (*culet/direction.calc).box (90) -/
def direction_calc_box.K {R : Type} (s0_0 : Int) (a1_0 : Int) (a1_1 : Int) (a1_2 : Int) (a1_3 : Int) (a1_4 : Int) (a1_5 : Int) (k : Int × Int × Int × Int × Int × Int × Int × Int → R) : R :=
  bif s0_0 != 0 then
    k (0, 0, 0, 0, 0, 0, s0_0, s0_0)
  else
    k (a1_0, a1_1, a1_2, a1_3, a1_4, a1_5, 0, s0_0)
set_option maxRecDepth 100000 in
theorem direction_calc_box.run (s0_0 : Int) (a1_0 : Int) (a1_1 : Int) (a1_2 : Int) (a1_3 : Int) (a1_4 : Int) (a1_5 : Int) : xfn Try.prog ⟨[], []⟩ [] 40 Try.f90 [.pointer (some ⟨0, 0, none⟩), .agg ⟨[.int .i64 a1_0, .int .i64 a1_1, .int .i64 a1_2, .int .i64 a1_3, .int .i64 a1_4, .int .i64 a1_5]⟩] [.cs [.int .i64 s0_0] 79] = direction_calc_box.K s0_0 a1_0 a1_1 a1_2 a1_3 a1_4 a1_5 (fun r => some (.tuple ⟨[.agg ⟨[.int .i64 r.1, .int .i64 r.2.1, .int .i64 r.2.2.1, .int .i64 r.2.2.2.1, .int .i64 r.2.2.2.2.1, .int .i64 r.2.2.2.2.2.1]⟩, .int .i64 r.2.2.2.2.2.2.1]⟩, [.cs [.int .i64 r.2.2.2.2.2.2.2] 79])) := by kernel_rfl
def direction_calc_box (s0_0 : Int) (a1_0 : Int) (a1_1 : Int) (a1_2 : Int) (a1_3 : Int) (a1_4 : Int) (a1_5 : Int) : Int × Int × Int × Int × Int × Int × Int × Int := direction_calc_box.K s0_0 a1_0 a1_1 a1_2 a1_3 a1_4 a1_5 id
theorem direction_calc_box.nat {R : Type} (s0_0 : Int) (a1_0 : Int) (a1_1 : Int) (a1_2 : Int) (a1_3 : Int) (a1_4 : Int) (a1_5 : Int) (k : Int × Int × Int × Int × Int × Int × Int × Int → R) : direction_calc_box.K s0_0 a1_0 a1_1 a1_2 a1_3 a1_4 a1_5 k = k (direction_calc_box.K s0_0 a1_0 a1_1 a1_2 a1_3 a1_4 a1_5 id) := by
  simp only [direction_calc_box.K, acond k, id_eq]
theorem direction_calc_box.ok : SOK Try.prog 90 (direction_calc_box.sp direction_calc_box) := by
  refine sok_of (E := ⟨[], []⟩) ⟨specs_nil, inl_nil, mixed_ok⟩ 40 Try.func90 (by decide) rfl no_loops fun vs bl v bl' h => ?_
  unfold direction_calc_box.sp at h
  split at h
  · rename_i a1_0 a1_1 a1_2 a1_3 a1_4 a1_5 s0_0
    simp only [Option.some.injEq, Prod.mk.injEq, true_and] at h
    obtain ⟨rfl, rfl⟩ := h
    refine ⟨?_, by simp [okV, Nat.blt], clo_spec 8 _ (by kernel_rfl), told_blk (by kernel_rfl)⟩
    refine (direction_calc_box.run s0_0 a1_0 a1_1 a1_2 a1_3 a1_4 a1_5).trans ?_
    refine (direction_calc_box.nat s0_0 a1_0 a1_1 a1_2 a1_3 a1_4 a1_5 _).trans ?_
    kernel_rfl
  · cases h

/-! ### culet/direction.Scale (71) -/
def direction_Scale.K {R : Type} (f_interval_Valid : Int → Int → (Bool)) (f_direction_Valid : Int → Int → Int → Int → Int → Int → (Bool)) (f_direction_calc_mul : Int → Int → Int → Int → Int → (Int × Int × Int)) (f_direction_calc_box : Int → Int → Int → Int → Int → Int → Int → (Int × Int × Int × Int × Int × Int × Int × Int)) (a0_0 : Int) (a0_1 : Int) (a0_2 : Int) (a0_3 : Int) (a0_4 : Int) (a0_5 : Int) (a1_0 : Int) (a1_1 : Int) (k : Int × Int × Int × Int × Int × Int × Int → R) : R :=
  let t0 := f_direction_Valid a0_0 a0_1 a0_2 a0_3 a0_4 a0_5
  bif !t0 then
    k (0, 0, 0, 0, 0, 0, 1)
  else
    let t1 := f_interval_Valid a1_0 a1_1
    bif !t1 then
      k (0, 0, 0, 0, 0, 0, 1)
    else
      let t2 := f_direction_calc_mul 0 a0_0 a0_1 a1_0 a1_1
      let t3 := f_direction_calc_mul t2.snd.snd a0_2 a0_3 a1_0 a1_1
      let t4 := f_direction_calc_mul t3.snd.snd a0_4 a0_5 a1_0 a1_1
      let t5 := f_direction_calc_box t4.snd.snd t2.fst t2.snd.fst t3.fst t3.snd.fst t4.fst t4.snd.fst
      k (t5.fst, t5.snd.fst, t5.snd.snd.fst, t5.snd.snd.snd.fst, t5.snd.snd.snd.snd.fst, t5.snd.snd.snd.snd.snd.fst, t5.snd.snd.snd.snd.snd.snd.fst)
set_option maxRecDepth 100000 in
theorem direction_Scale.run (f_interval_Valid : Int → Int → (Bool)) (f_direction_Valid : Int → Int → Int → Int → Int → Int → (Bool)) (f_direction_calc_mul : Int → Int → Int → Int → Int → (Int × Int × Int)) (f_direction_calc_box : Int → Int → Int → Int → Int → Int → Int → (Int × Int × Int × Int × Int × Int × Int × Int)) (a0_0 : Int) (a0_1 : Int) (a0_2 : Int) (a0_3 : Int) (a0_4 : Int) (a0_5 : Int) (a1_0 : Int) (a1_1 : Int) : xfn Try.prog ⟨[(56, interval_Valid.sp f_interval_Valid), (65, direction_Valid.sp f_direction_Valid), (66, direction_calc_mul.sp f_direction_calc_mul), (90, direction_calc_box.sp f_direction_calc_box)], []⟩ [] 40 Try.f71 [.agg ⟨[.int .i64 a0_0, .int .i64 a0_1, .int .i64 a0_2, .int .i64 a0_3, .int .i64 a0_4, .int .i64 a0_5]⟩, .agg ⟨[.int .i64 a1_0, .int .i64 a1_1]⟩] [] = direction_Scale.K f_interval_Valid f_direction_Valid f_direction_calc_mul f_direction_calc_box a0_0 a0_1 a0_2 a0_3 a0_4 a0_5 a1_0 a1_1 (fun r => some (.tuple ⟨[.agg ⟨[.int .i64 r.1, .int .i64 r.2.1, .int .i64 r.2.2.1, .int .i64 r.2.2.2.1, .int .i64 r.2.2.2.2.1, .int .i64 r.2.2.2.2.2.1]⟩, .int .i64 r.2.2.2.2.2.2]⟩, [])) := by kernel_rfl
def direction_Scale (a0_0 : Int) (a0_1 : Int) (a0_2 : Int) (a0_3 : Int) (a0_4 : Int) (a0_5 : Int) (a1_0 : Int) (a1_1 : Int) : Int × Int × Int × Int × Int × Int × Int := direction_Scale.K interval_Valid direction_Valid direction_calc_mul direction_calc_box a0_0 a0_1 a0_2 a0_3 a0_4 a0_5 a1_0 a1_1 id
theorem direction_Scale.nat {R : Type} (f_interval_Valid : Int → Int → (Bool)) (f_direction_Valid : Int → Int → Int → Int → Int → Int → (Bool)) (f_direction_calc_mul : Int → Int → Int → Int → Int → (Int × Int × Int)) (f_direction_calc_box : Int → Int → Int → Int → Int → Int → Int → (Int × Int × Int × Int × Int × Int × Int × Int)) (a0_0 : Int) (a0_1 : Int) (a0_2 : Int) (a0_3 : Int) (a0_4 : Int) (a0_5 : Int) (a1_0 : Int) (a1_1 : Int) (k : Int × Int × Int × Int × Int × Int × Int → R) : direction_Scale.K f_interval_Valid f_direction_Valid f_direction_calc_mul f_direction_calc_box a0_0 a0_1 a0_2 a0_3 a0_4 a0_5 a1_0 a1_1 k = k (direction_Scale.K f_interval_Valid f_direction_Valid f_direction_calc_mul f_direction_calc_box a0_0 a0_1 a0_2 a0_3 a0_4 a0_5 a1_0 a1_1 id) := by
  simp only [direction_Scale.K, acond k, id_eq]
theorem direction_Scale.eq (a0 a1 a2 a3 a4 a5 r0 r1 : Int) : direction_Scale a0 a1 a2 a3 a4 a5 r0 r1 = o7 (dscale ((a0, a1), (a2, a3), (a4, a5)) (r0, r1)) := by
  simp only [direction_Scale, direction_Scale.K, id_eq, direction_Valid.eq, direction_calc_mul.eq, interval_Valid.eq, direction_calc_box, direction_calc_box.K, id_eq, dscale, dzip, mulR, V2]
  cases hV0 : VB ((a0, a1), (a2, a3), (a4, a5)) with
  | false =>
    simp only [hV0, st0, kr0, st70, t3_ok, bind_ok, bind_er, o7, o3, o2, o11, V2_mk, kp0, cond_true, cond_false, Bool.not_true, Bool.not_false, Bool.false_and, Bool.and_false, Bool.true_and, Bool.and_true, bne_self_eq_false, beq_self_eq_true, if_true, if_false]
  | true =>
    cases hV1 : V r0 r1 with
    | false =>
      simp only [hV0, hV1, st0, kr0, st70, t3_ok, bind_ok, bind_er, o7, o3, o2, o11, V2_mk, kp0, cond_true, cond_false, Bool.not_true, Bool.not_false, Bool.false_and, Bool.and_false, Bool.true_and, Bool.and_true, bne_self_eq_false, beq_self_eq_true, if_true, if_false]
    | true =>
      rcases t3c (imul a0 a1 r0 r1) with ⟨x0, x1, h0⟩ | ⟨x0, x1, e0, n0, h0⟩
      · simp only [hV0, hV1, h0, st0, kr0, st70, t3_ok, bind_ok, bind_er, o7, o3, o2, o11, V2_mk, kp0, cond_true, cond_false, Bool.not_true, Bool.not_false, Bool.false_and, Bool.and_false, Bool.true_and, Bool.and_true, bne_self_eq_false, beq_self_eq_true, if_true, if_false]
        rcases t3c (imul a2 a3 r0 r1) with ⟨y0, y1, h1⟩ | ⟨y0, y1, e1, n1, h1⟩
        · simp only [h1, st0, kr0, st70, t3_ok, bind_ok, bind_er, o7, o3, o2, o11, V2_mk, kp0, cond_true, cond_false, Bool.not_true, Bool.not_false, Bool.false_and, Bool.and_false, Bool.true_and, Bool.and_true, bne_self_eq_false, beq_self_eq_true, if_true, if_false]
          rcases t3c (imul a4 a5 r0 r1) with ⟨z0, z1, h2⟩ | ⟨z0, z1, e2, n2, h2⟩
          · simp only [h2, st0, kr0, st70, t3_ok, bind_ok, bind_er, o7, o3, o2, o11, V2_mk, kp0, cond_true, cond_false, Bool.not_true, Bool.not_false, Bool.false_and, Bool.and_false, Bool.true_and, Bool.and_true, bne_self_eq_false, beq_self_eq_true, if_true, if_false]
          · simp only [h2, stE n2, krE n2, st7E n2, t3_er n2, bne_of n2, beq_of n2, kpn _ n2, st0, kr0, st70, t3_ok, bind_ok, bind_er, o7, o3, o2, o11, V2_mk, kp0, cond_true, cond_false, Bool.not_true, Bool.not_false, Bool.false_and, Bool.and_false, Bool.true_and, Bool.and_true, bne_self_eq_false, beq_self_eq_true, if_true, if_false]
        · simp only [h1, stE n1, krE n1, st7E n1, t3_er n1, bne_of n1, beq_of n1, kpn _ n1, st0, kr0, st70, t3_ok, bind_ok, bind_er, o7, o3, o2, o11, V2_mk, kp0, cond_true, cond_false, Bool.not_true, Bool.not_false, Bool.false_and, Bool.and_false, Bool.true_and, Bool.and_true, bne_self_eq_false, beq_self_eq_true, if_true, if_false]
      · simp only [hV0, hV1, h0, stE n0, krE n0, st7E n0, t3_er n0, bne_of n0, beq_of n0, kpn _ n0, st0, kr0, st70, t3_ok, bind_ok, bind_er, o7, o3, o2, o11, V2_mk, kp0, cond_true, cond_false, Bool.not_true, Bool.not_false, Bool.false_and, Bool.and_false, Bool.true_and, Bool.and_true, bne_self_eq_false, beq_self_eq_true, if_true, if_false]
theorem direction_Scale.ok : SOK Try.prog 71 (direction_Scale.sp direction_Scale) := by
  refine sok_of (E := ⟨[(56, interval_Valid.sp interval_Valid), (65, direction_Valid.sp direction_Valid), (66, direction_calc_mul.sp direction_calc_mul), (90, direction_calc_box.sp direction_calc_box)], []⟩) ⟨(specs_cons interval_Valid.ok (specs_cons direction_Valid.ok (specs_cons direction_calc_mul.ok (specs_cons direction_calc_box.ok specs_nil)))), inl_nil, mixed_ok⟩ 40 Try.func71 (by decide) rfl no_loops fun vs bl v bl' h => ?_
  unfold direction_Scale.sp at h
  split at h
  · rename_i a0_0 a0_1 a0_2 a0_3 a0_4 a0_5 a1_0 a1_1
    simp only [Option.some.injEq, Prod.mk.injEq, true_and] at h
    obtain ⟨rfl, rfl⟩ := h
    refine ⟨?_, by simp [okV, Nat.blt], clo_spec 8 _ (by kernel_rfl), told_blk (by kernel_rfl)⟩
    refine (direction_Scale.run interval_Valid direction_Valid direction_calc_mul direction_calc_box a0_0 a0_1 a0_2 a0_3 a0_4 a0_5 a1_0 a1_1).trans ?_
    refine (direction_Scale.nat interval_Valid direction_Valid direction_calc_mul direction_calc_box a0_0 a0_1 a0_2 a0_3 a0_4 a0_5 a1_0 a1_1 _).trans ?_
    kernel_rfl
  · cases h

end Go.Proofs.Ytphlckkbihmlnaa.G
