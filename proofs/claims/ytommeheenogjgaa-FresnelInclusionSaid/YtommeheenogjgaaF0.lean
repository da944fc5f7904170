/- The functions, their runs and their contracts. WRITTEN BY gen.py of this repo. -/
import Derived.Test.YtommeheenogjgaaS
import Derived.Test.YtommeheenogjgaaM
import Derived.Test.YtommeheenogjgaaIv
import Derived.Test.YtommeheenogjgaaFr
import Derived.Test.YtommeheenogjgaaExt
namespace Go.Proofs.Ytommeheenogjgaa.G
open Go Go.Proofs Go.RowKit RX
set_option linter.unusedVariables false
set_option linter.unusedSimpArgs false
/-! ### culet/interval.Valid (42) -/
def interval_Valid.K {R : Type} (a0_0 : Int) (a0_1 : Int) (k : (Bool) → R) : R :=
  bif decide (a0_0 ≤ a0_1) then
    bif decide (a0_0 ≥ -1073741824) then
      k (decide (a0_1 ≤ 1073741824))
    else
      k (false)
  else
    k (false)
set_option maxRecDepth 100000 in
theorem interval_Valid.run (a0_0 : Int) (a0_1 : Int) : xfn Try.prog ⟨[], []⟩ 40 Try.f42 [.agg ⟨[.int .i64 a0_0, .int .i64 a0_1]⟩] [] = interval_Valid.K a0_0 a0_1 (fun r => some (.bool r, [])) := by kernel_rfl
def interval_Valid (a0_0 : Int) (a0_1 : Int) : Bool := interval_Valid.K a0_0 a0_1 id
theorem interval_Valid.nat {R : Type} (a0_0 : Int) (a0_1 : Int) (k : (Bool) → R) : interval_Valid.K a0_0 a0_1 k = k (interval_Valid.K a0_0 a0_1 id) := by
  simp only [interval_Valid.K, acond k, id_eq]
theorem interval_Valid.eq (a b : Int) : interval_Valid a b = V a b := by
  simp only [interval_Valid, interval_Valid.K, id_eq, V]
  by_cases h1 : a ≤ b <;> by_cases h2 : a ≥ -1073741824 <;> by_cases h3 : b ≤ 1073741824 <;> simp [h1, h2, h3] <;> omega
theorem interval_Valid.ok : SOK Try.prog 42 (interval_Valid.sp interval_Valid) := by
  refine sok_of (E := ⟨[], []⟩) ⟨specs_nil, inl_nil, mixed_ok⟩ 40 Try.func42 (by decide) rfl fun vs bl v bl' h => ?_
  unfold interval_Valid.sp at h
  split at h
  · rename_i a0_0 a0_1
    simp only [Option.some.injEq, Prod.mk.injEq, true_and] at h
    obtain ⟨rfl, rfl⟩ := h
    refine ⟨?_, by simp [okV, Nat.blt], clo_spec 8 _ (by kernel_rfl), told_blk (by kernel_rfl)⟩
    refine (interval_Valid.run a0_0 a0_1).trans ?_
    refine (interval_Valid.nat a0_0 a0_1 _).trans ?_
    kernel_rfl
  · cases h

/-! ### culet/fresnel.within (28) -/
def fresnel_within.K {R : Type} (f_interval_Valid : Int → Int → (Bool)) (a0_0 : Int) (a0_1 : Int) (a1 : Int) (a2 : Int) (k : (Bool) → R) : R :=
  let t0 := f_interval_Valid a0_0 a0_1
  bif t0 then
    bif decide (a0_0 ≥ IntKind.i64.wrap (a1 * 16777216)) then
      k (decide (a0_1 ≤ IntKind.i64.wrap (a2 * 16777216)))
    else
      k (false)
  else
    k (false)
set_option maxRecDepth 100000 in
theorem fresnel_within.run (f_interval_Valid : Int → Int → (Bool)) (a0_0 : Int) (a0_1 : Int) (a1 : Int) (a2 : Int) : xfn Try.prog ⟨[(42, interval_Valid.sp f_interval_Valid)], []⟩ 40 Try.f28 [.agg ⟨[.int .i64 a0_0, .int .i64 a0_1]⟩, .int .i64 a1, .int .i64 a2] [] = fresnel_within.K f_interval_Valid a0_0 a0_1 a1 a2 (fun r => some (.bool r, [])) := by kernel_rfl
def fresnel_within (a0_0 : Int) (a0_1 : Int) (a1 : Int) (a2 : Int) : Bool := fresnel_within.K interval_Valid a0_0 a0_1 a1 a2 id
theorem fresnel_within.nat {R : Type} (f_interval_Valid : Int → Int → (Bool)) (a0_0 : Int) (a0_1 : Int) (a1 : Int) (a2 : Int) (k : (Bool) → R) : fresnel_within.K f_interval_Valid a0_0 a0_1 a1 a2 k = k (fresnel_within.K f_interval_Valid a0_0 a0_1 a1 a2 id) := by
  simp only [fresnel_within.K, acond k, id_eq]
theorem fresnel_within.eq {a b k l : Int} (hk : 0 ≤ k) (hk' : k ≤ 4) (hl : 0 ≤ l) (hl' : l ≤ 4) : fresnel_within a b k l = wn a b k l := by
  simp only [fresnel_within, fresnel_within.K, id_eq, interval_Valid.eq, wn]
  rw [w64 (by omega) (by omega), w64 (by omega) (by omega)]
  cases V a b <;> by_cases h : a ≥ k * 16777216 <;> simp [h]
theorem fresnel_within.ok : SOK Try.prog 28 (fresnel_within.sp fresnel_within) := by
  refine sok_of (E := ⟨[(42, interval_Valid.sp interval_Valid)], []⟩) ⟨(specs_cons interval_Valid.ok specs_nil), inl_nil, mixed_ok⟩ 40 Try.func28 (by decide) rfl fun vs bl v bl' h => ?_
  unfold fresnel_within.sp at h
  split at h
  · rename_i a0_0 a0_1 a1 a2
    simp only [Option.some.injEq, Prod.mk.injEq, true_and] at h
    obtain ⟨rfl, rfl⟩ := h
    refine ⟨?_, by simp [okV, Nat.blt], clo_spec 8 _ (by kernel_rfl), told_blk (by kernel_rfl)⟩
    refine (fresnel_within.run interval_Valid a0_0 a0_1 a1 a2).trans ?_
    refine (fresnel_within.nat interval_Valid a0_0 a0_1 a1 a2 _).trans ?_
    kernel_rfl
  · cases h

/-! ### culet/interval.made (50) -/
def interval_made.K {R : Type} (a0 : Int) (a1 : Int) (k : Int × Int × Int → R) : R :=
  bif decide (a0 < -1073741824) then
    k (0, 0, 3)
  else
    bif decide (a1 > 1073741824) then
      k (0, 0, 3)
    else
      k (a0, a1, 0)
set_option maxRecDepth 100000 in
theorem interval_made.run (a0 : Int) (a1 : Int) : xfn Try.prog ⟨[], []⟩ 40 Try.f50 [.int .i64 a0, .int .i64 a1] [] = interval_made.K a0 a1 (fun r => some (.tuple ⟨[.agg ⟨[.int .i64 r.1, .int .i64 r.2.1]⟩, .int .i64 r.2.2]⟩, [])) := by kernel_rfl
def interval_made (a0 : Int) (a1 : Int) : Int × Int × Int := interval_made.K a0 a1 id
theorem interval_made.nat {R : Type} (a0 : Int) (a1 : Int) (k : Int × Int × Int → R) : interval_made.K a0 a1 k = k (interval_made.K a0 a1 id) := by
  simp only [interval_made.K, acond k, id_eq]
theorem interval_made.eq {a b : Int} (h : a ≤ b) : interval_made a b = chk a b := by
  simp only [interval_made, interval_made.K, id_eq, chk]
  by_cases h1 : a < -1073741824
  · rw [V_not.2 (by omega)]; simp [h1]
  · by_cases h2 : b > 1073741824
    · rw [V_not.2 (by omega)]; simp [h1, h2]
    · rw [V_iff.2 ⟨by omega, h, by omega⟩]; simp [h1, h2]
theorem interval_made.ok : SOK Try.prog 50 (interval_made.sp interval_made) := by
  refine sok_of (E := ⟨[], []⟩) ⟨specs_nil, inl_nil, mixed_ok⟩ 40 Try.func50 (by decide) rfl fun vs bl v bl' h => ?_
  unfold interval_made.sp at h
  split at h
  · rename_i a0 a1
    simp only [Option.some.injEq, Prod.mk.injEq, true_and] at h
    obtain ⟨rfl, rfl⟩ := h
    refine ⟨?_, by simp [okV, Nat.blt], clo_spec 8 _ (by kernel_rfl), told_blk (by kernel_rfl)⟩
    refine (interval_made.run a0 a1).trans ?_
    refine (interval_made.nat a0 a1 _).trans ?_
    kernel_rfl
  · cases h

/-! ### culet/interval.Add (33) -/
def interval_Add.K {R : Type} (f_interval_Valid : Int → Int → (Bool)) (f_interval_made : Int → Int → (Int × Int × Int)) (a0_0 : Int) (a0_1 : Int) (a1_0 : Int) (a1_1 : Int) (k : Int × Int × Int → R) : R :=
  let t0 := f_interval_Valid a0_0 a0_1
  bif !t0 then
    k (0, 0, 1)
  else
    let t1 := f_interval_Valid a1_0 a1_1
    bif !t1 then
      k (0, 0, 1)
    else
      let t2 := f_interval_made (IntKind.i64.wrap (a0_0 + a1_0)) (IntKind.i64.wrap (a0_1 + a1_1))
      k (t2.fst, t2.snd.fst, t2.snd.snd)
set_option maxRecDepth 100000 in
theorem interval_Add.run (f_interval_Valid : Int → Int → (Bool)) (f_interval_made : Int → Int → (Int × Int × Int)) (a0_0 : Int) (a0_1 : Int) (a1_0 : Int) (a1_1 : Int) : xfn Try.prog ⟨[(42, interval_Valid.sp f_interval_Valid), (50, interval_made.sp f_interval_made)], [(49, Try.f49)]⟩ 40 Try.f33 [.agg ⟨[.int .i64 a0_0, .int .i64 a0_1]⟩, .agg ⟨[.int .i64 a1_0, .int .i64 a1_1]⟩] [] = interval_Add.K f_interval_Valid f_interval_made a0_0 a0_1 a1_0 a1_1 (fun r => some (.tuple ⟨[.agg ⟨[.int .i64 r.1, .int .i64 r.2.1]⟩, .int .i64 r.2.2]⟩, [])) := by kernel_rfl
def interval_Add (a0_0 : Int) (a0_1 : Int) (a1_0 : Int) (a1_1 : Int) : Int × Int × Int := interval_Add.K interval_Valid interval_made a0_0 a0_1 a1_0 a1_1 id
theorem interval_Add.nat {R : Type} (f_interval_Valid : Int → Int → (Bool)) (f_interval_made : Int → Int → (Int × Int × Int)) (a0_0 : Int) (a0_1 : Int) (a1_0 : Int) (a1_1 : Int) (k : Int × Int × Int → R) : interval_Add.K f_interval_Valid f_interval_made a0_0 a0_1 a1_0 a1_1 k = k (interval_Add.K f_interval_Valid f_interval_made a0_0 a0_1 a1_0 a1_1 id) := by
  simp only [interval_Add.K, acond k, id_eq]
theorem interval_Add.eq (a b c d : Int) : interval_Add a b c d = iadd a b c d := by
  simp only [interval_Add, interval_Add.K, id_eq, interval_Valid.eq, iadd]
  cases h1 : V a b with
  | false => simp
  | true => cases h2 : V c d with
    | false => simp
    | true =>
      have := V_iff.1 h1
      have := V_iff.1 h2
      rw [w64 (by omega) (by omega), w64 (by omega) (by omega), interval_made.eq (by omega)]
      simp
theorem interval_Add.ok : SOK Try.prog 33 (interval_Add.sp interval_Add) := by
  refine sok_of (E := ⟨[(42, interval_Valid.sp interval_Valid), (50, interval_made.sp interval_made)], [(49, Try.f49)]⟩) ⟨(specs_cons interval_Valid.ok (specs_cons interval_made.ok specs_nil)), (inl_cons ⟨Try.func49, by decide, rfl⟩ inl_nil), mixed_ok⟩ 40 Try.func33 (by decide) rfl fun vs bl v bl' h => ?_
  unfold interval_Add.sp at h
  split at h
  · rename_i a0_0 a0_1 a1_0 a1_1
    simp only [Option.some.injEq, Prod.mk.injEq, true_and] at h
    obtain ⟨rfl, rfl⟩ := h
    refine ⟨?_, by simp [okV, Nat.blt], clo_spec 8 _ (by kernel_rfl), told_blk (by kernel_rfl)⟩
    refine (interval_Add.run interval_Valid interval_made a0_0 a0_1 a1_0 a1_1).trans ?_
    refine (interval_Add.nat interval_Valid interval_made a0_0 a0_1 a1_0 a1_1 _).trans ?_
    kernel_rfl
  · cases h

/-! ### culet/fresnel.cut (35) -/
def fresnel_cut.K {R : Type} (a0_0 : Int) (a0_1 : Int) (k : Int × Int → R) : R :=
  k (if (if a0_0 < 16777216 then a0_0 else 16777216) > 0 then if a0_0 < 16777216 then a0_0 else 16777216 else 0, if (if a0_1 < 16777216 then a0_1 else 16777216) > 0 then if a0_1 < 16777216 then a0_1 else 16777216 else 0)
set_option maxRecDepth 100000 in
theorem fresnel_cut.run (a0_0 : Int) (a0_1 : Int) : xfn Try.prog ⟨[], [(54, Try.f54)]⟩ 40 Try.f35 [.agg ⟨[.int .i64 a0_0, .int .i64 a0_1]⟩] [] = fresnel_cut.K a0_0 a0_1 (fun r => some (.agg ⟨[.int .i64 r.1, .int .i64 r.2]⟩, [])) := by kernel_rfl
def fresnel_cut (a0_0 : Int) (a0_1 : Int) : Int × Int := fresnel_cut.K a0_0 a0_1 id
theorem fresnel_cut.nat {R : Type} (a0_0 : Int) (a0_1 : Int) (k : Int × Int → R) : fresnel_cut.K a0_0 a0_1 k = k (fresnel_cut.K a0_0 a0_1 id) := by
  simp only [fresnel_cut.K, acond k, id_eq]
theorem fresnel_cut.eq (a b : Int) : fresnel_cut a b = (cut a, cut b) := by
  have e : ∀ x : Int, (if (if x < 16777216 then x else 16777216) > 0 then if x < 16777216 then x else 16777216 else 0) = cut x := fun x => by
    unfold cut
    split <;> split <;> omega
  simp only [fresnel_cut, fresnel_cut.K, id_eq, e]
theorem fresnel_cut.ok : SOK Try.prog 35 (fresnel_cut.sp fresnel_cut) := by
  refine sok_of (E := ⟨[], [(54, Try.f54)]⟩) ⟨specs_nil, (inl_cons ⟨Try.func54, by decide, rfl⟩ inl_nil), mixed_ok⟩ 40 Try.func35 (by decide) rfl fun vs bl v bl' h => ?_
  unfold fresnel_cut.sp at h
  split at h
  · rename_i a0_0 a0_1
    simp only [Option.some.injEq, Prod.mk.injEq, true_and] at h
    obtain ⟨rfl, rfl⟩ := h
    refine ⟨?_, by simp [okV, Nat.blt], clo_spec 8 _ (by kernel_rfl), told_blk (by kernel_rfl)⟩
    refine (fresnel_cut.run a0_0 a0_1).trans ?_
    refine (fresnel_cut.nat a0_0 a0_1 _).trans ?_
    kernel_rfl
  · cases h

/-! ### culet/interval.Sub (39) -/
def interval_Sub.K {R : Type} (f_interval_Valid : Int → Int → (Bool)) (f_interval_made : Int → Int → (Int × Int × Int)) (a0_0 : Int) (a0_1 : Int) (a1_0 : Int) (a1_1 : Int) (k : Int × Int × Int → R) : R :=
  let t0 := f_interval_Valid a0_0 a0_1
  bif !t0 then
    k (0, 0, 1)
  else
    let t1 := f_interval_Valid a1_0 a1_1
    bif !t1 then
      k (0, 0, 1)
    else
      let t2 := f_interval_made (IntKind.i64.wrap (a0_0 - a1_1)) (IntKind.i64.wrap (a0_1 - a1_0))
      k (t2.fst, t2.snd.fst, t2.snd.snd)
set_option maxRecDepth 100000 in
theorem interval_Sub.run (f_interval_Valid : Int → Int → (Bool)) (f_interval_made : Int → Int → (Int × Int × Int)) (a0_0 : Int) (a0_1 : Int) (a1_0 : Int) (a1_1 : Int) : xfn Try.prog ⟨[(42, interval_Valid.sp f_interval_Valid), (50, interval_made.sp f_interval_made)], [(49, Try.f49)]⟩ 40 Try.f39 [.agg ⟨[.int .i64 a0_0, .int .i64 a0_1]⟩, .agg ⟨[.int .i64 a1_0, .int .i64 a1_1]⟩] [] = interval_Sub.K f_interval_Valid f_interval_made a0_0 a0_1 a1_0 a1_1 (fun r => some (.tuple ⟨[.agg ⟨[.int .i64 r.1, .int .i64 r.2.1]⟩, .int .i64 r.2.2]⟩, [])) := by kernel_rfl
def interval_Sub (a0_0 : Int) (a0_1 : Int) (a1_0 : Int) (a1_1 : Int) : Int × Int × Int := interval_Sub.K interval_Valid interval_made a0_0 a0_1 a1_0 a1_1 id
theorem interval_Sub.nat {R : Type} (f_interval_Valid : Int → Int → (Bool)) (f_interval_made : Int → Int → (Int × Int × Int)) (a0_0 : Int) (a0_1 : Int) (a1_0 : Int) (a1_1 : Int) (k : Int × Int × Int → R) : interval_Sub.K f_interval_Valid f_interval_made a0_0 a0_1 a1_0 a1_1 k = k (interval_Sub.K f_interval_Valid f_interval_made a0_0 a0_1 a1_0 a1_1 id) := by
  simp only [interval_Sub.K, acond k, id_eq]
theorem interval_Sub.eq (a b c d : Int) : interval_Sub a b c d = isub a b c d := by
  simp only [interval_Sub, interval_Sub.K, id_eq, interval_Valid.eq, isub]
  cases h1 : V a b with
  | false => simp
  | true => cases h2 : V c d with
    | false => simp
    | true =>
      have := V_iff.1 h1
      have := V_iff.1 h2
      rw [w64 (by omega) (by omega), w64 (by omega) (by omega), interval_made.eq (by omega)]
      simp
theorem interval_Sub.ok : SOK Try.prog 39 (interval_Sub.sp interval_Sub) := by
  refine sok_of (E := ⟨[(42, interval_Valid.sp interval_Valid), (50, interval_made.sp interval_made)], [(49, Try.f49)]⟩) ⟨(specs_cons interval_Valid.ok (specs_cons interval_made.ok specs_nil)), (inl_cons ⟨Try.func49, by decide, rfl⟩ inl_nil), mixed_ok⟩ 40 Try.func39 (by decide) rfl fun vs bl v bl' h => ?_
  unfold interval_Sub.sp at h
  split at h
  · rename_i a0_0 a0_1 a1_0 a1_1
    simp only [Option.some.injEq, Prod.mk.injEq, true_and] at h
    obtain ⟨rfl, rfl⟩ := h
    refine ⟨?_, by simp [okV, Nat.blt], clo_spec 8 _ (by kernel_rfl), told_blk (by kernel_rfl)⟩
    refine (interval_Sub.run interval_Valid interval_made a0_0 a0_1 a1_0 a1_1).trans ?_
    refine (interval_Sub.nat interval_Valid interval_made a0_0 a0_1 a1_0 a1_1 _).trans ?_
    kernel_rfl
  · cases h

/-! ### culet/interval.floor (52) -/
def interval_floor.K {R : Type} (a0 : Int) (a1 : Int) (k : (Int) → Option R) : Option R :=
  bif a1 != 0 then
    bif a1 != 0 then
      bif a0.tmod a1 != 0 then
        bif decide (a0 < 0) then
          k (IntKind.i64.wrap (IntKind.i64.wrap (a0.tdiv a1) - 1))
        else
          k (IntKind.i64.wrap (a0.tdiv a1))
      else
        k (IntKind.i64.wrap (a0.tdiv a1))
    else
      none
  else
    none
set_option maxRecDepth 100000 in
theorem interval_floor.run (a0 : Int) (a1 : Int) : xfn Try.prog ⟨[], []⟩ 40 Try.f52 [.int .i64 a0, .int .i64 a1] [] = interval_floor.K a0 a1 (fun r => some (.int .i64 r, [])) := by kernel_rfl
def interval_floor.o (a0 : Int) (a1 : Int) : Option (Int) := interval_floor.K a0 a1 some
def interval_floor.pre (a0 : Int) (a1 : Int) : Bool := (interval_floor.o a0 a1).isSome
def interval_floor (a0 : Int) (a1 : Int) : Int := (interval_floor.o a0 a1).getD default
theorem interval_floor.nat {R : Type} (a0 : Int) (a1 : Int) (k : (Int) → Option R) : interval_floor.K a0 a1 k = (interval_floor.K a0 a1 some).bind k := by
  simp only [interval_floor.K, bcond, Option.bind_some, Option.bind_none]
theorem interval_floor.eq {a b : Int} (hb : 0 < b) (h1 : -4611686018427387904 ≤ a) (h2 : a ≤ 4611686018427387904) : interval_floor a b = a / b := by
  have hb0 : (b != 0) = true := by simp; omega
  have hq := tdiv_bnd hb h1 h2
  simp only [interval_floor, interval_floor.o, interval_floor.K, hb0, cond_true]
  have hd : a.tdiv b = a / b + if 0 ≤ a ∨ b ∣ a then 0 else b.sign := Int.tdiv_eq_ediv
  rw [Int.sign_eq_one_of_pos hb] at hd
  by_cases hm : a.tmod b = 0
  · have hv : b ∣ a := Int.dvd_of_tmod_eq_zero hm
    simp only [hv, or_true, if_true, Int.add_zero] at hd
    simp only [hm, bne_self_eq_false, cond_false, Option.getD_some, hd]
    exact w64 (by omega) (by omega)
  · have hv : ¬ b ∣ a := fun h => hm (Int.tmod_eq_zero_of_dvd h)
    have hm' : (a.tmod b != 0) = true := by simp [hm]
    simp only [hm', cond_true]
    by_cases ha : a < 0
    · simp only [hv, or_false, show ¬ 0 ≤ a from by omega, if_false] at hd
      simp only [ha, decide_true, cond_true, Option.getD_some, hd]
      rw [w64 (n := a / b + 1) (by omega) (by omega), Int.add_sub_cancel, w64 (by omega) (by omega)]
    · simp only [show 0 ≤ a from by omega, true_or, if_true, Int.add_zero] at hd
      simp only [ha, decide_false, cond_false, Option.getD_some, hd]
      exact w64 (by omega) (by omega)
theorem interval_floor.ok : SOK Try.prog 52 (interval_floor.sp interval_floor) := by
  refine sok_of (E := ⟨[], []⟩) ⟨specs_nil, inl_nil, mixed_ok⟩ 40 Try.func52 (by decide) rfl fun vs bl v bl' h => ?_
  unfold interval_floor.sp at h
  split at h
  · rename_i a0 a1
    simp only [Option.some.injEq, Prod.mk.injEq] at h
    obtain ⟨hp, rfl, rfl⟩ := h
    have hr := interval_floor.run a0 a1
    rw [interval_floor.nat] at hr
    obtain ⟨r, h2⟩ := Option.isSome_iff_exists.1 (by simp [interval_floor.o, interval_floor.K, isSome_cond, bool_cond_true, hp] : (interval_floor.o a0 a1).isSome = true)
    have h3 : interval_floor a0 a1 = r := by unfold interval_floor; rw [h2]; rfl
    have h4 : interval_floor.K a0 a1 some = some r := h2
    rw [h4, Option.bind_some] at hr
    rw [h3]
    exact ⟨hr, by simp [okV, Nat.blt], clo_spec 8 _ (by kernel_rfl), told_blk (by kernel_rfl)⟩
  · cases h

/-! ### culet/interval.ceil (53) -/
def interval_ceil.K {R : Type} (f_interval_floor : Int → Int → (Int)) (a0 : Int) (a1 : Int) (k : (Int) → Option R) : Option R :=
  bif a1 != 0 then
    let t0 := f_interval_floor (IntKind.i64.wrap (0 - a0)) a1
    k (IntKind.i64.wrap (0 - t0))
  else
    none
set_option maxRecDepth 100000 in
theorem interval_ceil.run (f_interval_floor : Int → Int → (Int)) (a0 : Int) (a1 : Int) : xfn Try.prog ⟨[(52, interval_floor.sp f_interval_floor)], []⟩ 40 Try.f53 [.int .i64 a0, .int .i64 a1] [] = interval_ceil.K f_interval_floor a0 a1 (fun r => some (.int .i64 r, [])) := by kernel_rfl
def interval_ceil.o (a0 : Int) (a1 : Int) : Option (Int) := interval_ceil.K interval_floor a0 a1 some
def interval_ceil.pre (a0 : Int) (a1 : Int) : Bool := (interval_ceil.o a0 a1).isSome
def interval_ceil (a0 : Int) (a1 : Int) : Int := (interval_ceil.o a0 a1).getD default
theorem interval_ceil.nat {R : Type} (f_interval_floor : Int → Int → (Int)) (a0 : Int) (a1 : Int) (k : (Int) → Option R) : interval_ceil.K f_interval_floor a0 a1 k = (interval_ceil.K f_interval_floor a0 a1 some).bind k := by
  simp only [interval_ceil.K, bcond, Option.bind_some, Option.bind_none]
theorem interval_ceil.eq {a b : Int} (hb : 0 < b) (h1 : -4611686018427387904 ≤ a) (h2 : a ≤ 4611686018427387904) : interval_ceil a b = cl a b := by
  have hb0 : (b != 0) = true := by simp; omega
  have hq := tdiv_bnd (a := -a) hb (by omega) (by omega)
  simp only [interval_ceil, interval_ceil.o, interval_ceil.K, hb0, cond_true, Option.getD_some, Int.zero_sub]
  rw [w64 (n := -a) (by omega) (by omega), interval_floor.eq hb (by omega) (by omega), w64 (by omega) (by omega)]
  rfl
theorem interval_ceil.ok : SOK Try.prog 53 (interval_ceil.sp interval_ceil) := by
  refine sok_of (E := ⟨[(52, interval_floor.sp interval_floor)], []⟩) ⟨(specs_cons interval_floor.ok specs_nil), inl_nil, mixed_ok⟩ 40 Try.func53 (by decide) rfl fun vs bl v bl' h => ?_
  unfold interval_ceil.sp at h
  split at h
  · rename_i a0 a1
    simp only [Option.some.injEq, Prod.mk.injEq] at h
    obtain ⟨hp, rfl, rfl⟩ := h
    have hr := interval_ceil.run interval_floor a0 a1
    rw [interval_ceil.nat] at hr
    obtain ⟨r, h2⟩ := Option.isSome_iff_exists.1 (by simp [interval_ceil.o, interval_ceil.K, isSome_cond, bool_cond_true, hp] : (interval_ceil.o a0 a1).isSome = true)
    have h3 : interval_ceil a0 a1 = r := by unfold interval_ceil; rw [h2]; rfl
    have h4 : interval_ceil.K interval_floor a0 a1 some = some r := h2
    rw [h4, Option.bind_some] at hr
    rw [h3]
    exact ⟨hr, by simp [okV, Nat.blt], clo_spec 8 _ (by kernel_rfl), told_blk (by kernel_rfl)⟩
  · cases h

/-! ### culet/interval.Div (43) -/
def interval_Div.K {R : Type} (f_interval_Valid : Int → Int → (Bool)) (f_interval_made : Int → Int → (Int × Int × Int)) (f_interval_floor : Int → Int → (Int)) (f_interval_ceil : Int → Int → (Int)) (a0_0 : Int) (a0_1 : Int) (a1_0 : Int) (a1_1 : Int) (k : Int × Int × Int → Option R) : Option R :=
  let t0 := f_interval_Valid a0_0 a0_1
  bif !t0 then
    k (0, 0, 1)
  else
    let t1 := f_interval_Valid a1_0 a1_1
    bif !t1 then
      k (0, 0, 1)
    else
      bif decide (a1_0 ≤ 0) then
        bif decide (a1_1 ≥ 0) then
          k (0, 0, 10)
        else
          bif decide (a1_1 < 0) then
            bif IntKind.i64.wrap (0 - a1_1) != 0 then
              bif IntKind.i64.wrap (0 - a1_0) != 0 then
                bif IntKind.i64.wrap (0 - a1_1) != 0 then
                  bif IntKind.i64.wrap (0 - a1_0) != 0 then
                    let t2 := f_interval_floor (IntKind.i64.wrap (IntKind.i64.wrap (0 - a0_1) * 16777216)) (IntKind.i64.wrap (0 - a1_1))
                    let t3 := f_interval_floor (IntKind.i64.wrap (IntKind.i64.wrap (0 - a0_1) * 16777216)) (IntKind.i64.wrap (0 - a1_0))
                    let t4 := f_interval_ceil (IntKind.i64.wrap (IntKind.i64.wrap (0 - a0_0) * 16777216)) (IntKind.i64.wrap (0 - a1_1))
                    let t5 := f_interval_ceil (IntKind.i64.wrap (IntKind.i64.wrap (0 - a0_0) * 16777216)) (IntKind.i64.wrap (0 - a1_0))
                    let t6 := f_interval_made (mn (mn t2 t2) t3) (mx (mx t4 t4) t5)
                    k (t6.fst, t6.snd.fst, t6.snd.snd)
                  else
                    none
                else
                  none
              else
                none
            else
              none
          else
            bif a1_0 != 0 then
              bif a1_1 != 0 then
                bif a1_0 != 0 then
                  bif a1_1 != 0 then
                    let t7 := f_interval_floor (IntKind.i64.wrap (a0_0 * 16777216)) a1_0
                    let t8 := f_interval_floor (IntKind.i64.wrap (a0_0 * 16777216)) a1_1
                    let t9 := f_interval_ceil (IntKind.i64.wrap (a0_1 * 16777216)) a1_0
                    let t10 := f_interval_ceil (IntKind.i64.wrap (a0_1 * 16777216)) a1_1
                    let t11 := f_interval_made (mn (mn t7 t7) t8) (mx (mx t9 t9) t10)
                    k (t11.fst, t11.snd.fst, t11.snd.snd)
                  else
                    none
                else
                  none
              else
                none
            else
              none
      else
        bif decide (a1_1 < 0) then
          bif IntKind.i64.wrap (0 - a1_1) != 0 then
            bif IntKind.i64.wrap (0 - a1_0) != 0 then
              bif IntKind.i64.wrap (0 - a1_1) != 0 then
                bif IntKind.i64.wrap (0 - a1_0) != 0 then
                  let t12 := f_interval_floor (IntKind.i64.wrap (IntKind.i64.wrap (0 - a0_1) * 16777216)) (IntKind.i64.wrap (0 - a1_1))
                  let t13 := f_interval_floor (IntKind.i64.wrap (IntKind.i64.wrap (0 - a0_1) * 16777216)) (IntKind.i64.wrap (0 - a1_0))
                  let t14 := f_interval_ceil (IntKind.i64.wrap (IntKind.i64.wrap (0 - a0_0) * 16777216)) (IntKind.i64.wrap (0 - a1_1))
                  let t15 := f_interval_ceil (IntKind.i64.wrap (IntKind.i64.wrap (0 - a0_0) * 16777216)) (IntKind.i64.wrap (0 - a1_0))
                  let t16 := f_interval_made (mn (mn t12 t12) t13) (mx (mx t14 t14) t15)
                  k (t16.fst, t16.snd.fst, t16.snd.snd)
                else
                  none
              else
                none
            else
              none
          else
            none
        else
          bif a1_0 != 0 then
            bif a1_1 != 0 then
              bif a1_0 != 0 then
                bif a1_1 != 0 then
                  let t17 := f_interval_floor (IntKind.i64.wrap (a0_0 * 16777216)) a1_0
                  let t18 := f_interval_floor (IntKind.i64.wrap (a0_0 * 16777216)) a1_1
                  let t19 := f_interval_ceil (IntKind.i64.wrap (a0_1 * 16777216)) a1_0
                  let t20 := f_interval_ceil (IntKind.i64.wrap (a0_1 * 16777216)) a1_1
                  let t21 := f_interval_made (mn (mn t17 t17) t18) (mx (mx t19 t19) t20)
                  k (t21.fst, t21.snd.fst, t21.snd.snd)
                else
                  none
              else
                none
            else
              none
          else
            none
set_option maxRecDepth 100000 in
theorem interval_Div.run (f_interval_Valid : Int → Int → (Bool)) (f_interval_made : Int → Int → (Int × Int × Int)) (f_interval_floor : Int → Int → (Int)) (f_interval_ceil : Int → Int → (Int)) (a0_0 : Int) (a0_1 : Int) (a1_0 : Int) (a1_1 : Int) : xfn Try.prog ⟨[(42, interval_Valid.sp f_interval_Valid), (50, interval_made.sp f_interval_made), (51, interval_extremes.sp), (52, interval_floor.sp f_interval_floor), (53, interval_ceil.sp f_interval_ceil)], [(49, Try.f49)]⟩ 40 Try.f43 [.agg ⟨[.int .i64 a0_0, .int .i64 a0_1]⟩, .agg ⟨[.int .i64 a1_0, .int .i64 a1_1]⟩] [] = interval_Div.K f_interval_Valid f_interval_made f_interval_floor f_interval_ceil a0_0 a0_1 a1_0 a1_1 (fun r => some (.tuple ⟨[.agg ⟨[.int .i64 r.1, .int .i64 r.2.1]⟩, .int .i64 r.2.2]⟩, [])) := by kernel_rfl
def interval_Div.o (a0_0 : Int) (a0_1 : Int) (a1_0 : Int) (a1_1 : Int) : Option (Int × Int × Int) := interval_Div.K interval_Valid interval_made interval_floor interval_ceil a0_0 a0_1 a1_0 a1_1 some
def interval_Div.pre (a0_0 : Int) (a0_1 : Int) (a1_0 : Int) (a1_1 : Int) : Bool := (interval_Div.o a0_0 a0_1 a1_0 a1_1).isSome
def interval_Div (a0_0 : Int) (a0_1 : Int) (a1_0 : Int) (a1_1 : Int) : Int × Int × Int := (interval_Div.o a0_0 a0_1 a1_0 a1_1).getD default
theorem interval_Div.nat {R : Type} (f_interval_Valid : Int → Int → (Bool)) (f_interval_made : Int → Int → (Int × Int × Int)) (f_interval_floor : Int → Int → (Int)) (f_interval_ceil : Int → Int → (Int)) (a0_0 : Int) (a0_1 : Int) (a1_0 : Int) (a1_1 : Int) (k : Int × Int × Int → Option R) : interval_Div.K f_interval_Valid f_interval_made f_interval_floor f_interval_ceil a0_0 a0_1 a1_0 a1_1 k = (interval_Div.K f_interval_Valid f_interval_made f_interval_floor f_interval_ceil a0_0 a0_1 a1_0 a1_1 some).bind k := by
  simp only [interval_Div.K, bcond, Option.bind_some, Option.bind_none]
theorem interval_Div.o_eq (a b c d : Int) : interval_Div.o a b c d = some (idiv a b c d) := by
  simp only [interval_Div.o, interval_Div.K, interval_Valid.eq, idiv]
  cases h1 : V a b with
  | false => simp
  | true => cases h2 : V c d with
    | false => simp
    | true =>
      have := V_iff.1 h1
      have := V_iff.1 h2
      have w1 : IntKind.i64.wrap (0 - a) = -a := by rw [Int.zero_sub]; exact w64 (by omega) (by omega)
      have w2 : IntKind.i64.wrap (0 - b) = -b := by rw [Int.zero_sub]; exact w64 (by omega) (by omega)
      have w3 : IntKind.i64.wrap (0 - c) = -c := by rw [Int.zero_sub]; exact w64 (by omega) (by omega)
      have w4 : IntKind.i64.wrap (0 - d) = -d := by rw [Int.zero_sub]; exact w64 (by omega) (by omega)
      have w5 : IntKind.i64.wrap (a * 16777216) = a * 16777216 := w64 (by omega) (by omega)
      have w6 : IntKind.i64.wrap (b * 16777216) = b * 16777216 := w64 (by omega) (by omega)
      have w7 : IntKind.i64.wrap (-a * 16777216) = -a * 16777216 := w64 (by omega) (by omega)
      have w8 : IntKind.i64.wrap (-b * 16777216) = -b * 16777216 := w64 (by omega) (by omega)
      simp only [w1, w2, w3, w4, w5, w6, w7, w8, mn_eq, mx_eq, Bool.not_true, cond_false, cond_true, Bool.and_self]
      have pos : ∀ x y u v : Int, -1073741824 ≤ x → x ≤ y → y ≤ 1073741824 → 0 < u → u ≤ v → v ≤ 1073741824 → interval_made (min (min (interval_floor (x * 16777216) u) (interval_floor (x * 16777216) u)) (interval_floor (x * 16777216) v)) (max (max (interval_ceil (y * 16777216) u) (interval_ceil (y * 16777216) u)) (interval_ceil (y * 16777216) v)) = pdiv x y u v := fun x y u v hx hxy hy hu huv hv => by
        have hv0 : 0 < v := by omega
        have f1 : interval_floor (x * 16777216) u = x * 16777216 / u := interval_floor.eq hu (by omega) (by omega)
        have f2 : interval_floor (x * 16777216) v = x * 16777216 / v := interval_floor.eq hv0 (by omega) (by omega)
        have f3 : interval_ceil (y * 16777216) u = cl (y * 16777216) u := interval_ceil.eq hu (by omega) (by omega)
        have f4 : interval_ceil (y * 16777216) v = cl (y * 16777216) v := interval_ceil.eq hv0 (by omega) (by omega)
        rw [f1, f2, f3, f4, Int.min_self, Int.max_self]
        have := fl_le_cl' (x := x * 16777216) (y := y * 16777216) hu (by omega)
        exact interval_made.eq (by omega)
      by_cases h3 : c ≤ 0
      · by_cases h4 : d ≥ 0
        · simp [h3, h4]
        · have h5 : d < 0 := by omega
          have n1 : ((-d) != 0) = true := by simp; omega
          have n2 : ((-c) != 0) = true := by simp; omega
          have n3 : ¬ (c ≤ 0 ∧ 0 ≤ d) := by omega
          rw [if_neg n3, if_pos h5]
          simp only [h3, h4, h5, n1, n2, decide_true, decide_false, cond_true, cond_false, pos (-b) (-a) (-d) (-c) (by omega) (by omega) (by omega) (by omega) (by omega) (by omega)]
      · have h5 : ¬ d < 0 := by omega
        have n1 : (c != 0) = true := by simp; omega
        have n2 : (d != 0) = true := by simp; omega
        have n3 : ¬ (c ≤ 0 ∧ 0 ≤ d) := by omega
        rw [if_neg n3, if_neg h5]
        simp only [h3, h5, n1, n2, decide_true, decide_false, cond_true, cond_false, pos a b c d (by omega) (by omega) (by omega) (by omega) (by omega) (by omega)]
theorem interval_Div.total (a b c d : Int) : (interval_Div.o a b c d).isSome = true := by rw [interval_Div.o_eq]; rfl
theorem interval_Div.eq (a b c d : Int) : interval_Div a b c d = idiv a b c d := by rw [interval_Div, interval_Div.o_eq]; rfl
theorem interval_Div.ok : SOK Try.prog 43 (interval_Div.sp interval_Div) := by
  refine sok_of (E := ⟨[(42, interval_Valid.sp interval_Valid), (50, interval_made.sp interval_made), (51, interval_extremes.sp), (52, interval_floor.sp interval_floor), (53, interval_ceil.sp interval_ceil)], [(49, Try.f49)]⟩) ⟨(specs_cons interval_Valid.ok (specs_cons interval_made.ok (specs_cons interval_extremes.ok (specs_cons interval_floor.ok (specs_cons interval_ceil.ok specs_nil))))), (inl_cons ⟨Try.func49, by decide, rfl⟩ inl_nil), mixed_ok⟩ 40 Try.func43 (by decide) rfl fun vs bl v bl' h => ?_
  unfold interval_Div.sp at h
  split at h
  · rename_i a0_0 a0_1 a1_0 a1_1
    simp only [Option.some.injEq, Prod.mk.injEq] at h
    obtain ⟨hp, rfl, rfl⟩ := h
    have hr := interval_Div.run interval_Valid interval_made interval_floor interval_ceil a0_0 a0_1 a1_0 a1_1
    rw [interval_Div.nat] at hr
    obtain ⟨r, h2⟩ := Option.isSome_iff_exists.1 (interval_Div.total a0_0 a0_1 a1_0 a1_1 : (interval_Div.o a0_0 a0_1 a1_0 a1_1).isSome = true)
    have h3 : interval_Div a0_0 a0_1 a1_0 a1_1 = r := by unfold interval_Div; rw [h2]; rfl
    have h4 : interval_Div.K interval_Valid interval_made interval_floor interval_ceil a0_0 a0_1 a1_0 a1_1 some = some r := h2
    rw [h4, Option.bind_some] at hr
    rw [h3]
    exact ⟨hr, by simp [okV, Nat.blt], clo_spec 8 _ (by kernel_rfl), told_blk (by kernel_rfl)⟩
  · cases h

/-! ### culet/interval.Square (44) -/
def interval_Square.K {R : Type} (f_interval_Valid : Int → Int → (Bool)) (f_interval_made : Int → Int → (Int × Int × Int)) (f_interval_floor : Int → Int → (Int)) (f_interval_ceil : Int → Int → (Int)) (a0_0 : Int) (a0_1 : Int) (k : Int × Int × Int → R) : R :=
  let t0 := f_interval_Valid a0_0 a0_1
  bif !t0 then
    k (0, 0, 1)
  else
    bif decide (a0_0 ≤ 0) then
      bif decide (a0_1 ≥ 0) then
        let t1 := f_interval_floor 0 16777216
        let t2 := f_interval_ceil (mx (mx (IntKind.i64.wrap (a0_0 * a0_0)) (IntKind.i64.wrap (a0_0 * a0_0))) (IntKind.i64.wrap (a0_1 * a0_1))) 16777216
        let t3 := f_interval_made t1 t2
        k (t3.fst, t3.snd.fst, t3.snd.snd)
      else
        let t4 := f_interval_floor (mn (mn (IntKind.i64.wrap (a0_0 * a0_0)) (IntKind.i64.wrap (a0_0 * a0_0))) (IntKind.i64.wrap (a0_1 * a0_1))) 16777216
        let t5 := f_interval_ceil (mx (mx (IntKind.i64.wrap (a0_0 * a0_0)) (IntKind.i64.wrap (a0_0 * a0_0))) (IntKind.i64.wrap (a0_1 * a0_1))) 16777216
        let t6 := f_interval_made t4 t5
        k (t6.fst, t6.snd.fst, t6.snd.snd)
    else
      let t7 := f_interval_floor (mn (mn (IntKind.i64.wrap (a0_0 * a0_0)) (IntKind.i64.wrap (a0_0 * a0_0))) (IntKind.i64.wrap (a0_1 * a0_1))) 16777216
      let t8 := f_interval_ceil (mx (mx (IntKind.i64.wrap (a0_0 * a0_0)) (IntKind.i64.wrap (a0_0 * a0_0))) (IntKind.i64.wrap (a0_1 * a0_1))) 16777216
      let t9 := f_interval_made t7 t8
      k (t9.fst, t9.snd.fst, t9.snd.snd)
set_option maxRecDepth 100000 in
theorem interval_Square.run (f_interval_Valid : Int → Int → (Bool)) (f_interval_made : Int → Int → (Int × Int × Int)) (f_interval_floor : Int → Int → (Int)) (f_interval_ceil : Int → Int → (Int)) (a0_0 : Int) (a0_1 : Int) : xfn Try.prog ⟨[(42, interval_Valid.sp f_interval_Valid), (50, interval_made.sp f_interval_made), (51, interval_extremes.sp), (52, interval_floor.sp f_interval_floor), (53, interval_ceil.sp f_interval_ceil)], []⟩ 40 Try.f44 [.agg ⟨[.int .i64 a0_0, .int .i64 a0_1]⟩] [] = interval_Square.K f_interval_Valid f_interval_made f_interval_floor f_interval_ceil a0_0 a0_1 (fun r => some (.tuple ⟨[.agg ⟨[.int .i64 r.1, .int .i64 r.2.1]⟩, .int .i64 r.2.2]⟩, [])) := by kernel_rfl
def interval_Square (a0_0 : Int) (a0_1 : Int) : Int × Int × Int := interval_Square.K interval_Valid interval_made interval_floor interval_ceil a0_0 a0_1 id
theorem interval_Square.nat {R : Type} (f_interval_Valid : Int → Int → (Bool)) (f_interval_made : Int → Int → (Int × Int × Int)) (f_interval_floor : Int → Int → (Int)) (f_interval_ceil : Int → Int → (Int)) (a0_0 : Int) (a0_1 : Int) (k : Int × Int × Int → R) : interval_Square.K f_interval_Valid f_interval_made f_interval_floor f_interval_ceil a0_0 a0_1 k = k (interval_Square.K f_interval_Valid f_interval_made f_interval_floor f_interval_ceil a0_0 a0_1 id) := by
  simp only [interval_Square.K, acond k, id_eq]
theorem interval_Square.eq (a b : Int) : interval_Square a b = isq a b := by
  simp only [interval_Square, interval_Square.K, id_eq, interval_Valid.eq, isq]
  cases h1 : V a b with
  | false => simp
  | true =>
    have := V_iff.1 h1
    have e1 := mul_bnd30 (x := a) (y := a) (by omega) (by omega) (by omega) (by omega)
    have e4 := mul_bnd30 (x := b) (y := b) (by omega) (by omega) (by omega) (by omega)
    have s1 := sq_nonneg a
    have s2 := sq_nonneg b
    have w1 : IntKind.i64.wrap (a * a) = a * a := w64 (by omega) (by omega)
    have w4 : IntKind.i64.wrap (b * b) = b * b := w64 (by omega) (by omega)
    have m1 : min (min (a * a) (a * a)) (b * b) = min (a * a) (b * b) := by omega
    have m2 : max (max (a * a) (a * a)) (b * b) = max (a * a) (b * b) := by omega
    simp only [w1, w4, mn_eq, mx_eq, Bool.not_true, cond_false, cond_true, m1, m2]
    have r1 : interval_floor (min (a * a) (b * b)) 16777216 = min (a * a) (b * b) / 16777216 := interval_floor.eq (by omega) (by omega) (by omega)
    have r2 : interval_ceil (max (a * a) (b * b)) 16777216 = cl (max (a * a) (b * b)) 16777216 := interval_ceil.eq (by omega) (by omega) (by omega)
    have r3 : interval_floor 0 16777216 = 0 / 16777216 := interval_floor.eq (by omega) (by omega) (by omega)
    have hk : (0 : Int) < 16777216 := by omega
    rw [r1, r2, r3, interval_made.eq (fl_le_cl' hk (by omega)), interval_made.eq (fl_le_cl' hk (by omega))]
    by_cases h2 : a ≤ 0 <;> by_cases h3 : b ≥ 0 <;> simp [h2, h3]
theorem interval_Square.ok : SOK Try.prog 44 (interval_Square.sp interval_Square) := by
  refine sok_of (E := ⟨[(42, interval_Valid.sp interval_Valid), (50, interval_made.sp interval_made), (51, interval_extremes.sp), (52, interval_floor.sp interval_floor), (53, interval_ceil.sp interval_ceil)], []⟩) ⟨(specs_cons interval_Valid.ok (specs_cons interval_made.ok (specs_cons interval_extremes.ok (specs_cons interval_floor.ok (specs_cons interval_ceil.ok specs_nil))))), inl_nil, mixed_ok⟩ 40 Try.func44 (by decide) rfl fun vs bl v bl' h => ?_
  unfold interval_Square.sp at h
  split at h
  · rename_i a0_0 a0_1
    simp only [Option.some.injEq, Prod.mk.injEq, true_and] at h
    obtain ⟨rfl, rfl⟩ := h
    refine ⟨?_, by simp [okV, Nat.blt], clo_spec 8 _ (by kernel_rfl), told_blk (by kernel_rfl)⟩
    refine (interval_Square.run interval_Valid interval_made interval_floor interval_ceil a0_0 a0_1).trans ?_
    refine (interval_Square.nat interval_Valid interval_made interval_floor interval_ceil a0_0 a0_1 _).trans ?_
    kernel_rfl
  · cases h

/-! ### culet/fresnel.share (29) -/
def fresnel_share.K {R : Type} (f_interval_Add : Int → Int → Int → Int → (Int × Int × Int)) (f_fresnel_cut : Int → Int → (Int × Int)) (f_interval_Sub : Int → Int → Int → Int → (Int × Int × Int)) (f_interval_Div : Int → Int → Int → Int → (Int × Int × Int)) (f_interval_Square : Int → Int → (Int × Int × Int)) (a0_0 : Int) (a0_1 : Int) (a1_0 : Int) (a1_1 : Int) (k : Int × Int × Int → R) : R :=
  let t0 := f_interval_Sub a0_0 a0_1 a1_0 a1_1
  bif t0.snd.snd != 0 then
    k (0, 0, t0.snd.snd)
  else
    let t1 := f_interval_Add a0_0 a0_1 a1_0 a1_1
    bif t1.snd.snd != 0 then
      k (0, 0, t1.snd.snd)
    else
      let t2 := f_interval_Div t0.fst t0.snd.fst t1.fst t1.snd.fst
      bif t2.snd.snd != 0 then
        k (0, 0, t2.snd.snd)
      else
        let t3 := f_interval_Square t2.fst t2.snd.fst
        bif t3.snd.snd != 0 then
          k (0, 0, t3.snd.snd)
        else
          let t4 := f_fresnel_cut t3.fst t3.snd.fst
          k (t4.fst, t4.snd, 0)
set_option maxRecDepth 100000 in
theorem fresnel_share.run (f_interval_Add : Int → Int → Int → Int → (Int × Int × Int)) (f_fresnel_cut : Int → Int → (Int × Int)) (f_interval_Sub : Int → Int → Int → Int → (Int × Int × Int)) (f_interval_Div : Int → Int → Int → Int → (Int × Int × Int)) (f_interval_Square : Int → Int → (Int × Int × Int)) (a0_0 : Int) (a0_1 : Int) (a1_0 : Int) (a1_1 : Int) : xfn Try.prog ⟨[(33, interval_Add.sp f_interval_Add), (35, fresnel_cut.sp f_fresnel_cut), (39, interval_Sub.sp f_interval_Sub), (43, interval_Div.sp f_interval_Div), (44, interval_Square.sp f_interval_Square)], []⟩ 40 Try.f29 [.agg ⟨[.int .i64 a0_0, .int .i64 a0_1]⟩, .agg ⟨[.int .i64 a1_0, .int .i64 a1_1]⟩] [] = fresnel_share.K f_interval_Add f_fresnel_cut f_interval_Sub f_interval_Div f_interval_Square a0_0 a0_1 a1_0 a1_1 (fun r => some (.tuple ⟨[.agg ⟨[.int .i64 r.1, .int .i64 r.2.1]⟩, .int .i64 r.2.2]⟩, [])) := by kernel_rfl
def fresnel_share (a0_0 : Int) (a0_1 : Int) (a1_0 : Int) (a1_1 : Int) : Int × Int × Int := fresnel_share.K interval_Add fresnel_cut interval_Sub interval_Div interval_Square a0_0 a0_1 a1_0 a1_1 id
theorem fresnel_share.nat {R : Type} (f_interval_Add : Int → Int → Int → Int → (Int × Int × Int)) (f_fresnel_cut : Int → Int → (Int × Int)) (f_interval_Sub : Int → Int → Int → Int → (Int × Int × Int)) (f_interval_Div : Int → Int → Int → Int → (Int × Int × Int)) (f_interval_Square : Int → Int → (Int × Int × Int)) (a0_0 : Int) (a0_1 : Int) (a1_0 : Int) (a1_1 : Int) (k : Int × Int × Int → R) : fresnel_share.K f_interval_Add f_fresnel_cut f_interval_Sub f_interval_Div f_interval_Square a0_0 a0_1 a1_0 a1_1 k = k (fresnel_share.K f_interval_Add f_fresnel_cut f_interval_Sub f_interval_Div f_interval_Square a0_0 a0_1 a1_0 a1_1 id) := by
  simp only [fresnel_share.K, acond k, id_eq]
theorem fresnel_share.eq (a b c d : Int) : fresnel_share a b c d = shr a b c d := by
  simp only [fresnel_share, fresnel_share.K, id_eq, interval_Sub.eq, interval_Add.eq, interval_Div.eq, interval_Square.eq, fresnel_cut.eq, shr, fin, bnd]
theorem fresnel_share.ok : SOK Try.prog 29 (fresnel_share.sp fresnel_share) := by
  refine sok_of (E := ⟨[(33, interval_Add.sp interval_Add), (35, fresnel_cut.sp fresnel_cut), (39, interval_Sub.sp interval_Sub), (43, interval_Div.sp interval_Div), (44, interval_Square.sp interval_Square)], []⟩) ⟨(specs_cons interval_Add.ok (specs_cons fresnel_cut.ok (specs_cons interval_Sub.ok (specs_cons interval_Div.ok (specs_cons interval_Square.ok specs_nil))))), inl_nil, mixed_ok⟩ 40 Try.func29 (by decide) rfl fun vs bl v bl' h => ?_
  unfold fresnel_share.sp at h
  split at h
  · rename_i a0_0 a0_1 a1_0 a1_1
    simp only [Option.some.injEq, Prod.mk.injEq, true_and] at h
    obtain ⟨rfl, rfl⟩ := h
    refine ⟨?_, by simp [okV, Nat.blt], clo_spec 8 _ (by kernel_rfl), told_blk (by kernel_rfl)⟩
    refine (fresnel_share.run interval_Add fresnel_cut interval_Sub interval_Div interval_Square a0_0 a0_1 a1_0 a1_1).trans ?_
    refine (fresnel_share.nat interval_Add fresnel_cut interval_Sub interval_Div interval_Square a0_0 a0_1 a1_0 a1_1 _).trans ?_
    kernel_rfl
  · cases h

/-! ### culet/fresnel.Straight (10) -/
def fresnel_Straight.K {R : Type} (f_fresnel_within : Int → Int → Int → Int → (Bool)) (f_fresnel_share : Int → Int → Int → Int → (Int × Int × Int)) (a0_0 : Int) (a0_1 : Int) (a1_0 : Int) (a1_1 : Int) (k : Int × Int × Int → R) : R :=
  let t0 := f_fresnel_within a0_0 a0_1 1 4
  bif !t0 then
    k (0, 0, 1)
  else
    let t1 := f_fresnel_within a1_0 a1_1 1 4
    bif !t1 then
      k (0, 0, 1)
    else
      let t2 := f_fresnel_share a0_0 a0_1 a1_0 a1_1
      k (t2.fst, t2.snd.fst, t2.snd.snd)
set_option maxRecDepth 100000 in
theorem fresnel_Straight.run (f_fresnel_within : Int → Int → Int → Int → (Bool)) (f_fresnel_share : Int → Int → Int → Int → (Int × Int × Int)) (a0_0 : Int) (a0_1 : Int) (a1_0 : Int) (a1_1 : Int) : xfn Try.prog ⟨[(28, fresnel_within.sp f_fresnel_within), (29, fresnel_share.sp f_fresnel_share)], []⟩ 40 Try.f10 [.agg ⟨[.int .i64 a0_0, .int .i64 a0_1]⟩, .agg ⟨[.int .i64 a1_0, .int .i64 a1_1]⟩] [] = fresnel_Straight.K f_fresnel_within f_fresnel_share a0_0 a0_1 a1_0 a1_1 (fun r => some (.tuple ⟨[.agg ⟨[.int .i64 r.1, .int .i64 r.2.1]⟩, .int .i64 r.2.2]⟩, [])) := by kernel_rfl
def fresnel_Straight (a0_0 : Int) (a0_1 : Int) (a1_0 : Int) (a1_1 : Int) : Int × Int × Int := fresnel_Straight.K fresnel_within fresnel_share a0_0 a0_1 a1_0 a1_1 id
theorem fresnel_Straight.nat {R : Type} (f_fresnel_within : Int → Int → Int → Int → (Bool)) (f_fresnel_share : Int → Int → Int → Int → (Int × Int × Int)) (a0_0 : Int) (a0_1 : Int) (a1_0 : Int) (a1_1 : Int) (k : Int × Int × Int → R) : fresnel_Straight.K f_fresnel_within f_fresnel_share a0_0 a0_1 a1_0 a1_1 k = k (fresnel_Straight.K f_fresnel_within f_fresnel_share a0_0 a0_1 a1_0 a1_1 id) := by
  simp only [fresnel_Straight.K, acond k, id_eq]
theorem fresnel_Straight.eq (a b c d : Int) : fresnel_Straight a b c d = bif wn a b 1 4 && wn c d 1 4 then shr a b c d else (0, 0, 1) := by
  simp only [fresnel_Straight, fresnel_Straight.K, id_eq, fresnel_share.eq, fresnel_within.eq (k := 1) (l := 4) (by omega) (by omega) (by omega) (by omega)]
  cases wn a b 1 4 <;> cases wn c d 1 4 <;> rfl
theorem fresnel_Straight.ok : SOK Try.prog 10 (fresnel_Straight.sp fresnel_Straight) := by
  refine sok_of (E := ⟨[(28, fresnel_within.sp fresnel_within), (29, fresnel_share.sp fresnel_share)], []⟩) ⟨(specs_cons fresnel_within.ok (specs_cons fresnel_share.ok specs_nil)), inl_nil, mixed_ok⟩ 40 Try.func10 (by decide) rfl fun vs bl v bl' h => ?_
  unfold fresnel_Straight.sp at h
  split at h
  · rename_i a0_0 a0_1 a1_0 a1_1
    simp only [Option.some.injEq, Prod.mk.injEq, true_and] at h
    obtain ⟨rfl, rfl⟩ := h
    refine ⟨?_, by simp [okV, Nat.blt], clo_spec 8 _ (by kernel_rfl), told_blk (by kernel_rfl)⟩
    refine (fresnel_Straight.run fresnel_within fresnel_share a0_0 a0_1 a1_0 a1_1).trans ?_
    refine (fresnel_Straight.nat fresnel_within fresnel_share a0_0 a0_1 a1_0 a1_1 _).trans ?_
    kernel_rfl
  · cases h

/-! ### culet/culetref28.One (12) -/
def culetref28_One.K {R : Type} (k : Int × Int → R) : R :=
  k (16777216, 16777216)
set_option maxRecDepth 100000 in
theorem culetref28_One.run : xfn Try.prog ⟨[], []⟩ 40 Try.f12 [] [] = culetref28_One.K (fun r => some (.agg ⟨[.int .i64 r.1, .int .i64 r.2]⟩, [])) := by kernel_rfl
def culetref28_One : Int × Int := culetref28_One.K id
theorem culetref28_One.nat {R : Type} (k : Int × Int → R) : culetref28_One.K k = k (culetref28_One.K id) := by
  simp only [culetref28_One.K, acond k, id_eq]
theorem culetref28_One.ok : SOK Try.prog 12 (culetref28_One.sp culetref28_One) := by
  refine sok_of (E := ⟨[], []⟩) ⟨specs_nil, inl_nil, mixed_ok⟩ 40 Try.func12 (by decide) rfl fun vs bl v bl' h => ?_
  unfold culetref28_One.sp at h
  split at h
  · simp only [Option.some.injEq, Prod.mk.injEq, true_and] at h
    obtain ⟨rfl, rfl⟩ := h
    refine ⟨?_, by simp [okV, Nat.blt], clo_spec 8 _ (by kernel_rfl), told_blk (by kernel_rfl)⟩
    refine (culetref28_One.run).trans ?_
    refine (culetref28_One.nat _).trans ?_
    kernel_rfl
  · cases h

/-! ### culet/fresnel.Valid (19) -/
def fresnel_Valid.K {R : Type} (f_fresnel_within : Int → Int → Int → Int → (Bool)) (a0_0 : Int) (a0_1 : Int) (a0_2 : Int) (a0_3 : Int) (a0_4 : Int) (a0_5 : Int) (a0_6 : Int) (a0_7 : Int) (k : (Bool) → R) : R :=
  let t0 := f_fresnel_within a0_0 a0_1 0 1
  bif t0 then
    let t1 := f_fresnel_within a0_2 a0_3 0 1
    bif t1 then
      let t2 := f_fresnel_within a0_4 a0_5 1 4
      bif t2 then
        let t3 := f_fresnel_within a0_6 a0_7 1 4
        k (t3)
      else
        k (false)
    else
      k (false)
  else
    k (false)
set_option maxRecDepth 100000 in
theorem fresnel_Valid.run (f_fresnel_within : Int → Int → Int → Int → (Bool)) (a0_0 : Int) (a0_1 : Int) (a0_2 : Int) (a0_3 : Int) (a0_4 : Int) (a0_5 : Int) (a0_6 : Int) (a0_7 : Int) : xfn Try.prog ⟨[(28, fresnel_within.sp f_fresnel_within)], []⟩ 40 Try.f19 [.agg ⟨[.int .i64 a0_0, .int .i64 a0_1, .int .i64 a0_2, .int .i64 a0_3, .int .i64 a0_4, .int .i64 a0_5, .int .i64 a0_6, .int .i64 a0_7]⟩] [] = fresnel_Valid.K f_fresnel_within a0_0 a0_1 a0_2 a0_3 a0_4 a0_5 a0_6 a0_7 (fun r => some (.bool r, [])) := by kernel_rfl
def fresnel_Valid (a0_0 : Int) (a0_1 : Int) (a0_2 : Int) (a0_3 : Int) (a0_4 : Int) (a0_5 : Int) (a0_6 : Int) (a0_7 : Int) : Bool := fresnel_Valid.K fresnel_within a0_0 a0_1 a0_2 a0_3 a0_4 a0_5 a0_6 a0_7 id
theorem fresnel_Valid.nat {R : Type} (f_fresnel_within : Int → Int → Int → Int → (Bool)) (a0_0 : Int) (a0_1 : Int) (a0_2 : Int) (a0_3 : Int) (a0_4 : Int) (a0_5 : Int) (a0_6 : Int) (a0_7 : Int) (k : (Bool) → R) : fresnel_Valid.K f_fresnel_within a0_0 a0_1 a0_2 a0_3 a0_4 a0_5 a0_6 a0_7 k = k (fresnel_Valid.K f_fresnel_within a0_0 a0_1 a0_2 a0_3 a0_4 a0_5 a0_6 a0_7 id) := by
  simp only [fresnel_Valid.K, acond k, id_eq]
theorem fresnel_Valid.eq (a0 a1 a2 a3 a4 a5 a6 a7 : Int) : fresnel_Valid a0 a1 a2 a3 a4 a5 a6 a7 = srf a0 a1 a2 a3 a4 a5 a6 a7 := by
  simp only [fresnel_Valid, fresnel_Valid.K, id_eq, srf, fresnel_within.eq (k := 1) (l := 4) (by omega) (by omega) (by omega) (by omega), fresnel_within.eq (k := 0) (l := 1) (by omega) (by omega) (by omega) (by omega)]
  cases wn a0 a1 0 1 <;> cases wn a2 a3 0 1 <;> cases wn a4 a5 1 4 <;> rfl
theorem fresnel_Valid.ok : SOK Try.prog 19 (fresnel_Valid.sp fresnel_Valid) := by
  refine sok_of (E := ⟨[(28, fresnel_within.sp fresnel_within)], []⟩) ⟨(specs_cons fresnel_within.ok specs_nil), inl_nil, mixed_ok⟩ 40 Try.func19 (by decide) rfl fun vs bl v bl' h => ?_
  unfold fresnel_Valid.sp at h
  split at h
  · rename_i a0_0 a0_1 a0_2 a0_3 a0_4 a0_5 a0_6 a0_7
    simp only [Option.some.injEq, Prod.mk.injEq, true_and] at h
    obtain ⟨rfl, rfl⟩ := h
    refine ⟨?_, by simp [okV, Nat.blt], clo_spec 8 _ (by kernel_rfl), told_blk (by kernel_rfl)⟩
    refine (fresnel_Valid.run fresnel_within a0_0 a0_1 a0_2 a0_3 a0_4 a0_5 a0_6 a0_7).trans ?_
    refine (fresnel_Valid.nat fresnel_within a0_0 a0_1 a0_2 a0_3 a0_4 a0_5 a0_6 a0_7 _).trans ?_
    kernel_rfl
  · cases h

/-! ### culet/interval.Mul (34) -/
def interval_Mul.K {R : Type} (f_interval_Valid : Int → Int → (Bool)) (f_interval_made : Int → Int → (Int × Int × Int)) (f_interval_floor : Int → Int → (Int)) (f_interval_ceil : Int → Int → (Int)) (a0_0 : Int) (a0_1 : Int) (a1_0 : Int) (a1_1 : Int) (k : Int × Int × Int → R) : R :=
  let t0 := f_interval_Valid a0_0 a0_1
  bif !t0 then
    k (0, 0, 1)
  else
    let t1 := f_interval_Valid a1_0 a1_1
    bif !t1 then
      k (0, 0, 1)
    else
      let t2 := f_interval_floor (mn (mn (mn (mn (IntKind.i64.wrap (a0_0 * a1_0)) (IntKind.i64.wrap (a0_0 * a1_0))) (IntKind.i64.wrap (a0_0 * a1_1))) (IntKind.i64.wrap (a0_1 * a1_0))) (IntKind.i64.wrap (a0_1 * a1_1))) 16777216
      let t3 := f_interval_ceil (mx (mx (mx (mx (IntKind.i64.wrap (a0_0 * a1_0)) (IntKind.i64.wrap (a0_0 * a1_0))) (IntKind.i64.wrap (a0_0 * a1_1))) (IntKind.i64.wrap (a0_1 * a1_0))) (IntKind.i64.wrap (a0_1 * a1_1))) 16777216
      let t4 := f_interval_made t2 t3
      k (t4.fst, t4.snd.fst, t4.snd.snd)
set_option maxRecDepth 100000 in
theorem interval_Mul.run (f_interval_Valid : Int → Int → (Bool)) (f_interval_made : Int → Int → (Int × Int × Int)) (f_interval_floor : Int → Int → (Int)) (f_interval_ceil : Int → Int → (Int)) (a0_0 : Int) (a0_1 : Int) (a1_0 : Int) (a1_1 : Int) : xfn Try.prog ⟨[(42, interval_Valid.sp f_interval_Valid), (50, interval_made.sp f_interval_made), (51, interval_extremes.sp), (52, interval_floor.sp f_interval_floor), (53, interval_ceil.sp f_interval_ceil)], [(49, Try.f49)]⟩ 40 Try.f34 [.agg ⟨[.int .i64 a0_0, .int .i64 a0_1]⟩, .agg ⟨[.int .i64 a1_0, .int .i64 a1_1]⟩] [] = interval_Mul.K f_interval_Valid f_interval_made f_interval_floor f_interval_ceil a0_0 a0_1 a1_0 a1_1 (fun r => some (.tuple ⟨[.agg ⟨[.int .i64 r.1, .int .i64 r.2.1]⟩, .int .i64 r.2.2]⟩, [])) := by kernel_rfl
def interval_Mul (a0_0 : Int) (a0_1 : Int) (a1_0 : Int) (a1_1 : Int) : Int × Int × Int := interval_Mul.K interval_Valid interval_made interval_floor interval_ceil a0_0 a0_1 a1_0 a1_1 id
theorem interval_Mul.nat {R : Type} (f_interval_Valid : Int → Int → (Bool)) (f_interval_made : Int → Int → (Int × Int × Int)) (f_interval_floor : Int → Int → (Int)) (f_interval_ceil : Int → Int → (Int)) (a0_0 : Int) (a0_1 : Int) (a1_0 : Int) (a1_1 : Int) (k : Int × Int × Int → R) : interval_Mul.K f_interval_Valid f_interval_made f_interval_floor f_interval_ceil a0_0 a0_1 a1_0 a1_1 k = k (interval_Mul.K f_interval_Valid f_interval_made f_interval_floor f_interval_ceil a0_0 a0_1 a1_0 a1_1 id) := by
  simp only [interval_Mul.K, acond k, id_eq]
theorem interval_Mul.eq (a b c d : Int) : interval_Mul a b c d = imul a b c d := by
  simp only [interval_Mul, interval_Mul.K, id_eq, interval_Valid.eq, imul]
  cases h1 : V a b with
  | false => simp
  | true => cases h2 : V c d with
    | false => simp
    | true =>
      have := V_iff.1 h1
      have := V_iff.1 h2
      have e1 := mul_bnd30 (x := a) (y := c) (by omega) (by omega) (by omega) (by omega)
      have e2 := mul_bnd30 (x := a) (y := d) (by omega) (by omega) (by omega) (by omega)
      have e3 := mul_bnd30 (x := b) (y := c) (by omega) (by omega) (by omega) (by omega)
      have e4 := mul_bnd30 (x := b) (y := d) (by omega) (by omega) (by omega) (by omega)
      have w1 : IntKind.i64.wrap (a * c) = a * c := w64 (by omega) (by omega)
      have w2 : IntKind.i64.wrap (a * d) = a * d := w64 (by omega) (by omega)
      have w3 : IntKind.i64.wrap (b * c) = b * c := w64 (by omega) (by omega)
      have w4 : IntKind.i64.wrap (b * d) = b * d := w64 (by omega) (by omega)
      have m1 : min (min (min (min (a * c) (a * c)) (a * d)) (b * c)) (b * d) = mn4 (a * c) (a * d) (b * c) (b * d) := by simp only [mn4]; omega
      have m2 : max (max (max (max (a * c) (a * c)) (a * d)) (b * c)) (b * d) = mx4 (a * c) (a * d) (b * c) (b * d) := by simp only [mx4]; omega
      simp only [w1, w2, w3, w4, mn_eq, mx_eq, Bool.not_true, cond_false, Bool.and_self, cond_true, m1, m2]
      have hmn : mn4 (a * c) (a * d) (b * c) (b * d) ≤ mx4 (a * c) (a * d) (b * c) (b * d) := by simp only [mn4, mx4]; omega
      rw [interval_floor.eq (by omega) (by simp only [mn4]; omega) (by simp only [mn4]; omega), interval_ceil.eq (by omega) (by simp only [mx4]; omega) (by simp only [mx4]; omega), interval_made.eq (fl_le_cl' (by omega) hmn)]
theorem interval_Mul.ok : SOK Try.prog 34 (interval_Mul.sp interval_Mul) := by
  refine sok_of (E := ⟨[(42, interval_Valid.sp interval_Valid), (50, interval_made.sp interval_made), (51, interval_extremes.sp), (52, interval_floor.sp interval_floor), (53, interval_ceil.sp interval_ceil)], [(49, Try.f49)]⟩) ⟨(specs_cons interval_Valid.ok (specs_cons interval_made.ok (specs_cons interval_extremes.ok (specs_cons interval_floor.ok (specs_cons interval_ceil.ok specs_nil))))), (inl_cons ⟨Try.func49, by decide, rfl⟩ inl_nil), mixed_ok⟩ 40 Try.func34 (by decide) rfl fun vs bl v bl' h => ?_
  unfold interval_Mul.sp at h
  split at h
  · rename_i a0_0 a0_1 a1_0 a1_1
    simp only [Option.some.injEq, Prod.mk.injEq, true_and] at h
    obtain ⟨rfl, rfl⟩ := h
    refine ⟨?_, by simp [okV, Nat.blt], clo_spec 8 _ (by kernel_rfl), told_blk (by kernel_rfl)⟩
    refine (interval_Mul.run interval_Valid interval_made interval_floor interval_ceil a0_0 a0_1 a1_0 a1_1).trans ?_
    refine (interval_Mul.nat interval_Valid interval_made interval_floor interval_ceil a0_0 a0_1 a1_0 a1_1 _).trans ?_
    kernel_rfl
  · cases h

/-! ### culet/fresnel.polarized (32) -/
def fresnel_polarized.K {R : Type} (f_fresnel_Valid : Int → Int → Int → Int → Int → Int → Int → Int → (Bool)) (f_fresnel_share : Int → Int → Int → Int → (Int × Int × Int)) (f_interval_Mul : Int → Int → Int → Int → (Int × Int × Int)) (a0_0 : Int) (a0_1 : Int) (a0_2 : Int) (a0_3 : Int) (a0_4 : Int) (a0_5 : Int) (a0_6 : Int) (a0_7 : Int) (a1_0 : Int) (a1_1 : Int) (a2_0 : Int) (a2_1 : Int) (k : Int × Int × Int → R) : R :=
  let t0 := f_fresnel_Valid a0_0 a0_1 a0_2 a0_3 a0_4 a0_5 a0_6 a0_7
  bif !t0 then
    k (0, 0, 1)
  else
    let t1 := f_interval_Mul a0_4 a0_5 a1_0 a1_1
    bif t1.snd.snd != 0 then
      k (0, 0, t1.snd.snd)
    else
      let t2 := f_interval_Mul a0_6 a0_7 a2_0 a2_1
      bif t2.snd.snd != 0 then
        k (0, 0, t2.snd.snd)
      else
        let t3 := f_fresnel_share t1.fst t1.snd.fst t2.fst t2.snd.fst
        k (t3.fst, t3.snd.fst, t3.snd.snd)
set_option maxRecDepth 100000 in
theorem fresnel_polarized.run (f_fresnel_Valid : Int → Int → Int → Int → Int → Int → Int → Int → (Bool)) (f_fresnel_share : Int → Int → Int → Int → (Int × Int × Int)) (f_interval_Mul : Int → Int → Int → Int → (Int × Int × Int)) (a0_0 : Int) (a0_1 : Int) (a0_2 : Int) (a0_3 : Int) (a0_4 : Int) (a0_5 : Int) (a0_6 : Int) (a0_7 : Int) (a1_0 : Int) (a1_1 : Int) (a2_0 : Int) (a2_1 : Int) : xfn Try.prog ⟨[(19, fresnel_Valid.sp f_fresnel_Valid), (29, fresnel_share.sp f_fresnel_share), (34, interval_Mul.sp f_interval_Mul)], []⟩ 40 Try.f32 [.agg ⟨[.int .i64 a0_0, .int .i64 a0_1, .int .i64 a0_2, .int .i64 a0_3, .int .i64 a0_4, .int .i64 a0_5, .int .i64 a0_6, .int .i64 a0_7]⟩, .agg ⟨[.int .i64 a1_0, .int .i64 a1_1]⟩, .agg ⟨[.int .i64 a2_0, .int .i64 a2_1]⟩] [] = fresnel_polarized.K f_fresnel_Valid f_fresnel_share f_interval_Mul a0_0 a0_1 a0_2 a0_3 a0_4 a0_5 a0_6 a0_7 a1_0 a1_1 a2_0 a2_1 (fun r => some (.tuple ⟨[.agg ⟨[.int .i64 r.1, .int .i64 r.2.1]⟩, .int .i64 r.2.2]⟩, [])) := by kernel_rfl
def fresnel_polarized (a0_0 : Int) (a0_1 : Int) (a0_2 : Int) (a0_3 : Int) (a0_4 : Int) (a0_5 : Int) (a0_6 : Int) (a0_7 : Int) (a1_0 : Int) (a1_1 : Int) (a2_0 : Int) (a2_1 : Int) : Int × Int × Int := fresnel_polarized.K fresnel_Valid fresnel_share interval_Mul a0_0 a0_1 a0_2 a0_3 a0_4 a0_5 a0_6 a0_7 a1_0 a1_1 a2_0 a2_1 id
theorem fresnel_polarized.nat {R : Type} (f_fresnel_Valid : Int → Int → Int → Int → Int → Int → Int → Int → (Bool)) (f_fresnel_share : Int → Int → Int → Int → (Int × Int × Int)) (f_interval_Mul : Int → Int → Int → Int → (Int × Int × Int)) (a0_0 : Int) (a0_1 : Int) (a0_2 : Int) (a0_3 : Int) (a0_4 : Int) (a0_5 : Int) (a0_6 : Int) (a0_7 : Int) (a1_0 : Int) (a1_1 : Int) (a2_0 : Int) (a2_1 : Int) (k : Int × Int × Int → R) : fresnel_polarized.K f_fresnel_Valid f_fresnel_share f_interval_Mul a0_0 a0_1 a0_2 a0_3 a0_4 a0_5 a0_6 a0_7 a1_0 a1_1 a2_0 a2_1 k = k (fresnel_polarized.K f_fresnel_Valid f_fresnel_share f_interval_Mul a0_0 a0_1 a0_2 a0_3 a0_4 a0_5 a0_6 a0_7 a1_0 a1_1 a2_0 a2_1 id) := by
  simp only [fresnel_polarized.K, acond k, id_eq]
theorem fresnel_polarized.eq (a0 a1 a2 a3 a4 a5 a6 a7 x0 x1 y0 y1 : Int) : fresnel_polarized a0 a1 a2 a3 a4 a5 a6 a7 x0 x1 y0 y1 = pol a0 a1 a2 a3 a4 a5 a6 a7 x0 x1 y0 y1 := by
  simp only [fresnel_polarized, fresnel_polarized.K, id_eq, fresnel_Valid.eq, interval_Mul.eq, fresnel_share.eq, pol, bnd]
  cases srf a0 a1 a2 a3 a4 a5 a6 a7 <;> rfl
theorem fresnel_polarized.ok : SOK Try.prog 32 (fresnel_polarized.sp fresnel_polarized) := by
  refine sok_of (E := ⟨[(19, fresnel_Valid.sp fresnel_Valid), (29, fresnel_share.sp fresnel_share), (34, interval_Mul.sp interval_Mul)], []⟩) ⟨(specs_cons fresnel_Valid.ok (specs_cons fresnel_share.ok (specs_cons interval_Mul.ok specs_nil))), inl_nil, mixed_ok⟩ 40 Try.func32 (by decide) rfl fun vs bl v bl' h => ?_
  unfold fresnel_polarized.sp at h
  split at h
  · rename_i a0_0 a0_1 a0_2 a0_3 a0_4 a0_5 a0_6 a0_7 a1_0 a1_1 a2_0 a2_1
    simp only [Option.some.injEq, Prod.mk.injEq, true_and] at h
    obtain ⟨rfl, rfl⟩ := h
    refine ⟨?_, by simp [okV, Nat.blt], clo_spec 8 _ (by kernel_rfl), told_blk (by kernel_rfl)⟩
    refine (fresnel_polarized.run fresnel_Valid fresnel_share interval_Mul a0_0 a0_1 a0_2 a0_3 a0_4 a0_5 a0_6 a0_7 a1_0 a1_1 a2_0 a2_1).trans ?_
    refine (fresnel_polarized.nat fresnel_Valid fresnel_share interval_Mul a0_0 a0_1 a0_2 a0_3 a0_4 a0_5 a0_6 a0_7 a1_0 a1_1 a2_0 a2_1 _).trans ?_
    kernel_rfl
  · cases h

/-! ### culet/fresnel.Perpendicular (13) -/
def fresnel_Perpendicular.K {R : Type} (f_fresnel_polarized : Int → Int → Int → Int → Int → Int → Int → Int → Int → Int → Int → Int → (Int × Int × Int)) (a0_0 : Int) (a0_1 : Int) (a0_2 : Int) (a0_3 : Int) (a0_4 : Int) (a0_5 : Int) (a0_6 : Int) (a0_7 : Int) (k : Int × Int × Int → R) : R :=
  let t0 := f_fresnel_polarized a0_0 a0_1 a0_2 a0_3 a0_4 a0_5 a0_6 a0_7 a0_0 a0_1 a0_2 a0_3
  k (t0.fst, t0.snd.fst, t0.snd.snd)
set_option maxRecDepth 100000 in
theorem fresnel_Perpendicular.run (f_fresnel_polarized : Int → Int → Int → Int → Int → Int → Int → Int → Int → Int → Int → Int → (Int × Int × Int)) (a0_0 : Int) (a0_1 : Int) (a0_2 : Int) (a0_3 : Int) (a0_4 : Int) (a0_5 : Int) (a0_6 : Int) (a0_7 : Int) : xfn Try.prog ⟨[(32, fresnel_polarized.sp f_fresnel_polarized)], []⟩ 40 Try.f13 [.agg ⟨[.int .i64 a0_0, .int .i64 a0_1, .int .i64 a0_2, .int .i64 a0_3, .int .i64 a0_4, .int .i64 a0_5, .int .i64 a0_6, .int .i64 a0_7]⟩] [] = fresnel_Perpendicular.K f_fresnel_polarized a0_0 a0_1 a0_2 a0_3 a0_4 a0_5 a0_6 a0_7 (fun r => some (.tuple ⟨[.agg ⟨[.int .i64 r.1, .int .i64 r.2.1]⟩, .int .i64 r.2.2]⟩, [])) := by kernel_rfl
def fresnel_Perpendicular (a0_0 : Int) (a0_1 : Int) (a0_2 : Int) (a0_3 : Int) (a0_4 : Int) (a0_5 : Int) (a0_6 : Int) (a0_7 : Int) : Int × Int × Int := fresnel_Perpendicular.K fresnel_polarized a0_0 a0_1 a0_2 a0_3 a0_4 a0_5 a0_6 a0_7 id
theorem fresnel_Perpendicular.nat {R : Type} (f_fresnel_polarized : Int → Int → Int → Int → Int → Int → Int → Int → Int → Int → Int → Int → (Int × Int × Int)) (a0_0 : Int) (a0_1 : Int) (a0_2 : Int) (a0_3 : Int) (a0_4 : Int) (a0_5 : Int) (a0_6 : Int) (a0_7 : Int) (k : Int × Int × Int → R) : fresnel_Perpendicular.K f_fresnel_polarized a0_0 a0_1 a0_2 a0_3 a0_4 a0_5 a0_6 a0_7 k = k (fresnel_Perpendicular.K f_fresnel_polarized a0_0 a0_1 a0_2 a0_3 a0_4 a0_5 a0_6 a0_7 id) := by
  simp only [fresnel_Perpendicular.K, acond k, id_eq]
theorem fresnel_Perpendicular.eq (a0 a1 a2 a3 a4 a5 a6 a7 : Int) : fresnel_Perpendicular a0 a1 a2 a3 a4 a5 a6 a7 = pol a0 a1 a2 a3 a4 a5 a6 a7 a0 a1 a2 a3 := by
  simp only [fresnel_Perpendicular, fresnel_Perpendicular.K, id_eq, fresnel_polarized.eq]
theorem fresnel_Perpendicular.ok : SOK Try.prog 13 (fresnel_Perpendicular.sp fresnel_Perpendicular) := by
  refine sok_of (E := ⟨[(32, fresnel_polarized.sp fresnel_polarized)], []⟩) ⟨(specs_cons fresnel_polarized.ok specs_nil), inl_nil, mixed_ok⟩ 40 Try.func13 (by decide) rfl fun vs bl v bl' h => ?_
  unfold fresnel_Perpendicular.sp at h
  split at h
  · rename_i a0_0 a0_1 a0_2 a0_3 a0_4 a0_5 a0_6 a0_7
    simp only [Option.some.injEq, Prod.mk.injEq, true_and] at h
    obtain ⟨rfl, rfl⟩ := h
    refine ⟨?_, by simp [okV, Nat.blt], clo_spec 8 _ (by kernel_rfl), told_blk (by kernel_rfl)⟩
    refine (fresnel_Perpendicular.run fresnel_polarized a0_0 a0_1 a0_2 a0_3 a0_4 a0_5 a0_6 a0_7).trans ?_
    refine (fresnel_Perpendicular.nat fresnel_polarized a0_0 a0_1 a0_2 a0_3 a0_4 a0_5 a0_6 a0_7 _).trans ?_
    kernel_rfl
  · cases h

/-! ### culet/fresnel.Parallel (14) -/
def fresnel_Parallel.K {R : Type} (f_fresnel_polarized : Int → Int → Int → Int → Int → Int → Int → Int → Int → Int → Int → Int → (Int × Int × Int)) (a0_0 : Int) (a0_1 : Int) (a0_2 : Int) (a0_3 : Int) (a0_4 : Int) (a0_5 : Int) (a0_6 : Int) (a0_7 : Int) (k : Int × Int × Int → R) : R :=
  let t0 := f_fresnel_polarized a0_0 a0_1 a0_2 a0_3 a0_4 a0_5 a0_6 a0_7 a0_2 a0_3 a0_0 a0_1
  k (t0.fst, t0.snd.fst, t0.snd.snd)
set_option maxRecDepth 100000 in
theorem fresnel_Parallel.run (f_fresnel_polarized : Int → Int → Int → Int → Int → Int → Int → Int → Int → Int → Int → Int → (Int × Int × Int)) (a0_0 : Int) (a0_1 : Int) (a0_2 : Int) (a0_3 : Int) (a0_4 : Int) (a0_5 : Int) (a0_6 : Int) (a0_7 : Int) : xfn Try.prog ⟨[(32, fresnel_polarized.sp f_fresnel_polarized)], []⟩ 40 Try.f14 [.agg ⟨[.int .i64 a0_0, .int .i64 a0_1, .int .i64 a0_2, .int .i64 a0_3, .int .i64 a0_4, .int .i64 a0_5, .int .i64 a0_6, .int .i64 a0_7]⟩] [] = fresnel_Parallel.K f_fresnel_polarized a0_0 a0_1 a0_2 a0_3 a0_4 a0_5 a0_6 a0_7 (fun r => some (.tuple ⟨[.agg ⟨[.int .i64 r.1, .int .i64 r.2.1]⟩, .int .i64 r.2.2]⟩, [])) := by kernel_rfl
def fresnel_Parallel (a0_0 : Int) (a0_1 : Int) (a0_2 : Int) (a0_3 : Int) (a0_4 : Int) (a0_5 : Int) (a0_6 : Int) (a0_7 : Int) : Int × Int × Int := fresnel_Parallel.K fresnel_polarized a0_0 a0_1 a0_2 a0_3 a0_4 a0_5 a0_6 a0_7 id
theorem fresnel_Parallel.nat {R : Type} (f_fresnel_polarized : Int → Int → Int → Int → Int → Int → Int → Int → Int → Int → Int → Int → (Int × Int × Int)) (a0_0 : Int) (a0_1 : Int) (a0_2 : Int) (a0_3 : Int) (a0_4 : Int) (a0_5 : Int) (a0_6 : Int) (a0_7 : Int) (k : Int × Int × Int → R) : fresnel_Parallel.K f_fresnel_polarized a0_0 a0_1 a0_2 a0_3 a0_4 a0_5 a0_6 a0_7 k = k (fresnel_Parallel.K f_fresnel_polarized a0_0 a0_1 a0_2 a0_3 a0_4 a0_5 a0_6 a0_7 id) := by
  simp only [fresnel_Parallel.K, acond k, id_eq]
theorem fresnel_Parallel.eq (a0 a1 a2 a3 a4 a5 a6 a7 : Int) : fresnel_Parallel a0 a1 a2 a3 a4 a5 a6 a7 = pol a0 a1 a2 a3 a4 a5 a6 a7 a2 a3 a0 a1 := by
  simp only [fresnel_Parallel, fresnel_Parallel.K, id_eq, fresnel_polarized.eq]
theorem fresnel_Parallel.ok : SOK Try.prog 14 (fresnel_Parallel.sp fresnel_Parallel) := by
  refine sok_of (E := ⟨[(32, fresnel_polarized.sp fresnel_polarized)], []⟩) ⟨(specs_cons fresnel_polarized.ok specs_nil), inl_nil, mixed_ok⟩ 40 Try.func14 (by decide) rfl fun vs bl v bl' h => ?_
  unfold fresnel_Parallel.sp at h
  split at h
  · rename_i a0_0 a0_1 a0_2 a0_3 a0_4 a0_5 a0_6 a0_7
    simp only [Option.some.injEq, Prod.mk.injEq, true_and] at h
    obtain ⟨rfl, rfl⟩ := h
    refine ⟨?_, by simp [okV, Nat.blt], clo_spec 8 _ (by kernel_rfl), told_blk (by kernel_rfl)⟩
    refine (fresnel_Parallel.run fresnel_polarized a0_0 a0_1 a0_2 a0_3 a0_4 a0_5 a0_6 a0_7).trans ?_
    refine (fresnel_Parallel.nat fresnel_polarized a0_0 a0_1 a0_2 a0_3 a0_4 a0_5 a0_6 a0_7 _).trans ?_
    kernel_rfl
  · cases h

/-! ### culet/fresnel.Reflectance (15) -/
def fresnel_Reflectance.K {R : Type} (f_fresnel_Perpendicular : Int → Int → Int → Int → Int → Int → Int → Int → (Int × Int × Int)) (f_fresnel_Parallel : Int → Int → Int → Int → Int → Int → Int → Int → (Int × Int × Int)) (f_interval_Add : Int → Int → Int → Int → (Int × Int × Int)) (f_interval_Mul : Int → Int → Int → Int → (Int × Int × Int)) (f_fresnel_cut : Int → Int → (Int × Int)) (a0_0 : Int) (a0_1 : Int) (a0_2 : Int) (a0_3 : Int) (a0_4 : Int) (a0_5 : Int) (a0_6 : Int) (a0_7 : Int) (k : Int × Int × Int → R) : R :=
  let t0 := f_fresnel_Perpendicular a0_0 a0_1 a0_2 a0_3 a0_4 a0_5 a0_6 a0_7
  bif t0.snd.snd != 0 then
    k (0, 0, t0.snd.snd)
  else
    let t1 := f_fresnel_Parallel a0_0 a0_1 a0_2 a0_3 a0_4 a0_5 a0_6 a0_7
    bif t1.snd.snd != 0 then
      k (0, 0, t1.snd.snd)
    else
      let t2 := f_interval_Add t0.fst t0.snd.fst t1.fst t1.snd.fst
      bif t2.snd.snd != 0 then
        k (0, 0, t2.snd.snd)
      else
        let t3 := f_interval_Mul t2.fst t2.snd.fst 8388608 8388608
        bif t3.snd.snd != 0 then
          k (0, 0, t3.snd.snd)
        else
          let t4 := f_fresnel_cut t3.fst t3.snd.fst
          k (t4.fst, t4.snd, 0)
set_option maxRecDepth 100000 in
theorem fresnel_Reflectance.run (f_fresnel_Perpendicular : Int → Int → Int → Int → Int → Int → Int → Int → (Int × Int × Int)) (f_fresnel_Parallel : Int → Int → Int → Int → Int → Int → Int → Int → (Int × Int × Int)) (f_interval_Add : Int → Int → Int → Int → (Int × Int × Int)) (f_interval_Mul : Int → Int → Int → Int → (Int × Int × Int)) (f_fresnel_cut : Int → Int → (Int × Int)) (a0_0 : Int) (a0_1 : Int) (a0_2 : Int) (a0_3 : Int) (a0_4 : Int) (a0_5 : Int) (a0_6 : Int) (a0_7 : Int) : xfn Try.prog ⟨[(13, fresnel_Perpendicular.sp f_fresnel_Perpendicular), (14, fresnel_Parallel.sp f_fresnel_Parallel), (33, interval_Add.sp f_interval_Add), (34, interval_Mul.sp f_interval_Mul), (35, fresnel_cut.sp f_fresnel_cut)], []⟩ 40 Try.f15 [.agg ⟨[.int .i64 a0_0, .int .i64 a0_1, .int .i64 a0_2, .int .i64 a0_3, .int .i64 a0_4, .int .i64 a0_5, .int .i64 a0_6, .int .i64 a0_7]⟩] [] = fresnel_Reflectance.K f_fresnel_Perpendicular f_fresnel_Parallel f_interval_Add f_interval_Mul f_fresnel_cut a0_0 a0_1 a0_2 a0_3 a0_4 a0_5 a0_6 a0_7 (fun r => some (.tuple ⟨[.agg ⟨[.int .i64 r.1, .int .i64 r.2.1]⟩, .int .i64 r.2.2]⟩, [])) := by kernel_rfl
def fresnel_Reflectance (a0_0 : Int) (a0_1 : Int) (a0_2 : Int) (a0_3 : Int) (a0_4 : Int) (a0_5 : Int) (a0_6 : Int) (a0_7 : Int) : Int × Int × Int := fresnel_Reflectance.K fresnel_Perpendicular fresnel_Parallel interval_Add interval_Mul fresnel_cut a0_0 a0_1 a0_2 a0_3 a0_4 a0_5 a0_6 a0_7 id
theorem fresnel_Reflectance.nat {R : Type} (f_fresnel_Perpendicular : Int → Int → Int → Int → Int → Int → Int → Int → (Int × Int × Int)) (f_fresnel_Parallel : Int → Int → Int → Int → Int → Int → Int → Int → (Int × Int × Int)) (f_interval_Add : Int → Int → Int → Int → (Int × Int × Int)) (f_interval_Mul : Int → Int → Int → Int → (Int × Int × Int)) (f_fresnel_cut : Int → Int → (Int × Int)) (a0_0 : Int) (a0_1 : Int) (a0_2 : Int) (a0_3 : Int) (a0_4 : Int) (a0_5 : Int) (a0_6 : Int) (a0_7 : Int) (k : Int × Int × Int → R) : fresnel_Reflectance.K f_fresnel_Perpendicular f_fresnel_Parallel f_interval_Add f_interval_Mul f_fresnel_cut a0_0 a0_1 a0_2 a0_3 a0_4 a0_5 a0_6 a0_7 k = k (fresnel_Reflectance.K f_fresnel_Perpendicular f_fresnel_Parallel f_interval_Add f_interval_Mul f_fresnel_cut a0_0 a0_1 a0_2 a0_3 a0_4 a0_5 a0_6 a0_7 id) := by
  simp only [fresnel_Reflectance.K, acond k, id_eq]
theorem fresnel_Reflectance.eq (a0 a1 a2 a3 a4 a5 a6 a7 : Int) : fresnel_Reflectance a0 a1 a2 a3 a4 a5 a6 a7 = refl a0 a1 a2 a3 a4 a5 a6 a7 := by
  simp only [fresnel_Reflectance, fresnel_Reflectance.K, id_eq, fresnel_Perpendicular.eq, fresnel_Parallel.eq, interval_Add.eq, interval_Mul.eq, fresnel_cut.eq, refl, mean, fin, bnd]
theorem fresnel_Reflectance.ok : SOK Try.prog 15 (fresnel_Reflectance.sp fresnel_Reflectance) := by
  refine sok_of (E := ⟨[(13, fresnel_Perpendicular.sp fresnel_Perpendicular), (14, fresnel_Parallel.sp fresnel_Parallel), (33, interval_Add.sp interval_Add), (34, interval_Mul.sp interval_Mul), (35, fresnel_cut.sp fresnel_cut)], []⟩) ⟨(specs_cons fresnel_Perpendicular.ok (specs_cons fresnel_Parallel.ok (specs_cons interval_Add.ok (specs_cons interval_Mul.ok (specs_cons fresnel_cut.ok specs_nil))))), inl_nil, mixed_ok⟩ 40 Try.func15 (by decide) rfl fun vs bl v bl' h => ?_
  unfold fresnel_Reflectance.sp at h
  split at h
  · rename_i a0_0 a0_1 a0_2 a0_3 a0_4 a0_5 a0_6 a0_7
    simp only [Option.some.injEq, Prod.mk.injEq, true_and] at h
    obtain ⟨rfl, rfl⟩ := h
    refine ⟨?_, by simp [okV, Nat.blt], clo_spec 8 _ (by kernel_rfl), told_blk (by kernel_rfl)⟩
    refine (fresnel_Reflectance.run fresnel_Perpendicular fresnel_Parallel interval_Add interval_Mul fresnel_cut a0_0 a0_1 a0_2 a0_3 a0_4 a0_5 a0_6 a0_7).trans ?_
    refine (fresnel_Reflectance.nat fresnel_Perpendicular fresnel_Parallel interval_Add interval_Mul fresnel_cut a0_0 a0_1 a0_2 a0_3 a0_4 a0_5 a0_6 a0_7 _).trans ?_
    kernel_rfl
  · cases h

/-! ### culet/culetref27.Of (27) -/
def culetref27_Of.K {R : Type} (a0 : Int) (k : Int × Int × Int → R) : R :=
  bif decide (a0 > 64) then
    k (0, 0, 3)
  else
    bif decide (a0 < -64) then
      k (0, 0, 3)
    else
      k (IntKind.i64.wrap (a0 * 16777216), IntKind.i64.wrap (a0 * 16777216), 0)
set_option maxRecDepth 100000 in
theorem culetref27_Of.run (a0 : Int) : xfn Try.prog ⟨[], []⟩ 40 Try.f27 [.int .i64 a0] [] = culetref27_Of.K a0 (fun r => some (.tuple ⟨[.agg ⟨[.int .i64 r.1, .int .i64 r.2.1]⟩, .int .i64 r.2.2]⟩, [])) := by kernel_rfl
def culetref27_Of (a0 : Int) : Int × Int × Int := culetref27_Of.K a0 id
theorem culetref27_Of.nat {R : Type} (a0 : Int) (k : Int × Int × Int → R) : culetref27_Of.K a0 k = k (culetref27_Of.K a0 id) := by
  simp only [culetref27_Of.K, acond k, id_eq]
theorem culetref27_Of.ok : SOK Try.prog 27 (culetref27_Of.sp culetref27_Of) := by
  refine sok_of (E := ⟨[], []⟩) ⟨specs_nil, inl_nil, mixed_ok⟩ 40 Try.func27 (by decide) rfl fun vs bl v bl' h => ?_
  unfold culetref27_Of.sp at h
  split at h
  · rename_i a0
    simp only [Option.some.injEq, Prod.mk.injEq, true_and] at h
    obtain ⟨rfl, rfl⟩ := h
    refine ⟨?_, by simp [okV, Nat.blt], clo_spec 8 _ (by kernel_rfl), told_blk (by kernel_rfl)⟩
    refine (culetref27_Of.run a0).trans ?_
    refine (culetref27_Of.nat a0 _).trans ?_
    kernel_rfl
  · cases h

/-! ### culet/culetlaw30.awake (9) -/
def culetlaw30_awake.K {R : Type} (f_fresnel_Straight : Int → Int → Int → Int → (Int × Int × Int)) (f_culetref28_One : (Int × Int)) (f_fresnel_Reflectance : Int → Int → Int → Int → Int → Int → Int → Int → (Int × Int × Int)) (f_culetref27_Of : Int → (Int × Int × Int)) (k : (Bool) → R) : R :=
  let t0 := f_culetref27_Of 2
  let t1 := f_fresnel_Straight f_culetref28_One.fst f_culetref28_One.snd t0.fst t0.snd.fst
  bif t1.snd.snd == 0 then
    let t2 := f_fresnel_Reflectance f_culetref28_One.fst f_culetref28_One.snd f_culetref28_One.fst f_culetref28_One.snd f_culetref28_One.fst f_culetref28_One.snd t0.fst t0.snd.fst
    bif t2.snd.snd == 0 then
      bif t1.fst == t2.fst && t1.snd.fst == t2.snd.fst then
        k (t1.fst == 1864134 && t1.snd.fst == 1864136)
      else
        k (false)
    else
      k (false)
  else
    k (false)
set_option maxRecDepth 100000 in
theorem culetlaw30_awake.run (f_fresnel_Straight : Int → Int → Int → Int → (Int × Int × Int)) (f_culetref28_One : (Int × Int)) (f_fresnel_Reflectance : Int → Int → Int → Int → Int → Int → Int → Int → (Int × Int × Int)) (f_culetref27_Of : Int → (Int × Int × Int)) : xfn Try.prog ⟨[(10, fresnel_Straight.sp f_fresnel_Straight), (12, culetref28_One.sp f_culetref28_One), (15, fresnel_Reflectance.sp f_fresnel_Reflectance), (27, culetref27_Of.sp f_culetref27_Of)], []⟩ 40 Try.f9 [] [] = culetlaw30_awake.K f_fresnel_Straight f_culetref28_One f_fresnel_Reflectance f_culetref27_Of (fun r => some (.bool r, [])) := by kernel_rfl
def culetlaw30_awake : Bool := culetlaw30_awake.K fresnel_Straight culetref28_One fresnel_Reflectance culetref27_Of id
theorem culetlaw30_awake.nat {R : Type} (f_fresnel_Straight : Int → Int → Int → Int → (Int × Int × Int)) (f_culetref28_One : (Int × Int)) (f_fresnel_Reflectance : Int → Int → Int → Int → Int → Int → Int → Int → (Int × Int × Int)) (f_culetref27_Of : Int → (Int × Int × Int)) (k : (Bool) → R) : culetlaw30_awake.K f_fresnel_Straight f_culetref28_One f_fresnel_Reflectance f_culetref27_Of k = k (culetlaw30_awake.K f_fresnel_Straight f_culetref28_One f_fresnel_Reflectance f_culetref27_Of id) := by
  simp only [culetlaw30_awake.K, acond k, id_eq]
theorem awake_true : culetlaw30_awake = true := by kernel_rfl
theorem culetlaw30_awake.ok : SOK Try.prog 9 (culetlaw30_awake.sp culetlaw30_awake) := by
  refine sok_of (E := ⟨[(10, fresnel_Straight.sp fresnel_Straight), (12, culetref28_One.sp culetref28_One), (15, fresnel_Reflectance.sp fresnel_Reflectance), (27, culetref27_Of.sp culetref27_Of)], []⟩) ⟨(specs_cons fresnel_Straight.ok (specs_cons culetref28_One.ok (specs_cons fresnel_Reflectance.ok (specs_cons culetref27_Of.ok specs_nil)))), inl_nil, mixed_ok⟩ 40 Try.func9 (by decide) rfl fun vs bl v bl' h => ?_
  unfold culetlaw30_awake.sp at h
  split at h
  · simp only [Option.some.injEq, Prod.mk.injEq, true_and] at h
    obtain ⟨rfl, rfl⟩ := h
    refine ⟨?_, by simp [okV, Nat.blt], clo_spec 8 _ (by kernel_rfl), told_blk (by kernel_rfl)⟩
    refine (culetlaw30_awake.run fresnel_Straight culetref28_One fresnel_Reflectance culetref27_Of).trans ?_
    refine (culetlaw30_awake.nat fresnel_Straight culetref28_One fresnel_Reflectance culetref27_Of _).trans ?_
    kernel_rfl
  · cases h

/-! ### culet/culetref27.Valid (45) -/
def culetref27_Valid.K {R : Type} (a0_0 : Int) (a0_1 : Int) (k : (Bool) → R) : R :=
  bif decide (-1073741824 ≤ a0_0) then
    bif decide (a0_0 ≤ a0_1) then
      k (decide (a0_1 ≤ 1073741824))
    else
      k (false)
  else
    k (false)
set_option maxRecDepth 100000 in
theorem culetref27_Valid.run (a0_0 : Int) (a0_1 : Int) : xfn Try.prog ⟨[], []⟩ 40 Try.f45 [.agg ⟨[.int .i64 a0_0, .int .i64 a0_1]⟩] [] = culetref27_Valid.K a0_0 a0_1 (fun r => some (.bool r, [])) := by kernel_rfl
def culetref27_Valid (a0_0 : Int) (a0_1 : Int) : Bool := culetref27_Valid.K a0_0 a0_1 id
theorem culetref27_Valid.nat {R : Type} (a0_0 : Int) (a0_1 : Int) (k : (Bool) → R) : culetref27_Valid.K a0_0 a0_1 k = k (culetref27_Valid.K a0_0 a0_1 id) := by
  simp only [culetref27_Valid.K, acond k, id_eq]
theorem culetref27_Valid.eq (a b : Int) : culetref27_Valid a b = V a b := by
  simp only [culetref27_Valid, culetref27_Valid.K, id_eq, V]
  by_cases h1 : -1073741824 ≤ a <;> by_cases h2 : a ≤ b <;> by_cases h3 : b ≤ 1073741824 <;> simp [h1, h2, h3]
theorem culetref27_Valid.ok : SOK Try.prog 45 (culetref27_Valid.sp culetref27_Valid) := by
  refine sok_of (E := ⟨[], []⟩) ⟨specs_nil, inl_nil, mixed_ok⟩ 40 Try.func45 (by decide) rfl fun vs bl v bl' h => ?_
  unfold culetref27_Valid.sp at h
  split at h
  · rename_i a0_0 a0_1
    simp only [Option.some.injEq, Prod.mk.injEq, true_and] at h
    obtain ⟨rfl, rfl⟩ := h
    refine ⟨?_, by simp [okV, Nat.blt], clo_spec 8 _ (by kernel_rfl), told_blk (by kernel_rfl)⟩
    refine (culetref27_Valid.run a0_0 a0_1).trans ?_
    refine (culetref27_Valid.nat a0_0 a0_1 _).trans ?_
    kernel_rfl
  · cases h

/-! ### culet/culetref30.between (30) -/
def culetref30_between.K {R : Type} (f_culetref27_Valid : Int → Int → (Bool)) (a0_0 : Int) (a0_1 : Int) (a1 : Int) (a2 : Int) (k : (Bool) → R) : R :=
  let t0 := f_culetref27_Valid a0_0 a0_1
  bif t0 then
    bif decide (IntKind.i64.wrap (a1 * 16777216) ≤ a0_0) then
      k (decide (a0_1 ≤ IntKind.i64.wrap (a2 * 16777216)))
    else
      k (false)
  else
    k (false)
set_option maxRecDepth 100000 in
theorem culetref30_between.run (f_culetref27_Valid : Int → Int → (Bool)) (a0_0 : Int) (a0_1 : Int) (a1 : Int) (a2 : Int) : xfn Try.prog ⟨[(45, culetref27_Valid.sp f_culetref27_Valid)], []⟩ 40 Try.f30 [.agg ⟨[.int .i64 a0_0, .int .i64 a0_1]⟩, .int .i64 a1, .int .i64 a2] [] = culetref30_between.K f_culetref27_Valid a0_0 a0_1 a1 a2 (fun r => some (.bool r, [])) := by kernel_rfl
def culetref30_between (a0_0 : Int) (a0_1 : Int) (a1 : Int) (a2 : Int) : Bool := culetref30_between.K culetref27_Valid a0_0 a0_1 a1 a2 id
theorem culetref30_between.nat {R : Type} (f_culetref27_Valid : Int → Int → (Bool)) (a0_0 : Int) (a0_1 : Int) (a1 : Int) (a2 : Int) (k : (Bool) → R) : culetref30_between.K f_culetref27_Valid a0_0 a0_1 a1 a2 k = k (culetref30_between.K f_culetref27_Valid a0_0 a0_1 a1 a2 id) := by
  simp only [culetref30_between.K, acond k, id_eq]
theorem culetref30_between.eq {a b k l : Int} (hk : 0 ≤ k) (hk' : k ≤ 4) (hl : 0 ≤ l) (hl' : l ≤ 4) : culetref30_between a b k l = wn a b k l := by
  simp only [culetref30_between, culetref30_between.K, id_eq, culetref27_Valid.eq, wn]
  rw [w64 (by omega) (by omega), w64 (by omega) (by omega)]
  cases V a b <;> by_cases h : k * 16777216 ≤ a <;> simp [h]
theorem culetref30_between.ok : SOK Try.prog 30 (culetref30_between.sp culetref30_between) := by
  refine sok_of (E := ⟨[(45, culetref27_Valid.sp culetref27_Valid)], []⟩) ⟨(specs_cons culetref27_Valid.ok specs_nil), inl_nil, mixed_ok⟩ 40 Try.func30 (by decide) rfl fun vs bl v bl' h => ?_
  unfold culetref30_between.sp at h
  split at h
  · rename_i a0_0 a0_1 a1 a2
    simp only [Option.some.injEq, Prod.mk.injEq, true_and] at h
    obtain ⟨rfl, rfl⟩ := h
    refine ⟨?_, by simp [okV, Nat.blt], clo_spec 8 _ (by kernel_rfl), told_blk (by kernel_rfl)⟩
    refine (culetref30_between.run culetref27_Valid a0_0 a0_1 a1 a2).trans ?_
    refine (culetref30_between.nat culetref27_Valid a0_0 a0_1 a1 a2 _).trans ?_
    kernel_rfl
  · cases h

/-! ### (*culet/culetref28.Calc).kept (55) -/
def culetref28_Calc_kept.K {R : Type} (s0_0 : Int) (a1_0 : Int) (a1_1 : Int) (a2 : Int) (k : Int × Int × Int → R) : R :=
  bif s0_0 == 0 then
    k (a1_0, a1_1, a2)
  else
    k (a1_0, a1_1, s0_0)
set_option maxRecDepth 100000 in
theorem culetref28_Calc_kept.run (s0_0 : Int) (a1_0 : Int) (a1_1 : Int) (a2 : Int) : xfn Try.prog ⟨[], []⟩ 40 Try.f55 [.pointer (some ⟨0, 0, none⟩), .agg ⟨[.int .i64 a1_0, .int .i64 a1_1]⟩, .int .i64 a2] [.cs [.int .i64 s0_0] 48] = culetref28_Calc_kept.K s0_0 a1_0 a1_1 a2 (fun r => some (.agg ⟨[.int .i64 r.1, .int .i64 r.2.1]⟩, [.cs [.int .i64 r.2.2] 48])) := by kernel_rfl
def culetref28_Calc_kept (s0_0 : Int) (a1_0 : Int) (a1_1 : Int) (a2 : Int) : Int × Int × Int := culetref28_Calc_kept.K s0_0 a1_0 a1_1 a2 id
theorem culetref28_Calc_kept.nat {R : Type} (s0_0 : Int) (a1_0 : Int) (a1_1 : Int) (a2 : Int) (k : Int × Int × Int → R) : culetref28_Calc_kept.K s0_0 a1_0 a1_1 a2 k = k (culetref28_Calc_kept.K s0_0 a1_0 a1_1 a2 id) := by
  simp only [culetref28_Calc_kept.K, acond k, id_eq]
theorem kept_eq (s a b e : Int) : culetref28_Calc_kept s a b e = (a, b, kp s e) := by
  simp only [culetref28_Calc_kept, culetref28_Calc_kept.K, id_eq, kp]
  cases s == 0 <;> rfl
theorem culetref28_Calc_kept.ok : SOK Try.prog 55 (culetref28_Calc_kept.sp culetref28_Calc_kept) := by
  refine sok_of (E := ⟨[], []⟩) ⟨specs_nil, inl_nil, mixed_ok⟩ 40 Try.func55 (by decide) rfl fun vs bl v bl' h => ?_
  unfold culetref28_Calc_kept.sp at h
  split at h
  · rename_i a1_0 a1_1 a2 s0_0
    simp only [Option.some.injEq, Prod.mk.injEq, true_and] at h
    obtain ⟨rfl, rfl⟩ := h
    refine ⟨?_, by simp [okV, Nat.blt], clo_spec 8 _ (by kernel_rfl), told_blk (by kernel_rfl)⟩
    refine (culetref28_Calc_kept.run s0_0 a1_0 a1_1 a2).trans ?_
    refine (culetref28_Calc_kept.nat s0_0 a1_0 a1_1 a2 _).trans ?_
    kernel_rfl
  · cases h

/-! ### culet/culetref27.both (41) -/
def culetref27_both.K {R : Type} (f_culetref27_Valid : Int → Int → (Bool)) (a0_0 : Int) (a0_1 : Int) (a1_0 : Int) (a1_1 : Int) (k : (Bool) → R) : R :=
  let t0 := f_culetref27_Valid a0_0 a0_1
  bif t0 then
    let t1 := f_culetref27_Valid a1_0 a1_1
    k (t1)
  else
    k (false)
set_option maxRecDepth 100000 in
theorem culetref27_both.run (f_culetref27_Valid : Int → Int → (Bool)) (a0_0 : Int) (a0_1 : Int) (a1_0 : Int) (a1_1 : Int) : xfn Try.prog ⟨[(45, culetref27_Valid.sp f_culetref27_Valid)], []⟩ 40 Try.f41 [.agg ⟨[.int .i64 a0_0, .int .i64 a0_1]⟩, .agg ⟨[.int .i64 a1_0, .int .i64 a1_1]⟩] [] = culetref27_both.K f_culetref27_Valid a0_0 a0_1 a1_0 a1_1 (fun r => some (.bool r, [])) := by kernel_rfl
def culetref27_both (a0_0 : Int) (a0_1 : Int) (a1_0 : Int) (a1_1 : Int) : Bool := culetref27_both.K culetref27_Valid a0_0 a0_1 a1_0 a1_1 id
theorem culetref27_both.nat {R : Type} (f_culetref27_Valid : Int → Int → (Bool)) (a0_0 : Int) (a0_1 : Int) (a1_0 : Int) (a1_1 : Int) (k : (Bool) → R) : culetref27_both.K f_culetref27_Valid a0_0 a0_1 a1_0 a1_1 k = k (culetref27_both.K f_culetref27_Valid a0_0 a0_1 a1_0 a1_1 id) := by
  simp only [culetref27_both.K, acond k, id_eq]
theorem culetref27_both.eq (a b c d : Int) : culetref27_both a b c d = (V a b && V c d) := by
  simp only [culetref27_both, culetref27_both.K, id_eq, culetref27_Valid.eq]
  cases V a b <;> simp
theorem culetref27_both.ok : SOK Try.prog 41 (culetref27_both.sp culetref27_both) := by
  refine sok_of (E := ⟨[(45, culetref27_Valid.sp culetref27_Valid)], []⟩) ⟨(specs_cons culetref27_Valid.ok specs_nil), inl_nil, mixed_ok⟩ 40 Try.func41 (by decide) rfl fun vs bl v bl' h => ?_
  unfold culetref27_both.sp at h
  split at h
  · rename_i a0_0 a0_1 a1_0 a1_1
    simp only [Option.some.injEq, Prod.mk.injEq, true_and] at h
    obtain ⟨rfl, rfl⟩ := h
    refine ⟨?_, by simp [okV, Nat.blt], clo_spec 8 _ (by kernel_rfl), told_blk (by kernel_rfl)⟩
    refine (culetref27_both.run culetref27_Valid a0_0 a0_1 a1_0 a1_1).trans ?_
    refine (culetref27_both.nat culetref27_Valid a0_0 a0_1 a1_0 a1_1 _).trans ?_
    kernel_rfl
  · cases h

/-! ### culet/culetref27.checked (58) -/
def culetref27_checked.K {R : Type} (f_culetref27_Valid : Int → Int → (Bool)) (a0 : Int) (a1 : Int) (k : Int × Int × Int → R) : R :=
  let t0 := f_culetref27_Valid a0 a1
  bif !t0 then
    k (0, 0, 3)
  else
    k (a0, a1, 0)
set_option maxRecDepth 100000 in
theorem culetref27_checked.run (f_culetref27_Valid : Int → Int → (Bool)) (a0 : Int) (a1 : Int) : xfn Try.prog ⟨[(45, culetref27_Valid.sp f_culetref27_Valid)], []⟩ 40 Try.f58 [.int .i64 a0, .int .i64 a1] [] = culetref27_checked.K f_culetref27_Valid a0 a1 (fun r => some (.tuple ⟨[.agg ⟨[.int .i64 r.1, .int .i64 r.2.1]⟩, .int .i64 r.2.2]⟩, [])) := by kernel_rfl
def culetref27_checked (a0 : Int) (a1 : Int) : Int × Int × Int := culetref27_checked.K culetref27_Valid a0 a1 id
theorem culetref27_checked.nat {R : Type} (f_culetref27_Valid : Int → Int → (Bool)) (a0 : Int) (a1 : Int) (k : Int × Int × Int → R) : culetref27_checked.K f_culetref27_Valid a0 a1 k = k (culetref27_checked.K f_culetref27_Valid a0 a1 id) := by
  simp only [culetref27_checked.K, acond k, id_eq]
theorem culetref27_checked.eq (a b : Int) : culetref27_checked a b = chk a b := by
  simp only [culetref27_checked, culetref27_checked.K, id_eq, culetref27_Valid.eq, chk]
  cases V a b <;> simp
theorem culetref27_checked.ok : SOK Try.prog 58 (culetref27_checked.sp culetref27_checked) := by
  refine sok_of (E := ⟨[(45, culetref27_Valid.sp culetref27_Valid)], []⟩) ⟨(specs_cons culetref27_Valid.ok specs_nil), inl_nil, mixed_ok⟩ 40 Try.func58 (by decide) rfl fun vs bl v bl' h => ?_
  unfold culetref27_checked.sp at h
  split at h
  · rename_i a0 a1
    simp only [Option.some.injEq, Prod.mk.injEq, true_and] at h
    obtain ⟨rfl, rfl⟩ := h
    refine ⟨?_, by simp [okV, Nat.blt], clo_spec 8 _ (by kernel_rfl), told_blk (by kernel_rfl)⟩
    refine (culetref27_checked.run culetref27_Valid a0 a1).trans ?_
    refine (culetref27_checked.nat culetref27_Valid a0 a1 _).trans ?_
    kernel_rfl
  · cases h

/-! ### culet/culetref27.Add (57) -/
def culetref27_Add.K {R : Type} (f_culetref27_both : Int → Int → Int → Int → (Bool)) (f_culetref27_checked : Int → Int → (Int × Int × Int)) (a0_0 : Int) (a0_1 : Int) (a1_0 : Int) (a1_1 : Int) (k : Int × Int × Int → R) : R :=
  let t0 := f_culetref27_both a0_0 a0_1 a1_0 a1_1
  bif !t0 then
    k (0, 0, 1)
  else
    let t1 := f_culetref27_checked (IntKind.i64.wrap (a0_0 + a1_0)) (IntKind.i64.wrap (a0_1 + a1_1))
    k (t1.fst, t1.snd.fst, t1.snd.snd)
set_option maxRecDepth 100000 in
theorem culetref27_Add.run (f_culetref27_both : Int → Int → Int → Int → (Bool)) (f_culetref27_checked : Int → Int → (Int × Int × Int)) (a0_0 : Int) (a0_1 : Int) (a1_0 : Int) (a1_1 : Int) : xfn Try.prog ⟨[(41, culetref27_both.sp f_culetref27_both), (58, culetref27_checked.sp f_culetref27_checked)], []⟩ 40 Try.f57 [.agg ⟨[.int .i64 a0_0, .int .i64 a0_1]⟩, .agg ⟨[.int .i64 a1_0, .int .i64 a1_1]⟩] [] = culetref27_Add.K f_culetref27_both f_culetref27_checked a0_0 a0_1 a1_0 a1_1 (fun r => some (.tuple ⟨[.agg ⟨[.int .i64 r.1, .int .i64 r.2.1]⟩, .int .i64 r.2.2]⟩, [])) := by kernel_rfl
def culetref27_Add (a0_0 : Int) (a0_1 : Int) (a1_0 : Int) (a1_1 : Int) : Int × Int × Int := culetref27_Add.K culetref27_both culetref27_checked a0_0 a0_1 a1_0 a1_1 id
theorem culetref27_Add.nat {R : Type} (f_culetref27_both : Int → Int → Int → Int → (Bool)) (f_culetref27_checked : Int → Int → (Int × Int × Int)) (a0_0 : Int) (a0_1 : Int) (a1_0 : Int) (a1_1 : Int) (k : Int × Int × Int → R) : culetref27_Add.K f_culetref27_both f_culetref27_checked a0_0 a0_1 a1_0 a1_1 k = k (culetref27_Add.K f_culetref27_both f_culetref27_checked a0_0 a0_1 a1_0 a1_1 id) := by
  simp only [culetref27_Add.K, acond k, id_eq]
theorem culetref27_Add.eq (a b c d : Int) : culetref27_Add a b c d = iadd a b c d := by
  simp only [culetref27_Add, culetref27_Add.K, id_eq, culetref27_both.eq, iadd]
  cases h : V a b && V c d with
  | false => simp
  | true =>
    have h' := h
    rw [Bool.and_eq_true] at h'
    have := V_iff.1 h'.1
    have := V_iff.1 h'.2
    rw [w64 (by omega) (by omega), w64 (by omega) (by omega), culetref27_checked.eq]
    simp
theorem culetref27_Add.ok : SOK Try.prog 57 (culetref27_Add.sp culetref27_Add) := by
  refine sok_of (E := ⟨[(41, culetref27_both.sp culetref27_both), (58, culetref27_checked.sp culetref27_checked)], []⟩) ⟨(specs_cons culetref27_both.ok (specs_cons culetref27_checked.ok specs_nil)), inl_nil, mixed_ok⟩ 40 Try.func57 (by decide) rfl fun vs bl v bl' h => ?_
  unfold culetref27_Add.sp at h
  split at h
  · rename_i a0_0 a0_1 a1_0 a1_1
    simp only [Option.some.injEq, Prod.mk.injEq, true_and] at h
    obtain ⟨rfl, rfl⟩ := h
    refine ⟨?_, by simp [okV, Nat.blt], clo_spec 8 _ (by kernel_rfl), told_blk (by kernel_rfl)⟩
    refine (culetref27_Add.run culetref27_both culetref27_checked a0_0 a0_1 a1_0 a1_1).trans ?_
    refine (culetref27_Add.nat culetref27_both culetref27_checked a0_0 a0_1 a1_0 a1_1 _).trans ?_
    kernel_rfl
  · cases h

/-! ### (*culet/culetref28.Calc).Add (37) -/
def culetref28_Calc_Add.K {R : Type} (f_culetref28_Calc_kept : Int → Int → Int → Int → (Int × Int × Int)) (f_culetref27_Add : Int → Int → Int → Int → (Int × Int × Int)) (s0_0 : Int) (a1_0 : Int) (a1_1 : Int) (a2_0 : Int) (a2_1 : Int) (k : Int × Int × Int → R) : R :=
  let t0 := f_culetref27_Add a1_0 a1_1 a2_0 a2_1
  let t1 := f_culetref28_Calc_kept s0_0 t0.fst t0.snd.fst t0.snd.snd
  k (t1.fst, t1.snd.fst, t1.snd.snd)
set_option maxRecDepth 100000 in
theorem culetref28_Calc_Add.run (f_culetref28_Calc_kept : Int → Int → Int → Int → (Int × Int × Int)) (f_culetref27_Add : Int → Int → Int → Int → (Int × Int × Int)) (s0_0 : Int) (a1_0 : Int) (a1_1 : Int) (a2_0 : Int) (a2_1 : Int) : xfn Try.prog ⟨[(55, culetref28_Calc_kept.sp f_culetref28_Calc_kept), (57, culetref27_Add.sp f_culetref27_Add)], []⟩ 40 Try.f37 [.pointer (some ⟨0, 0, none⟩), .agg ⟨[.int .i64 a1_0, .int .i64 a1_1]⟩, .agg ⟨[.int .i64 a2_0, .int .i64 a2_1]⟩] [.cs [.int .i64 s0_0] 48] = culetref28_Calc_Add.K f_culetref28_Calc_kept f_culetref27_Add s0_0 a1_0 a1_1 a2_0 a2_1 (fun r => some (.agg ⟨[.int .i64 r.1, .int .i64 r.2.1]⟩, [.cs [.int .i64 r.2.2] 48])) := by kernel_rfl
def culetref28_Calc_Add (s0_0 : Int) (a1_0 : Int) (a1_1 : Int) (a2_0 : Int) (a2_1 : Int) : Int × Int × Int := culetref28_Calc_Add.K culetref28_Calc_kept culetref27_Add s0_0 a1_0 a1_1 a2_0 a2_1 id
theorem culetref28_Calc_Add.nat {R : Type} (f_culetref28_Calc_kept : Int → Int → Int → Int → (Int × Int × Int)) (f_culetref27_Add : Int → Int → Int → Int → (Int × Int × Int)) (s0_0 : Int) (a1_0 : Int) (a1_1 : Int) (a2_0 : Int) (a2_1 : Int) (k : Int × Int × Int → R) : culetref28_Calc_Add.K f_culetref28_Calc_kept f_culetref27_Add s0_0 a1_0 a1_1 a2_0 a2_1 k = k (culetref28_Calc_Add.K f_culetref28_Calc_kept f_culetref27_Add s0_0 a1_0 a1_1 a2_0 a2_1 id) := by
  simp only [culetref28_Calc_Add.K, acond k, id_eq]
theorem culetref28_Calc_Add.ok : SOK Try.prog 37 (culetref28_Calc_Add.sp culetref28_Calc_Add) := by
  refine sok_of (E := ⟨[(55, culetref28_Calc_kept.sp culetref28_Calc_kept), (57, culetref27_Add.sp culetref27_Add)], []⟩) ⟨(specs_cons culetref28_Calc_kept.ok (specs_cons culetref27_Add.ok specs_nil)), inl_nil, mixed_ok⟩ 40 Try.func37 (by decide) rfl fun vs bl v bl' h => ?_
  unfold culetref28_Calc_Add.sp at h
  split at h
  · rename_i a1_0 a1_1 a2_0 a2_1 s0_0
    simp only [Option.some.injEq, Prod.mk.injEq, true_and] at h
    obtain ⟨rfl, rfl⟩ := h
    refine ⟨?_, by simp [okV, Nat.blt], clo_spec 8 _ (by kernel_rfl), told_blk (by kernel_rfl)⟩
    refine (culetref28_Calc_Add.run culetref28_Calc_kept culetref27_Add s0_0 a1_0 a1_1 a2_0 a2_1).trans ?_
    refine (culetref28_Calc_Add.nat culetref28_Calc_kept culetref27_Add s0_0 a1_0 a1_1 a2_0 a2_1 _).trans ?_
    kernel_rfl
  · cases h

/-! ### culet/culetref30.Cut (38) -/
def culetref30_Cut.K {R : Type} (a0_0 : Int) (a0_1 : Int) (k : Int × Int → R) : R :=
  k (if (if 16777216 < a0_0 then 16777216 else a0_0) > 0 then if 16777216 < a0_0 then 16777216 else a0_0 else 0, if (if 16777216 < a0_1 then 16777216 else a0_1) > 0 then if 16777216 < a0_1 then 16777216 else a0_1 else 0)
set_option maxRecDepth 100000 in
theorem culetref30_Cut.run (a0_0 : Int) (a0_1 : Int) : xfn Try.prog ⟨[], []⟩ 40 Try.f38 [.agg ⟨[.int .i64 a0_0, .int .i64 a0_1]⟩] [] = culetref30_Cut.K a0_0 a0_1 (fun r => some (.agg ⟨[.int .i64 r.1, .int .i64 r.2]⟩, [])) := by kernel_rfl
def culetref30_Cut (a0_0 : Int) (a0_1 : Int) : Int × Int := culetref30_Cut.K a0_0 a0_1 id
theorem culetref30_Cut.nat {R : Type} (a0_0 : Int) (a0_1 : Int) (k : Int × Int → R) : culetref30_Cut.K a0_0 a0_1 k = k (culetref30_Cut.K a0_0 a0_1 id) := by
  simp only [culetref30_Cut.K, acond k, id_eq]
theorem culetref30_Cut.eq (a b : Int) : culetref30_Cut a b = (cut a, cut b) := by
  have e : ∀ x : Int, (if (if 16777216 < x then 16777216 else x) > 0 then if 16777216 < x then 16777216 else x else 0) = cut x := fun x => by
    unfold cut
    split <;> split <;> omega
  simp only [culetref30_Cut, culetref30_Cut.K, id_eq, e]
theorem culetref30_Cut.ok : SOK Try.prog 38 (culetref30_Cut.sp culetref30_Cut) := by
  refine sok_of (E := ⟨[], []⟩) ⟨specs_nil, inl_nil, mixed_ok⟩ 40 Try.func38 (by decide) rfl fun vs bl v bl' h => ?_
  unfold culetref30_Cut.sp at h
  split at h
  · rename_i a0_0 a0_1
    simp only [Option.some.injEq, Prod.mk.injEq, true_and] at h
    obtain ⟨rfl, rfl⟩ := h
    refine ⟨?_, by simp [okV, Nat.blt], clo_spec 8 _ (by kernel_rfl), told_blk (by kernel_rfl)⟩
    refine (culetref30_Cut.run a0_0 a0_1).trans ?_
    refine (culetref30_Cut.nat a0_0 a0_1 _).trans ?_
    kernel_rfl
  · cases h

/-! ### culet/culetref27.Sub (40) -/
def culetref27_Sub.K {R : Type} (f_culetref27_both : Int → Int → Int → Int → (Bool)) (f_culetref27_checked : Int → Int → (Int × Int × Int)) (a0_0 : Int) (a0_1 : Int) (a1_0 : Int) (a1_1 : Int) (k : Int × Int × Int → R) : R :=
  let t0 := f_culetref27_both a0_0 a0_1 a1_0 a1_1
  bif !t0 then
    k (0, 0, 1)
  else
    let t1 := f_culetref27_checked (IntKind.i64.wrap (a0_0 - a1_1)) (IntKind.i64.wrap (a0_1 - a1_0))
    k (t1.fst, t1.snd.fst, t1.snd.snd)
set_option maxRecDepth 100000 in
theorem culetref27_Sub.run (f_culetref27_both : Int → Int → Int → Int → (Bool)) (f_culetref27_checked : Int → Int → (Int × Int × Int)) (a0_0 : Int) (a0_1 : Int) (a1_0 : Int) (a1_1 : Int) : xfn Try.prog ⟨[(41, culetref27_both.sp f_culetref27_both), (58, culetref27_checked.sp f_culetref27_checked)], []⟩ 40 Try.f40 [.agg ⟨[.int .i64 a0_0, .int .i64 a0_1]⟩, .agg ⟨[.int .i64 a1_0, .int .i64 a1_1]⟩] [] = culetref27_Sub.K f_culetref27_both f_culetref27_checked a0_0 a0_1 a1_0 a1_1 (fun r => some (.tuple ⟨[.agg ⟨[.int .i64 r.1, .int .i64 r.2.1]⟩, .int .i64 r.2.2]⟩, [])) := by kernel_rfl
def culetref27_Sub (a0_0 : Int) (a0_1 : Int) (a1_0 : Int) (a1_1 : Int) : Int × Int × Int := culetref27_Sub.K culetref27_both culetref27_checked a0_0 a0_1 a1_0 a1_1 id
theorem culetref27_Sub.nat {R : Type} (f_culetref27_both : Int → Int → Int → Int → (Bool)) (f_culetref27_checked : Int → Int → (Int × Int × Int)) (a0_0 : Int) (a0_1 : Int) (a1_0 : Int) (a1_1 : Int) (k : Int × Int × Int → R) : culetref27_Sub.K f_culetref27_both f_culetref27_checked a0_0 a0_1 a1_0 a1_1 k = k (culetref27_Sub.K f_culetref27_both f_culetref27_checked a0_0 a0_1 a1_0 a1_1 id) := by
  simp only [culetref27_Sub.K, acond k, id_eq]
theorem culetref27_Sub.eq (a b c d : Int) : culetref27_Sub a b c d = isub a b c d := by
  simp only [culetref27_Sub, culetref27_Sub.K, id_eq, culetref27_both.eq, isub]
  cases h : V a b && V c d with
  | false => simp
  | true =>
    have h' := h
    rw [Bool.and_eq_true] at h'
    have := V_iff.1 h'.1
    have := V_iff.1 h'.2
    rw [w64 (by omega) (by omega), w64 (by omega) (by omega), culetref27_checked.eq]
    simp
theorem culetref27_Sub.ok : SOK Try.prog 40 (culetref27_Sub.sp culetref27_Sub) := by
  refine sok_of (E := ⟨[(41, culetref27_both.sp culetref27_both), (58, culetref27_checked.sp culetref27_checked)], []⟩) ⟨(specs_cons culetref27_both.ok (specs_cons culetref27_checked.ok specs_nil)), inl_nil, mixed_ok⟩ 40 Try.func40 (by decide) rfl fun vs bl v bl' h => ?_
  unfold culetref27_Sub.sp at h
  split at h
  · rename_i a0_0 a0_1 a1_0 a1_1
    simp only [Option.some.injEq, Prod.mk.injEq, true_and] at h
    obtain ⟨rfl, rfl⟩ := h
    refine ⟨?_, by simp [okV, Nat.blt], clo_spec 8 _ (by kernel_rfl), told_blk (by kernel_rfl)⟩
    refine (culetref27_Sub.run culetref27_both culetref27_checked a0_0 a0_1 a1_0 a1_1).trans ?_
    refine (culetref27_Sub.nat culetref27_both culetref27_checked a0_0 a0_1 a1_0 a1_1 _).trans ?_
    kernel_rfl
  · cases h

/-! ### (*culet/culetref28.Calc).Sub (46) -/
def culetref28_Calc_Sub.K {R : Type} (f_culetref27_Sub : Int → Int → Int → Int → (Int × Int × Int)) (f_culetref28_Calc_kept : Int → Int → Int → Int → (Int × Int × Int)) (s0_0 : Int) (a1_0 : Int) (a1_1 : Int) (a2_0 : Int) (a2_1 : Int) (k : Int × Int × Int → R) : R :=
  let t0 := f_culetref27_Sub a1_0 a1_1 a2_0 a2_1
  let t1 := f_culetref28_Calc_kept s0_0 t0.fst t0.snd.fst t0.snd.snd
  k (t1.fst, t1.snd.fst, t1.snd.snd)
set_option maxRecDepth 100000 in
theorem culetref28_Calc_Sub.run (f_culetref27_Sub : Int → Int → Int → Int → (Int × Int × Int)) (f_culetref28_Calc_kept : Int → Int → Int → Int → (Int × Int × Int)) (s0_0 : Int) (a1_0 : Int) (a1_1 : Int) (a2_0 : Int) (a2_1 : Int) : xfn Try.prog ⟨[(40, culetref27_Sub.sp f_culetref27_Sub), (55, culetref28_Calc_kept.sp f_culetref28_Calc_kept)], []⟩ 40 Try.f46 [.pointer (some ⟨0, 0, none⟩), .agg ⟨[.int .i64 a1_0, .int .i64 a1_1]⟩, .agg ⟨[.int .i64 a2_0, .int .i64 a2_1]⟩] [.cs [.int .i64 s0_0] 48] = culetref28_Calc_Sub.K f_culetref27_Sub f_culetref28_Calc_kept s0_0 a1_0 a1_1 a2_0 a2_1 (fun r => some (.agg ⟨[.int .i64 r.1, .int .i64 r.2.1]⟩, [.cs [.int .i64 r.2.2] 48])) := by kernel_rfl
def culetref28_Calc_Sub (s0_0 : Int) (a1_0 : Int) (a1_1 : Int) (a2_0 : Int) (a2_1 : Int) : Int × Int × Int := culetref28_Calc_Sub.K culetref27_Sub culetref28_Calc_kept s0_0 a1_0 a1_1 a2_0 a2_1 id
theorem culetref28_Calc_Sub.nat {R : Type} (f_culetref27_Sub : Int → Int → Int → Int → (Int × Int × Int)) (f_culetref28_Calc_kept : Int → Int → Int → Int → (Int × Int × Int)) (s0_0 : Int) (a1_0 : Int) (a1_1 : Int) (a2_0 : Int) (a2_1 : Int) (k : Int × Int × Int → R) : culetref28_Calc_Sub.K f_culetref27_Sub f_culetref28_Calc_kept s0_0 a1_0 a1_1 a2_0 a2_1 k = k (culetref28_Calc_Sub.K f_culetref27_Sub f_culetref28_Calc_kept s0_0 a1_0 a1_1 a2_0 a2_1 id) := by
  simp only [culetref28_Calc_Sub.K, acond k, id_eq]
theorem culetref28_Calc_Sub.ok : SOK Try.prog 46 (culetref28_Calc_Sub.sp culetref28_Calc_Sub) := by
  refine sok_of (E := ⟨[(40, culetref27_Sub.sp culetref27_Sub), (55, culetref28_Calc_kept.sp culetref28_Calc_kept)], []⟩) ⟨(specs_cons culetref27_Sub.ok (specs_cons culetref28_Calc_kept.ok specs_nil)), inl_nil, mixed_ok⟩ 40 Try.func46 (by decide) rfl fun vs bl v bl' h => ?_
  unfold culetref28_Calc_Sub.sp at h
  split at h
  · rename_i a1_0 a1_1 a2_0 a2_1 s0_0
    simp only [Option.some.injEq, Prod.mk.injEq, true_and] at h
    obtain ⟨rfl, rfl⟩ := h
    refine ⟨?_, by simp [okV, Nat.blt], clo_spec 8 _ (by kernel_rfl), told_blk (by kernel_rfl)⟩
    refine (culetref28_Calc_Sub.run culetref27_Sub culetref28_Calc_kept s0_0 a1_0 a1_1 a2_0 a2_1).trans ?_
    refine (culetref28_Calc_Sub.nat culetref27_Sub culetref28_Calc_kept s0_0 a1_0 a1_1 a2_0 a2_1 _).trans ?_
    kernel_rfl
  · cases h

/-! ### culet/culetref27.floor (61) -/
def culetref27_floor.K {R : Type} (a0 : Int) (a1 : Int) (k : (Int) → Option R) : Option R :=
  bif decide (a1 < 0) then
    bif IntKind.i64.wrap (0 - a1) != 0 then
      bif decide (IntKind.i64.wrap (IntKind.i64.wrap ((IntKind.i64.wrap (0 - a0)).tdiv (IntKind.i64.wrap (0 - a1))) * IntKind.i64.wrap (0 - a1)) > IntKind.i64.wrap (0 - a0)) then
        k (IntKind.i64.wrap (IntKind.i64.wrap ((IntKind.i64.wrap (0 - a0)).tdiv (IntKind.i64.wrap (0 - a1))) - 1))
      else
        k (IntKind.i64.wrap ((IntKind.i64.wrap (0 - a0)).tdiv (IntKind.i64.wrap (0 - a1))))
    else
      none
  else
    bif a1 != 0 then
      bif decide (IntKind.i64.wrap (IntKind.i64.wrap (a0.tdiv a1) * a1) > a0) then
        k (IntKind.i64.wrap (IntKind.i64.wrap (a0.tdiv a1) - 1))
      else
        k (IntKind.i64.wrap (a0.tdiv a1))
    else
      none
set_option maxRecDepth 100000 in
theorem culetref27_floor.run (a0 : Int) (a1 : Int) : xfn Try.prog ⟨[], []⟩ 40 Try.f61 [.int .i64 a0, .int .i64 a1] [] = culetref27_floor.K a0 a1 (fun r => some (.int .i64 r, [])) := by kernel_rfl
def culetref27_floor.o (a0 : Int) (a1 : Int) : Option (Int) := culetref27_floor.K a0 a1 some
def culetref27_floor.pre (a0 : Int) (a1 : Int) : Bool := (culetref27_floor.o a0 a1).isSome
def culetref27_floor (a0 : Int) (a1 : Int) : Int := (culetref27_floor.o a0 a1).getD default
theorem culetref27_floor.nat {R : Type} (a0 : Int) (a1 : Int) (k : (Int) → Option R) : culetref27_floor.K a0 a1 k = (culetref27_floor.K a0 a1 some).bind k := by
  simp only [culetref27_floor.K, bcond, Option.bind_some, Option.bind_none]
theorem ref_floor_pos {a b : Int} (hb : 0 < b) (h1 : -4611686018427387904 ≤ a) (h2 : a ≤ 4611686018427387904) : (bif decide (IntKind.i64.wrap (IntKind.i64.wrap (a.tdiv b) * b) > a) then some (IntKind.i64.wrap (IntKind.i64.wrap (a.tdiv b) - 1)) else some (IntKind.i64.wrap (a.tdiv b))) = some (a / b) := by
  have hq := tdiv_bnd hb h1 h2
  have hd : a.tdiv b = a / b + if 0 ≤ a ∨ b ∣ a then 0 else b.sign := Int.tdiv_eq_ediv
  rw [Int.sign_eq_one_of_pos hb] at hd
  have hs := fl_spec (x := a) hb
  by_cases hv : 0 ≤ a ∨ b ∣ a
  · simp only [hv, if_true, Int.add_zero] at hd
    rw [hd, w64 (n := a / b) (by omega) (by omega)]
    by_cases ha : 0 ≤ a
    · have : 0 ≤ a / b * b := Int.mul_nonneg (fl_nonneg hb ha) (by omega)
      rw [w64 (n := a / b * b) (by omega) (by omega), decide_eq_false (by omega)]
      rfl
    · have hv' : b ∣ a := by rcases hv with h | h; exact absurd h ha; exact h
      have : a / b * b = a := Int.ediv_mul_cancel hv'
      rw [this, w64 (n := a) (by omega) (by omega), decide_eq_false (by omega)]
      rfl
  · simp only [hv, if_false] at hd
    have ha : a < 0 := by omega
    have h0 : a / b < 0 := by
      have := hs.2
      by_cases h : a / b < 0
      · exact h
      · have : 0 ≤ a / b * b := Int.mul_nonneg (by omega) (by omega)
        omega
    have e : (a / b + 1) * b = a / b * b + b := by rw [Int.add_mul, Int.one_mul]
    have h3 : (a / b + 1) * b ≤ 0 := by
      have := Int.mul_nonneg (a := -(a / b + 1)) (b := b) (by omega) (by omega)
      rw [Int.neg_mul] at this
      omega
    rw [hd, w64 (n := a / b + 1) (by omega) (by omega), w64 (n := (a / b + 1) * b) (by omega) (by omega), decide_eq_true (by omega), cond_true, Int.add_sub_cancel, w64 (by omega) (by omega)]
theorem culetref27_floor.eq {a b : Int} (hb : 0 < b) (h1 : -4611686018427387904 ≤ a) (h2 : a ≤ 4611686018427387904) : culetref27_floor a b = a / b := by
  have hb0 : (b != 0) = true := by simp; omega
  have h3 : ¬ b < 0 := by omega
  simp only [culetref27_floor, culetref27_floor.o, culetref27_floor.K, hb0, h3, decide_false, cond_false, cond_true, ref_floor_pos hb h1 h2]
  rfl
theorem culetref27_floor.eqn {a b : Int} (hb : b < 0) (hb' : -4611686018427387904 ≤ b) (h1 : -4611686018427387904 ≤ a) (h2 : a ≤ 4611686018427387904) : culetref27_floor a b = -a / -b := by
  have hb0 : (-b != 0) = true := by simp; omega
  have w1 : IntKind.i64.wrap (0 - a) = -a := by rw [Int.zero_sub]; exact w64 (by omega) (by omega)
  have w2 : IntKind.i64.wrap (0 - b) = -b := by rw [Int.zero_sub]; exact w64 (by omega) (by omega)
  simp only [culetref27_floor, culetref27_floor.o, culetref27_floor.K, w1, w2, hb0, hb, decide_true, cond_false, cond_true, ref_floor_pos (a := -a) (b := -b) (by omega) (by omega) (by omega)]
  rfl
theorem culetref27_floor.ok : SOK Try.prog 61 (culetref27_floor.sp culetref27_floor) := by
  refine sok_of (E := ⟨[], []⟩) ⟨specs_nil, inl_nil, mixed_ok⟩ 40 Try.func61 (by decide) rfl fun vs bl v bl' h => ?_
  unfold culetref27_floor.sp at h
  split at h
  · rename_i a0 a1
    simp only [Option.some.injEq, Prod.mk.injEq] at h
    obtain ⟨hp, rfl, rfl⟩ := h
    have hr := culetref27_floor.run a0 a1
    rw [culetref27_floor.nat] at hr
    obtain ⟨r, h2⟩ := Option.isSome_iff_exists.1 (by (simp only [culetref27_floor.o, culetref27_floor.K, isSome_cond, Option.isSome_some, bool_cond_true]; revert hp; cases decide (a1 < 0) <;> simp) : (culetref27_floor.o a0 a1).isSome = true)
    have h3 : culetref27_floor a0 a1 = r := by unfold culetref27_floor; rw [h2]; rfl
    have h4 : culetref27_floor.K a0 a1 some = some r := h2
    rw [h4, Option.bind_some] at hr
    rw [h3]
    exact ⟨hr, by simp [okV, Nat.blt], clo_spec 8 _ (by kernel_rfl), told_blk (by kernel_rfl)⟩
  · cases h

/-! ### culet/culetref27.ceil (62) -/
def culetref27_ceil.K {R : Type} (f_culetref27_floor : Int → Int → (Int)) (a0 : Int) (a1 : Int) (k : (Int) → Option R) : Option R :=
  bif bif decide (a1 < 0) then IntKind.i64.wrap (-a1) != 0 else a1 != 0 then
    let t0 := f_culetref27_floor (IntKind.i64.wrap (0 - a0)) a1
    k (IntKind.i64.wrap (0 - t0))
  else
    none
set_option maxRecDepth 100000 in
theorem culetref27_ceil.run (f_culetref27_floor : Int → Int → (Int)) (a0 : Int) (a1 : Int) : xfn Try.prog ⟨[(61, culetref27_floor.sp f_culetref27_floor)], []⟩ 40 Try.f62 [.int .i64 a0, .int .i64 a1] [] = culetref27_ceil.K f_culetref27_floor a0 a1 (fun r => some (.int .i64 r, [])) := by kernel_rfl
def culetref27_ceil.o (a0 : Int) (a1 : Int) : Option (Int) := culetref27_ceil.K culetref27_floor a0 a1 some
def culetref27_ceil.pre (a0 : Int) (a1 : Int) : Bool := (culetref27_ceil.o a0 a1).isSome
def culetref27_ceil (a0 : Int) (a1 : Int) : Int := (culetref27_ceil.o a0 a1).getD default
theorem culetref27_ceil.nat {R : Type} (f_culetref27_floor : Int → Int → (Int)) (a0 : Int) (a1 : Int) (k : (Int) → Option R) : culetref27_ceil.K f_culetref27_floor a0 a1 k = (culetref27_ceil.K f_culetref27_floor a0 a1 some).bind k := by
  simp only [culetref27_ceil.K, bcond, Option.bind_some, Option.bind_none]
theorem culetref27_ceil.eq {a b : Int} (hb : 0 < b) (h1 : -4611686018427387904 ≤ a) (h2 : a ≤ 4611686018427387904) : culetref27_ceil a b = cl a b := by
  have hb0 : (b != 0) = true := by simp; omega
  have h3 : ¬ b < 0 := by omega
  have hq := tdiv_bnd (a := -a) hb (by omega) (by omega)
  simp only [culetref27_ceil, culetref27_ceil.o, culetref27_ceil.K, hb0, h3, decide_false, cond_true, cond_false, Option.getD_some, Int.zero_sub]
  rw [w64 (n := -a) (by omega) (by omega), culetref27_floor.eq hb (by omega) (by omega), w64 (by omega) (by omega)]
  rfl
theorem culetref27_ceil.eqn {a b : Int} (hb : b < 0) (hb' : -4611686018427387904 ≤ b) (h1 : -4611686018427387904 ≤ a) (h2 : a ≤ 4611686018427387904) : culetref27_ceil a b = cl (-a) (-b) := by
  have hw : IntKind.i64.wrap (-b) = -b := w64 (by omega) (by omega)
  have hb0 : (-b != 0) = true := by simp; omega
  have hq := tdiv_bnd (a := a) (b := -b) (by omega) (by omega) (by omega)
  simp only [culetref27_ceil, culetref27_ceil.o, culetref27_ceil.K, hb, decide_true, hw, hb0, cond_true, Option.getD_some, Int.zero_sub]
  rw [w64 (n := -a) (by omega) (by omega), culetref27_floor.eqn hb (by omega) (by omega) (by omega), Int.neg_neg, w64 (by omega) (by omega)]
  simp only [cl, Int.neg_neg]
theorem culetref27_ceil.ok : SOK Try.prog 62 (culetref27_ceil.sp culetref27_ceil) := by
  refine sok_of (E := ⟨[(61, culetref27_floor.sp culetref27_floor)], []⟩) ⟨(specs_cons culetref27_floor.ok specs_nil), inl_nil, mixed_ok⟩ 40 Try.func62 (by decide) rfl fun vs bl v bl' h => ?_
  unfold culetref27_ceil.sp at h
  split at h
  · rename_i a0 a1
    simp only [Option.some.injEq, Prod.mk.injEq] at h
    obtain ⟨hp, rfl, rfl⟩ := h
    have hr := culetref27_ceil.run culetref27_floor a0 a1
    rw [culetref27_ceil.nat] at hr
    obtain ⟨r, h2⟩ := Option.isSome_iff_exists.1 (by simp [culetref27_ceil.o, culetref27_ceil.K, isSome_cond, bool_cond_true, hp] : (culetref27_ceil.o a0 a1).isSome = true)
    have h3 : culetref27_ceil a0 a1 = r := by unfold culetref27_ceil; rw [h2]; rfl
    have h4 : culetref27_ceil.K culetref27_floor a0 a1 some = some r := h2
    rw [h4, Option.bind_some] at hr
    rw [h3]
    exact ⟨hr, by simp [okV, Nat.blt], clo_spec 8 _ (by kernel_rfl), told_blk (by kernel_rfl)⟩
  · cases h

/-! ### culet/culetref27.Square (59) -/
def culetref27_Square.K {R : Type} (f_culetref27_Valid : Int → Int → (Bool)) (f_culetref27_checked : Int → Int → (Int × Int × Int)) (f_culetref27_floor : Int → Int → (Int)) (f_culetref27_ceil : Int → Int → (Int)) (a0_0 : Int) (a0_1 : Int) (k : Int × Int × Int → R) : R :=
  let t0 := f_culetref27_Valid a0_0 a0_1
  bif !t0 then
    k (0, 0, 1)
  else
    bif decide (a0_0 ≤ 0) then
      bif decide (a0_1 ≥ 0) then
        let t1 := f_culetref27_floor 0 16777216
        let t2 := f_culetref27_ceil (if IntKind.i64.wrap (a0_1 * a0_1) > IntKind.i64.wrap (a0_0 * a0_0) then IntKind.i64.wrap (a0_1 * a0_1) else IntKind.i64.wrap (a0_0 * a0_0)) 16777216
        let t3 := f_culetref27_checked t1 t2
        k (t3.fst, t3.snd.fst, t3.snd.snd)
      else
        let t4 := f_culetref27_floor (if IntKind.i64.wrap (a0_1 * a0_1) < IntKind.i64.wrap (a0_0 * a0_0) then IntKind.i64.wrap (a0_1 * a0_1) else IntKind.i64.wrap (a0_0 * a0_0)) 16777216
        let t5 := f_culetref27_ceil (if IntKind.i64.wrap (a0_1 * a0_1) > IntKind.i64.wrap (a0_0 * a0_0) then IntKind.i64.wrap (a0_1 * a0_1) else IntKind.i64.wrap (a0_0 * a0_0)) 16777216
        let t6 := f_culetref27_checked t4 t5
        k (t6.fst, t6.snd.fst, t6.snd.snd)
    else
      let t7 := f_culetref27_floor (if IntKind.i64.wrap (a0_1 * a0_1) < IntKind.i64.wrap (a0_0 * a0_0) then IntKind.i64.wrap (a0_1 * a0_1) else IntKind.i64.wrap (a0_0 * a0_0)) 16777216
      let t8 := f_culetref27_ceil (if IntKind.i64.wrap (a0_1 * a0_1) > IntKind.i64.wrap (a0_0 * a0_0) then IntKind.i64.wrap (a0_1 * a0_1) else IntKind.i64.wrap (a0_0 * a0_0)) 16777216
      let t9 := f_culetref27_checked t7 t8
      k (t9.fst, t9.snd.fst, t9.snd.snd)
set_option maxRecDepth 100000 in
theorem culetref27_Square.run (f_culetref27_Valid : Int → Int → (Bool)) (f_culetref27_checked : Int → Int → (Int × Int × Int)) (f_culetref27_floor : Int → Int → (Int)) (f_culetref27_ceil : Int → Int → (Int)) (a0_0 : Int) (a0_1 : Int) : xfn Try.prog ⟨[(45, culetref27_Valid.sp f_culetref27_Valid), (58, culetref27_checked.sp f_culetref27_checked), (61, culetref27_floor.sp f_culetref27_floor), (62, culetref27_ceil.sp f_culetref27_ceil)], []⟩ 40 Try.f59 [.agg ⟨[.int .i64 a0_0, .int .i64 a0_1]⟩] [] = culetref27_Square.K f_culetref27_Valid f_culetref27_checked f_culetref27_floor f_culetref27_ceil a0_0 a0_1 (fun r => some (.tuple ⟨[.agg ⟨[.int .i64 r.1, .int .i64 r.2.1]⟩, .int .i64 r.2.2]⟩, [])) := by kernel_rfl
def culetref27_Square (a0_0 : Int) (a0_1 : Int) : Int × Int × Int := culetref27_Square.K culetref27_Valid culetref27_checked culetref27_floor culetref27_ceil a0_0 a0_1 id
theorem culetref27_Square.nat {R : Type} (f_culetref27_Valid : Int → Int → (Bool)) (f_culetref27_checked : Int → Int → (Int × Int × Int)) (f_culetref27_floor : Int → Int → (Int)) (f_culetref27_ceil : Int → Int → (Int)) (a0_0 : Int) (a0_1 : Int) (k : Int × Int × Int → R) : culetref27_Square.K f_culetref27_Valid f_culetref27_checked f_culetref27_floor f_culetref27_ceil a0_0 a0_1 k = k (culetref27_Square.K f_culetref27_Valid f_culetref27_checked f_culetref27_floor f_culetref27_ceil a0_0 a0_1 id) := by
  simp only [culetref27_Square.K, acond k, id_eq]
theorem culetref27_Square.eq (a b : Int) : culetref27_Square a b = isq a b := by
  simp only [culetref27_Square, culetref27_Square.K, id_eq, culetref27_Valid.eq, isq, mnE, mxE]
  cases h1 : V a b with
  | false => simp
  | true =>
    have := V_iff.1 h1
    have e1 := mul_bnd30 (x := a) (y := a) (by omega) (by omega) (by omega) (by omega)
    have e4 := mul_bnd30 (x := b) (y := b) (by omega) (by omega) (by omega) (by omega)
    have s1 := sq_nonneg a
    have s2 := sq_nonneg b
    have w1 : IntKind.i64.wrap (a * a) = a * a := w64 (by omega) (by omega)
    have w4 : IntKind.i64.wrap (b * b) = b * b := w64 (by omega) (by omega)
    have hk : (0 : Int) < 16777216 := by omega
    have r1 : culetref27_floor (min (a * a) (b * b)) 16777216 = min (a * a) (b * b) / 16777216 := culetref27_floor.eq hk (by omega) (by omega)
    have r2 : culetref27_ceil (max (a * a) (b * b)) 16777216 = cl (max (a * a) (b * b)) 16777216 := culetref27_ceil.eq hk (by omega) (by omega)
    have r3 : culetref27_floor 0 16777216 = 0 / 16777216 := culetref27_floor.eq hk (by omega) (by omega)
    simp only [w1, w4, Bool.not_true, cond_false, cond_true, r1, r2, r3, culetref27_checked.eq]
    by_cases h2 : a ≤ 0 <;> by_cases h3 : b ≥ 0 <;> simp [h2, h3]
theorem culetref27_Square.ok : SOK Try.prog 59 (culetref27_Square.sp culetref27_Square) := by
  refine sok_of (E := ⟨[(45, culetref27_Valid.sp culetref27_Valid), (58, culetref27_checked.sp culetref27_checked), (61, culetref27_floor.sp culetref27_floor), (62, culetref27_ceil.sp culetref27_ceil)], []⟩) ⟨(specs_cons culetref27_Valid.ok (specs_cons culetref27_checked.ok (specs_cons culetref27_floor.ok (specs_cons culetref27_ceil.ok specs_nil)))), inl_nil, mixed_ok⟩ 40 Try.func59 (by decide) rfl fun vs bl v bl' h => ?_
  unfold culetref27_Square.sp at h
  split at h
  · rename_i a0_0 a0_1
    simp only [Option.some.injEq, Prod.mk.injEq, true_and] at h
    obtain ⟨rfl, rfl⟩ := h
    refine ⟨?_, by simp [okV, Nat.blt], clo_spec 8 _ (by kernel_rfl), told_blk (by kernel_rfl)⟩
    refine (culetref27_Square.run culetref27_Valid culetref27_checked culetref27_floor culetref27_ceil a0_0 a0_1).trans ?_
    refine (culetref27_Square.nat culetref27_Valid culetref27_checked culetref27_floor culetref27_ceil a0_0 a0_1 _).trans ?_
    kernel_rfl
  · cases h

/-! ### (*culet/culetref28.Calc).Square (47) -/
def culetref28_Calc_Square.K {R : Type} (f_culetref28_Calc_kept : Int → Int → Int → Int → (Int × Int × Int)) (f_culetref27_Square : Int → Int → (Int × Int × Int)) (s0_0 : Int) (a1_0 : Int) (a1_1 : Int) (k : Int × Int × Int → R) : R :=
  let t0 := f_culetref27_Square a1_0 a1_1
  let t1 := f_culetref28_Calc_kept s0_0 t0.fst t0.snd.fst t0.snd.snd
  k (t1.fst, t1.snd.fst, t1.snd.snd)
set_option maxRecDepth 100000 in
theorem culetref28_Calc_Square.run (f_culetref28_Calc_kept : Int → Int → Int → Int → (Int × Int × Int)) (f_culetref27_Square : Int → Int → (Int × Int × Int)) (s0_0 : Int) (a1_0 : Int) (a1_1 : Int) : xfn Try.prog ⟨[(55, culetref28_Calc_kept.sp f_culetref28_Calc_kept), (59, culetref27_Square.sp f_culetref27_Square)], []⟩ 40 Try.f47 [.pointer (some ⟨0, 0, none⟩), .agg ⟨[.int .i64 a1_0, .int .i64 a1_1]⟩] [.cs [.int .i64 s0_0] 48] = culetref28_Calc_Square.K f_culetref28_Calc_kept f_culetref27_Square s0_0 a1_0 a1_1 (fun r => some (.agg ⟨[.int .i64 r.1, .int .i64 r.2.1]⟩, [.cs [.int .i64 r.2.2] 48])) := by kernel_rfl
def culetref28_Calc_Square (s0_0 : Int) (a1_0 : Int) (a1_1 : Int) : Int × Int × Int := culetref28_Calc_Square.K culetref28_Calc_kept culetref27_Square s0_0 a1_0 a1_1 id
theorem culetref28_Calc_Square.nat {R : Type} (f_culetref28_Calc_kept : Int → Int → Int → Int → (Int × Int × Int)) (f_culetref27_Square : Int → Int → (Int × Int × Int)) (s0_0 : Int) (a1_0 : Int) (a1_1 : Int) (k : Int × Int × Int → R) : culetref28_Calc_Square.K f_culetref28_Calc_kept f_culetref27_Square s0_0 a1_0 a1_1 k = k (culetref28_Calc_Square.K f_culetref28_Calc_kept f_culetref27_Square s0_0 a1_0 a1_1 id) := by
  simp only [culetref28_Calc_Square.K, acond k, id_eq]
theorem culetref28_Calc_Square.ok : SOK Try.prog 47 (culetref28_Calc_Square.sp culetref28_Calc_Square) := by
  refine sok_of (E := ⟨[(55, culetref28_Calc_kept.sp culetref28_Calc_kept), (59, culetref27_Square.sp culetref27_Square)], []⟩) ⟨(specs_cons culetref28_Calc_kept.ok (specs_cons culetref27_Square.ok specs_nil)), inl_nil, mixed_ok⟩ 40 Try.func47 (by decide) rfl fun vs bl v bl' h => ?_
  unfold culetref28_Calc_Square.sp at h
  split at h
  · rename_i a1_0 a1_1 s0_0
    simp only [Option.some.injEq, Prod.mk.injEq, true_and] at h
    obtain ⟨rfl, rfl⟩ := h
    refine ⟨?_, by simp [okV, Nat.blt], clo_spec 8 _ (by kernel_rfl), told_blk (by kernel_rfl)⟩
    refine (culetref28_Calc_Square.run culetref28_Calc_kept culetref27_Square s0_0 a1_0 a1_1).trans ?_
    refine (culetref28_Calc_Square.nat culetref28_Calc_kept culetref27_Square s0_0 a1_0 a1_1 _).trans ?_
    kernel_rfl
  · cases h

/-! ### culet/culetref27.Div (60) -/
def culetref27_Div.K {R : Type} (f_culetref27_both : Int → Int → Int → Int → (Bool)) (f_culetref27_checked : Int → Int → (Int × Int × Int)) (f_culetref27_floor : Int → Int → (Int)) (f_culetref27_ceil : Int → Int → (Int)) (a0_0 : Int) (a0_1 : Int) (a1_0 : Int) (a1_1 : Int) (k : Int × Int × Int → Option R) : Option R :=
  let t0 := f_culetref27_both a0_0 a0_1 a1_0 a1_1
  bif !t0 then
    k (0, 0, 1)
  else
    bif decide (a1_0 ≤ 0) then
      bif decide (a1_1 ≥ 0) then
        k (0, 0, 10)
      else
        bif bif decide (a1_0 < 0) then IntKind.i64.wrap (-a1_0) != 0 else a1_0 != 0 then
          bif bif decide (a1_1 < 0) then IntKind.i64.wrap (-a1_1) != 0 else a1_1 != 0 then
            bif bif decide (a1_0 < 0) then IntKind.i64.wrap (-a1_0) != 0 else a1_0 != 0 then
              bif bif decide (a1_1 < 0) then IntKind.i64.wrap (-a1_1) != 0 else a1_1 != 0 then
                bif bif decide (a1_0 < 0) then IntKind.i64.wrap (-a1_0) != 0 else a1_0 != 0 then
                  bif bif decide (a1_1 < 0) then IntKind.i64.wrap (-a1_1) != 0 else a1_1 != 0 then
                    bif bif decide (a1_0 < 0) then IntKind.i64.wrap (-a1_0) != 0 else a1_0 != 0 then
                      bif bif decide (a1_1 < 0) then IntKind.i64.wrap (-a1_1) != 0 else a1_1 != 0 then
                        let t1 := f_culetref27_floor (IntKind.i64.wrap (a0_1 * 16777216)) a1_1
                        let t2 := f_culetref27_floor (IntKind.i64.wrap (a0_1 * 16777216)) a1_0
                        let t3 := f_culetref27_floor (IntKind.i64.wrap (a0_0 * 16777216)) a1_1
                        let t4 := f_culetref27_floor (IntKind.i64.wrap (a0_0 * 16777216)) a1_0
                        let t5 := f_culetref27_ceil (IntKind.i64.wrap (a0_1 * 16777216)) a1_1
                        let t6 := f_culetref27_ceil (IntKind.i64.wrap (a0_1 * 16777216)) a1_0
                        let t7 := f_culetref27_ceil (IntKind.i64.wrap (a0_0 * 16777216)) a1_1
                        let t8 := f_culetref27_ceil (IntKind.i64.wrap (a0_0 * 16777216)) a1_0
                        let t9 := f_culetref27_checked (if t1 < if t2 < if t3 < t4 then t3 else t4 then t2 else if t3 < t4 then t3 else t4 then t1 else if t2 < if t3 < t4 then t3 else t4 then t2 else if t3 < t4 then t3 else t4) (if t5 > if t6 > if t7 > t8 then t7 else t8 then t6 else if t7 > t8 then t7 else t8 then t5 else if t6 > if t7 > t8 then t7 else t8 then t6 else if t7 > t8 then t7 else t8)
                        k (t9.fst, t9.snd.fst, t9.snd.snd)
                      else
                        none
                    else
                      none
                  else
                    none
                else
                  none
              else
                none
            else
              none
          else
            none
        else
          none
    else
      bif bif decide (a1_0 < 0) then IntKind.i64.wrap (-a1_0) != 0 else a1_0 != 0 then
        bif bif decide (a1_1 < 0) then IntKind.i64.wrap (-a1_1) != 0 else a1_1 != 0 then
          bif bif decide (a1_0 < 0) then IntKind.i64.wrap (-a1_0) != 0 else a1_0 != 0 then
            bif bif decide (a1_1 < 0) then IntKind.i64.wrap (-a1_1) != 0 else a1_1 != 0 then
              bif bif decide (a1_0 < 0) then IntKind.i64.wrap (-a1_0) != 0 else a1_0 != 0 then
                bif bif decide (a1_1 < 0) then IntKind.i64.wrap (-a1_1) != 0 else a1_1 != 0 then
                  bif bif decide (a1_0 < 0) then IntKind.i64.wrap (-a1_0) != 0 else a1_0 != 0 then
                    bif bif decide (a1_1 < 0) then IntKind.i64.wrap (-a1_1) != 0 else a1_1 != 0 then
                      let t10 := f_culetref27_floor (IntKind.i64.wrap (a0_1 * 16777216)) a1_1
                      let t11 := f_culetref27_floor (IntKind.i64.wrap (a0_1 * 16777216)) a1_0
                      let t12 := f_culetref27_floor (IntKind.i64.wrap (a0_0 * 16777216)) a1_1
                      let t13 := f_culetref27_floor (IntKind.i64.wrap (a0_0 * 16777216)) a1_0
                      let t14 := f_culetref27_ceil (IntKind.i64.wrap (a0_1 * 16777216)) a1_1
                      let t15 := f_culetref27_ceil (IntKind.i64.wrap (a0_1 * 16777216)) a1_0
                      let t16 := f_culetref27_ceil (IntKind.i64.wrap (a0_0 * 16777216)) a1_1
                      let t17 := f_culetref27_ceil (IntKind.i64.wrap (a0_0 * 16777216)) a1_0
                      let t18 := f_culetref27_checked (if t10 < if t11 < if t12 < t13 then t12 else t13 then t11 else if t12 < t13 then t12 else t13 then t10 else if t11 < if t12 < t13 then t12 else t13 then t11 else if t12 < t13 then t12 else t13) (if t14 > if t15 > if t16 > t17 then t16 else t17 then t15 else if t16 > t17 then t16 else t17 then t14 else if t15 > if t16 > t17 then t16 else t17 then t15 else if t16 > t17 then t16 else t17)
                      k (t18.fst, t18.snd.fst, t18.snd.snd)
                    else
                      none
                  else
                    none
                else
                  none
              else
                none
            else
              none
          else
            none
        else
          none
      else
        none
set_option maxRecDepth 100000 in
theorem culetref27_Div.run (f_culetref27_both : Int → Int → Int → Int → (Bool)) (f_culetref27_checked : Int → Int → (Int × Int × Int)) (f_culetref27_floor : Int → Int → (Int)) (f_culetref27_ceil : Int → Int → (Int)) (a0_0 : Int) (a0_1 : Int) (a1_0 : Int) (a1_1 : Int) : xfn Try.prog ⟨[(41, culetref27_both.sp f_culetref27_both), (58, culetref27_checked.sp f_culetref27_checked), (61, culetref27_floor.sp f_culetref27_floor), (62, culetref27_ceil.sp f_culetref27_ceil)], []⟩ 40 Try.f60 [.agg ⟨[.int .i64 a0_0, .int .i64 a0_1]⟩, .agg ⟨[.int .i64 a1_0, .int .i64 a1_1]⟩] [] = culetref27_Div.K f_culetref27_both f_culetref27_checked f_culetref27_floor f_culetref27_ceil a0_0 a0_1 a1_0 a1_1 (fun r => some (.tuple ⟨[.agg ⟨[.int .i64 r.1, .int .i64 r.2.1]⟩, .int .i64 r.2.2]⟩, [])) := by kernel_rfl
def culetref27_Div.o (a0_0 : Int) (a0_1 : Int) (a1_0 : Int) (a1_1 : Int) : Option (Int × Int × Int) := culetref27_Div.K culetref27_both culetref27_checked culetref27_floor culetref27_ceil a0_0 a0_1 a1_0 a1_1 some
def culetref27_Div.pre (a0_0 : Int) (a0_1 : Int) (a1_0 : Int) (a1_1 : Int) : Bool := (culetref27_Div.o a0_0 a0_1 a1_0 a1_1).isSome
def culetref27_Div (a0_0 : Int) (a0_1 : Int) (a1_0 : Int) (a1_1 : Int) : Int × Int × Int := (culetref27_Div.o a0_0 a0_1 a1_0 a1_1).getD default
theorem culetref27_Div.nat {R : Type} (f_culetref27_both : Int → Int → Int → Int → (Bool)) (f_culetref27_checked : Int → Int → (Int × Int × Int)) (f_culetref27_floor : Int → Int → (Int)) (f_culetref27_ceil : Int → Int → (Int)) (a0_0 : Int) (a0_1 : Int) (a1_0 : Int) (a1_1 : Int) (k : Int × Int × Int → Option R) : culetref27_Div.K f_culetref27_both f_culetref27_checked f_culetref27_floor f_culetref27_ceil a0_0 a0_1 a1_0 a1_1 k = (culetref27_Div.K f_culetref27_both f_culetref27_checked f_culetref27_floor f_culetref27_ceil a0_0 a0_1 a1_0 a1_1 some).bind k := by
  simp only [culetref27_Div.K, bcond, Option.bind_some, Option.bind_none]
theorem culetref27_Div.o_eq (a b c d : Int) : culetref27_Div.o a b c d = some (idiv a b c d) := by
  simp only [culetref27_Div.o, culetref27_Div.K, culetref27_both.eq, idiv, mnE, mxE]
  cases h : V a b && V c d with
  | false => simp
  | true =>
    have h' := h
    rw [Bool.and_eq_true] at h'
    have := V_iff.1 h'.1
    have := V_iff.1 h'.2
    have w3 : IntKind.i64.wrap (-c) = -c := w64 (by omega) (by omega)
    have w4 : IntKind.i64.wrap (-d) = -d := w64 (by omega) (by omega)
    have w5 : IntKind.i64.wrap (a * 16777216) = a * 16777216 := w64 (by omega) (by omega)
    have w6 : IntKind.i64.wrap (b * 16777216) = b * 16777216 := w64 (by omega) (by omega)
    simp only [w3, w4, w5, w6, Bool.not_true, cond_false, cond_true, culetref27_checked.eq]
    by_cases h3 : c ≤ 0
    · by_cases h4 : d ≥ 0
      · simp [h3, h4]
      · have h5 : d < 0 := by omega
        have h6 : c < 0 := by omega
        have n1 : ((-d) != 0) = true := by simp; omega
        have n2 : ((-c) != 0) = true := by simp; omega
        have n3 : ¬ (c ≤ 0 ∧ 0 ≤ d) := by omega
        have f1 : culetref27_floor (a * 16777216) c = -(a * 16777216) / -c := culetref27_floor.eqn h6 (by omega) (by omega) (by omega)
        have f2 : culetref27_floor (a * 16777216) d = -(a * 16777216) / -d := culetref27_floor.eqn h5 (by omega) (by omega) (by omega)
        have f3 : culetref27_floor (b * 16777216) c = -(b * 16777216) / -c := culetref27_floor.eqn h6 (by omega) (by omega) (by omega)
        have f4 : culetref27_floor (b * 16777216) d = -(b * 16777216) / -d := culetref27_floor.eqn h5 (by omega) (by omega) (by omega)
        have f5 : culetref27_ceil (a * 16777216) c = cl (-(a * 16777216)) (-c) := culetref27_ceil.eqn h6 (by omega) (by omega) (by omega)
        have f6 : culetref27_ceil (a * 16777216) d = cl (-(a * 16777216)) (-d) := culetref27_ceil.eqn h5 (by omega) (by omega) (by omega)
        have f7 : culetref27_ceil (b * 16777216) c = cl (-(b * 16777216)) (-c) := culetref27_ceil.eqn h6 (by omega) (by omega) (by omega)
        have f8 : culetref27_ceil (b * 16777216) d = cl (-(b * 16777216)) (-d) := culetref27_ceil.eqn h5 (by omega) (by omega) (by omega)
        rw [if_neg n3, if_pos h5]
        simp only [h3, h4, h5, h6, n1, n2, decide_true, decide_false, cond_true, cond_false, f1, f2, f3, f4, f5, f6, f7, f8, pdiv, Int.neg_mul]
        have g1 : -(b * 16777216) / -c ≤ -(a * 16777216) / -c := fl_mono (by omega) (by omega)
        have g2 : -(b * 16777216) / -d ≤ -(a * 16777216) / -d := fl_mono (by omega) (by omega)
        have g3 : cl (-(b * 16777216)) (-c) ≤ cl (-(a * 16777216)) (-c) := cl_mono (by omega) (by omega)
        have g4 : cl (-(b * 16777216)) (-d) ≤ cl (-(a * 16777216)) (-d) := cl_mono (by omega) (by omega)
        refine congrArg some (chk_congr ?_ ?_) <;> omega
    · have h5 : ¬ d < 0 := by omega
      have h6 : ¬ c < 0 := by omega
      have n1 : (c != 0) = true := by simp; omega
      have n2 : (d != 0) = true := by simp; omega
      have n3 : ¬ (c ≤ 0 ∧ 0 ≤ d) := by omega
      have hc : 0 < c := by omega
      have hd : 0 < d := by omega
      have f1 : culetref27_floor (a * 16777216) c = a * 16777216 / c := culetref27_floor.eq hc (by omega) (by omega)
      have f2 : culetref27_floor (a * 16777216) d = a * 16777216 / d := culetref27_floor.eq hd (by omega) (by omega)
      have f3 : culetref27_floor (b * 16777216) c = b * 16777216 / c := culetref27_floor.eq hc (by omega) (by omega)
      have f4 : culetref27_floor (b * 16777216) d = b * 16777216 / d := culetref27_floor.eq hd (by omega) (by omega)
      have f5 : culetref27_ceil (a * 16777216) c = cl (a * 16777216) c := culetref27_ceil.eq hc (by omega) (by omega)
      have f6 : culetref27_ceil (a * 16777216) d = cl (a * 16777216) d := culetref27_ceil.eq hd (by omega) (by omega)
      have f7 : culetref27_ceil (b * 16777216) c = cl (b * 16777216) c := culetref27_ceil.eq hc (by omega) (by omega)
      have f8 : culetref27_ceil (b * 16777216) d = cl (b * 16777216) d := culetref27_ceil.eq hd (by omega) (by omega)
      rw [if_neg n3, if_neg h5]
      simp only [h3, h5, h6, n1, n2, decide_true, decide_false, cond_true, cond_false, f1, f2, f3, f4, f5, f6, f7, f8, pdiv]
      have g1 : a * 16777216 / c ≤ b * 16777216 / c := fl_mono hc (by omega)
      have g2 : a * 16777216 / d ≤ b * 16777216 / d := fl_mono hd (by omega)
      have g3 : cl (a * 16777216) c ≤ cl (b * 16777216) c := cl_mono hc (by omega)
      have g4 : cl (a * 16777216) d ≤ cl (b * 16777216) d := cl_mono hd (by omega)
      refine congrArg some (chk_congr ?_ ?_) <;> omega
theorem culetref27_Div.total (a b c d : Int) : (culetref27_Div.o a b c d).isSome = true := by rw [culetref27_Div.o_eq]; rfl
theorem culetref27_Div.eq (a b c d : Int) : culetref27_Div a b c d = idiv a b c d := by rw [culetref27_Div, culetref27_Div.o_eq]; rfl
theorem culetref27_Div.ok : SOK Try.prog 60 (culetref27_Div.sp culetref27_Div) := by
  refine sok_of (E := ⟨[(41, culetref27_both.sp culetref27_both), (58, culetref27_checked.sp culetref27_checked), (61, culetref27_floor.sp culetref27_floor), (62, culetref27_ceil.sp culetref27_ceil)], []⟩) ⟨(specs_cons culetref27_both.ok (specs_cons culetref27_checked.ok (specs_cons culetref27_floor.ok (specs_cons culetref27_ceil.ok specs_nil)))), inl_nil, mixed_ok⟩ 40 Try.func60 (by decide) rfl fun vs bl v bl' h => ?_
  unfold culetref27_Div.sp at h
  split at h
  · rename_i a0_0 a0_1 a1_0 a1_1
    simp only [Option.some.injEq, Prod.mk.injEq] at h
    obtain ⟨hp, rfl, rfl⟩ := h
    have hr := culetref27_Div.run culetref27_both culetref27_checked culetref27_floor culetref27_ceil a0_0 a0_1 a1_0 a1_1
    rw [culetref27_Div.nat] at hr
    obtain ⟨r, h2⟩ := Option.isSome_iff_exists.1 (culetref27_Div.total a0_0 a0_1 a1_0 a1_1 : (culetref27_Div.o a0_0 a0_1 a1_0 a1_1).isSome = true)
    have h3 : culetref27_Div a0_0 a0_1 a1_0 a1_1 = r := by unfold culetref27_Div; rw [h2]; rfl
    have h4 : culetref27_Div.K culetref27_both culetref27_checked culetref27_floor culetref27_ceil a0_0 a0_1 a1_0 a1_1 some = some r := h2
    rw [h4, Option.bind_some] at hr
    rw [h3]
    exact ⟨hr, by simp [okV, Nat.blt], clo_spec 8 _ (by kernel_rfl), told_blk (by kernel_rfl)⟩
  · cases h

end Go.Proofs.Ytommeheenogjgaa.G
