/- The functions, their runs and their contracts. WRITTEN BY gen.py of this repo. -/
import Derived.Test.YtgfjidlckocflaaDoorS
import Derived.Test.YtgfjidlckocflaaDoorM
import Derived.Test.YtgfjidlckocflaaDoorIv
import Derived.Test.YtgfjidlckocflaaDoorSt
import Derived.Test.YtgfjidlckocflaaDoorClo
import Derived.Test.YtgfjidlckocflaaDoorGcd48
namespace Go.Proofs.YtgfjidlckocflaaDoor.G
open Go Go.Proofs Go.RowKit RX
set_option linter.unusedVariables false
set_option linter.unusedSimpArgs false
/-! ### culet/settings.wheelRight (34) -/
def settings_wheelRight.K {R : Type} (a0 : Int) (k : (Bool) → R) : R :=
  bif decide (a0 ≥ 1) then
    k (decide (a0 ≤ 200))
  else
    k (false)
set_option maxRecDepth 100000 in
theorem settings_wheelRight.run (a0 : Int) : xfn Tryd.prog ⟨[], []⟩ [] 40 Tryd.f34 [.int .i64 a0] [] = settings_wheelRight.K a0 (fun r => some (.bool r, [])) := by kernel_rfl
def settings_wheelRight (a0 : Int) : Bool := settings_wheelRight.K a0 id
theorem settings_wheelRight.nat {R : Type} (a0 : Int) (k : (Bool) → R) : settings_wheelRight.K a0 k = k (settings_wheelRight.K a0 id) := by
  simp only [settings_wheelRight.K, acond k, id_eq]
def wok (t : Int) : Bool := decide (1 ≤ t ∧ t ≤ 200)
theorem settings_wheelRight.eq (t : Int) : settings_wheelRight t = wok t := by
  simp only [settings_wheelRight, settings_wheelRight.K, id_eq, wok]
  by_cases h1 : 1 ≤ t <;> by_cases h2 : t ≤ 200 <;> simp [h1, h2]
theorem settings_wheelRight.ok : SOK Tryd.prog 34 (settings_wheelRight.sp settings_wheelRight) := by
  refine sok_of (E := ⟨[], []⟩) (L := []) ⟨specs_nil, inl_nil, mixed_ok⟩ 40 Tryd.func34 (by decide) rfl no_loops fun vs bl v bl' h => ?_
  unfold settings_wheelRight.sp at h
  split at h
  · rename_i a0
    simp only [Option.some.injEq, Prod.mk.injEq, true_and] at h
    obtain ⟨rfl, rfl⟩ := h
    refine ⟨?_, by simp [okV, Nat.blt], clo_spec 8 _ (by kernel_rfl), told_blk (by kernel_rfl)⟩
    refine (settings_wheelRight.run a0).trans ?_
    refine (settings_wheelRight.nat a0 _).trans ?_
    kernel_rfl
  · cases h

/-! ### culet/wheel.Mod (35) -/
def wheel_Mod.K {R : Type} (a0 : Int) (k : (Int) → R) : R :=
  bif decide (a0.tmod 24 < 0) then
    k (IntKind.i64.wrap (a0.tmod 24 + 24))
  else
    k (a0.tmod 24)
set_option maxRecDepth 100000 in
theorem wheel_Mod.run (a0 : Int) : xfn Tryd.prog ⟨[], []⟩ [] 40 Tryd.f35 [.int .i64 a0] [] = wheel_Mod.K a0 (fun r => some (.int .i64 r, [])) := by kernel_rfl
def wheel_Mod (a0 : Int) : Int := wheel_Mod.K a0 id
theorem wheel_Mod.nat {R : Type} (a0 : Int) (k : (Int) → R) : wheel_Mod.K a0 k = k (wheel_Mod.K a0 id) := by
  simp only [wheel_Mod.K, acond k, id_eq]
theorem tmod24 (i : Int) : (if i.tmod 24 < 0 then i.tmod 24 + 24 else i.tmod 24) = i % 24 := by
  have h1 := Int.tmod_eq_emod (a := i) (b := 24)
  have h2 := Int.emod_nonneg i (show (24 : Int) ≠ 0 by decide)
  have h3 := Int.emod_lt_of_pos i (show (0 : Int) < 24 by decide)
  rw [h1]
  by_cases hc : 0 ≤ i ∨ (24 : Int) ∣ i
  · rw [if_pos hc]; split <;> omega
  · rw [if_neg hc]
    have : i % 24 ≠ 0 := fun e => hc (Or.inr (Int.dvd_of_emod_eq_zero e))
    split <;> omega
theorem tmod24_range (i : Int) : -24 < i.tmod 24 ∧ i.tmod 24 < 24 := by
  have h1 := Int.natAbs_tmod i 24
  have h2 : i.natAbs % (24 : Int).natAbs < 24 := Nat.mod_lt _ (by decide)
  omega
theorem wheel_Mod.eq (i : Int) : wheel_Mod i = i % 24 := by
  have hr := tmod24_range i
  simp only [wheel_Mod, wheel_Mod.K, id_eq]
  rw [w64 (by omega) (by omega), ← tmod24 i]
  by_cases h : i.tmod 24 < 0 <;> simp [h]
theorem wheel_Mod.ok : SOK Tryd.prog 35 (wheel_Mod.sp wheel_Mod) := by
  refine sok_of (E := ⟨[], []⟩) (L := []) ⟨specs_nil, inl_nil, mixed_ok⟩ 40 Tryd.func35 (by decide) rfl no_loops fun vs bl v bl' h => ?_
  unfold wheel_Mod.sp at h
  split at h
  · rename_i a0
    simp only [Option.some.injEq, Prod.mk.injEq, true_and] at h
    obtain ⟨rfl, rfl⟩ := h
    refine ⟨?_, by simp [okV, Nat.blt], clo_spec 8 _ (by kernel_rfl), told_blk (by kernel_rfl)⟩
    refine (wheel_Mod.run a0).trans ?_
    refine (wheel_Mod.nat a0 _).trans ?_
    kernel_rfl
  · cases h

/-! ### culet/settings.Tooth (11) -/
def settings_Tooth.K {R : Type} (f_settings_wheelRight : Int → (Bool)) (f_wheel_Mod : Int → (Int)) (a0 : Int) (a1 : Int) (k : Int × Int × Int → R) : R :=
  let t0 := f_settings_wheelRight a1
  bif !t0 then
    k (0, 0, 2)
  else
    let t1 := f_wheel_Mod a0
    bif IntKind.i64.wrap ((IntKind.i64.wrap (t1 * a1)).tdiv 24) == 0 then
      k (a1, (IntKind.i64.wrap (t1 * a1)).tmod 24, 0)
    else
      k (IntKind.i64.wrap ((IntKind.i64.wrap (t1 * a1)).tdiv 24), (IntKind.i64.wrap (t1 * a1)).tmod 24, 0)
set_option maxRecDepth 100000 in
theorem settings_Tooth.run (f_settings_wheelRight : Int → (Bool)) (f_wheel_Mod : Int → (Int)) (a0 : Int) (a1 : Int) : xfn Tryd.prog ⟨[(34, settings_wheelRight.sp f_settings_wheelRight), (35, wheel_Mod.sp f_wheel_Mod)], []⟩ [] 40 Tryd.f11 [.int .i64 a0, .int .i64 a1] [] = settings_Tooth.K f_settings_wheelRight f_wheel_Mod a0 a1 (fun r => some (.tuple ⟨[.int .i64 r.1, .int .i64 r.2.1, .int .i64 r.2.2]⟩, [])) := by kernel_rfl
def settings_Tooth (a0 : Int) (a1 : Int) : Int × Int × Int := settings_Tooth.K settings_wheelRight wheel_Mod a0 a1 id
theorem settings_Tooth.nat {R : Type} (f_settings_wheelRight : Int → (Bool)) (f_wheel_Mod : Int → (Int)) (a0 : Int) (a1 : Int) (k : Int × Int × Int → R) : settings_Tooth.K f_settings_wheelRight f_wheel_Mod a0 a1 k = k (settings_Tooth.K f_settings_wheelRight f_wheel_Mod a0 a1 id) := by
  simp only [settings_Tooth.K, acond k, id_eq]
def tth (i t : Int) : Int × Int × Int := bif wok t then ((if (i % 24) * t / 24 = 0 then t else (i % 24) * t / 24), (i % 24) * t % 24, 0) else (0, 0, 2)
theorem mt_range {i t : Int} (h : wok t = true) : 0 ≤ i % 24 * t ∧ i % 24 * t ≤ 4600 := by
  simp only [wok, decide_eq_true_eq] at h
  have h2 := Int.emod_nonneg i (show (24 : Int) ≠ 0 by decide)
  have h3 := Int.emod_lt_of_pos i (show (0 : Int) < 24 by decide)
  have h4 : i % 24 * t ≤ 23 * 200 := Int.mul_le_mul (by omega) (by omega) (by omega) (by omega)
  exact ⟨Int.mul_nonneg h2 (by omega), by omega⟩
theorem settings_Tooth.eq (i t : Int) : settings_Tooth i t = tth i t := by
  simp only [settings_Tooth, settings_Tooth.K, id_eq, settings_wheelRight.eq, wheel_Mod.eq, tth]
  cases h : wok t with
  | false => rfl
  | true =>
    have hr := mt_range (i := i) h
    have hd : 0 ≤ i % 24 * t / 24 := Int.ediv_nonneg hr.1 (by omega)
    have hd2 : i % 24 * t / 24 ≤ i % 24 * t := Int.ediv_le_self _ hr.1
    rw [w64 (n := i % 24 * t) (by omega) (by omega), Int.tdiv_eq_ediv_of_nonneg hr.1, Int.tmod_eq_emod_of_nonneg hr.1, w64 (n := i % 24 * t / 24) (by omega) (by omega)]
    by_cases h0 : i % 24 * t / 24 = 0
    · simp [h0]
    · simp only [beq_of h0, if_neg h0, Bool.not_true, cond_false, cond_true]
theorem settings_Tooth.ok : SOK Tryd.prog 11 (settings_Tooth.sp settings_Tooth) := by
  refine sok_of (E := ⟨[(34, settings_wheelRight.sp settings_wheelRight), (35, wheel_Mod.sp wheel_Mod)], []⟩) (L := []) ⟨(specs_cons settings_wheelRight.ok (specs_cons wheel_Mod.ok specs_nil)), inl_nil, mixed_ok⟩ 40 Tryd.func11 (by decide) rfl no_loops fun vs bl v bl' h => ?_
  unfold settings_Tooth.sp at h
  split at h
  · rename_i a0 a1
    simp only [Option.some.injEq, Prod.mk.injEq, true_and] at h
    obtain ⟨rfl, rfl⟩ := h
    refine ⟨?_, by simp [okV, Nat.blt], clo_spec 8 _ (by kernel_rfl), told_blk (by kernel_rfl)⟩
    refine (settings_Tooth.run settings_wheelRight wheel_Mod a0 a1).trans ?_
    refine (settings_Tooth.nat settings_wheelRight wheel_Mod a0 a1 _).trans ?_
    kernel_rfl
  · cases h

/-! ### culet/culetref48.mod (36) -/
def culetref48_mod.K {R : Type} (a0 : Int) (k : (Int) → R) : R :=
  k ((IntKind.i64.wrap (a0.tmod 24 + 24)).tmod 24)
set_option maxRecDepth 100000 in
theorem culetref48_mod.run (a0 : Int) : xfn Tryd.prog ⟨[], []⟩ [] 40 Tryd.f36 [.int .i64 a0] [] = culetref48_mod.K a0 (fun r => some (.int .i64 r, [])) := by kernel_rfl
def culetref48_mod (a0 : Int) : Int := culetref48_mod.K a0 id
theorem culetref48_mod.nat {R : Type} (a0 : Int) (k : (Int) → R) : culetref48_mod.K a0 k = k (culetref48_mod.K a0 id) := by
  simp only [culetref48_mod.K, acond k, id_eq]
theorem culetref48_mod.eq (i : Int) : culetref48_mod i = i % 24 := by
  have hr := tmod24_range i
  simp only [culetref48_mod, culetref48_mod.K, id_eq]
  rw [w64 (by omega) (by omega), Int.tmod_eq_emod_of_nonneg (by omega), ← tmod24 i]
  split <;> omega
theorem culetref48_mod.ok : SOK Tryd.prog 36 (culetref48_mod.sp culetref48_mod) := by
  refine sok_of (E := ⟨[], []⟩) (L := []) ⟨specs_nil, inl_nil, mixed_ok⟩ 40 Tryd.func36 (by decide) rfl no_loops fun vs bl v bl' h => ?_
  unfold culetref48_mod.sp at h
  split at h
  · rename_i a0
    simp only [Option.some.injEq, Prod.mk.injEq, true_and] at h
    obtain ⟨rfl, rfl⟩ := h
    refine ⟨?_, by simp [okV, Nat.blt], clo_spec 8 _ (by kernel_rfl), told_blk (by kernel_rfl)⟩
    refine (culetref48_mod.run a0).trans ?_
    refine (culetref48_mod.nat a0 _).trans ?_
    kernel_rfl
  · cases h

/-! ### culet/culetref48.Tooth (12) -/
def culetref48_Tooth.K {R : Type} (f_culetref48_mod : Int → (Int)) (a0 : Int) (a1 : Int) (k : Int × Int × Int → R) : R :=
  bif decide (a1 < 1) then
    k (0, 0, 2)
  else
    bif decide (a1 > 200) then
      k (0, 0, 2)
    else
      let t0 := f_culetref48_mod a0
      bif IntKind.i64.wrap ((IntKind.i64.wrap (t0 * a1)).tdiv 24) == 0 then
        k (a1, (IntKind.i64.wrap (t0 * a1)).tmod 24, 0)
      else
        k (IntKind.i64.wrap ((IntKind.i64.wrap (t0 * a1)).tdiv 24), (IntKind.i64.wrap (t0 * a1)).tmod 24, 0)
set_option maxRecDepth 100000 in
theorem culetref48_Tooth.run (f_culetref48_mod : Int → (Int)) (a0 : Int) (a1 : Int) : xfn Tryd.prog ⟨[(36, culetref48_mod.sp f_culetref48_mod)], []⟩ [] 40 Tryd.f12 [.int .i64 a0, .int .i64 a1] [] = culetref48_Tooth.K f_culetref48_mod a0 a1 (fun r => some (.tuple ⟨[.int .i64 r.1, .int .i64 r.2.1, .int .i64 r.2.2]⟩, [])) := by kernel_rfl
def culetref48_Tooth (a0 : Int) (a1 : Int) : Int × Int × Int := culetref48_Tooth.K culetref48_mod a0 a1 id
theorem culetref48_Tooth.nat {R : Type} (f_culetref48_mod : Int → (Int)) (a0 : Int) (a1 : Int) (k : Int × Int × Int → R) : culetref48_Tooth.K f_culetref48_mod a0 a1 k = k (culetref48_Tooth.K f_culetref48_mod a0 a1 id) := by
  simp only [culetref48_Tooth.K, acond k, id_eq]
theorem culetref48_Tooth.eq (i t : Int) : culetref48_Tooth i t = tth i t := by
  simp only [culetref48_Tooth, culetref48_Tooth.K, id_eq, culetref48_mod.eq, tth]
  cases h : wok t with
  | false =>
    simp only [wok, decide_eq_false_iff_not] at h
    by_cases h1 : t < 1
    · simp [h1]
    · have h2 : t > 200 := by omega
      simp [h2]
  | true =>
    have hr := mt_range (i := i) h
    have hd : 0 ≤ i % 24 * t / 24 := Int.ediv_nonneg hr.1 (by omega)
    have hd2 : i % 24 * t / 24 ≤ i % 24 * t := Int.ediv_le_self _ hr.1
    simp only [wok, decide_eq_true_eq] at h
    rw [decide_eq_false (show ¬ t < 1 by omega), decide_eq_false (show ¬ t > 200 by omega), w64 (n := i % 24 * t) (by omega) (by omega), Int.tdiv_eq_ediv_of_nonneg hr.1, Int.tmod_eq_emod_of_nonneg hr.1, w64 (n := i % 24 * t / 24) (by omega) (by omega)]
    by_cases h0 : i % 24 * t / 24 = 0
    · simp [h0]
    · simp only [beq_of h0, if_neg h0, cond_false, cond_true]
theorem culetref48_Tooth.ok : SOK Tryd.prog 12 (culetref48_Tooth.sp culetref48_Tooth) := by
  refine sok_of (E := ⟨[(36, culetref48_mod.sp culetref48_mod)], []⟩) (L := []) ⟨(specs_cons culetref48_mod.ok specs_nil), inl_nil, mixed_ok⟩ 40 Tryd.func12 (by decide) rfl no_loops fun vs bl v bl' h => ?_
  unfold culetref48_Tooth.sp at h
  split at h
  · rename_i a0 a1
    simp only [Option.some.injEq, Prod.mk.injEq, true_and] at h
    obtain ⟨rfl, rfl⟩ := h
    refine ⟨?_, by simp [okV, Nat.blt], clo_spec 8 _ (by kernel_rfl), told_blk (by kernel_rfl)⟩
    refine (culetref48_Tooth.run culetref48_mod a0 a1).trans ?_
    refine (culetref48_Tooth.nat culetref48_mod a0 a1 _).trans ?_
    kernel_rfl
  · cases h

/-! ### culet/settings.Index (13) -/
def settings_Index.K {R : Type} (f_settings_Tooth : Int → Int → (Int × Int × Int)) (f_settings_wheelRight : Int → (Bool)) (a0 : Int) (a1 : Int) (a2 : Int) (k : Int × Int → R) : R :=
  let t0 := f_settings_wheelRight a2
  bif bif bif bif bif !t0 then true else decide (a0 < 1) then true else decide (a0 > a2) then true else decide (a1 < 0) then true else decide (a1 ≥ 24) then
    k (0, 2)
  else
    let t1 := f_settings_Tooth 0 a2
    bif bif t1.fst == a0 then t1.snd.fst == a1 else false then
      k (0, 0)
    else
      let t2 := f_settings_Tooth (IntKind.i64.wrap (0 + 1)) a2
      bif bif t2.fst == a0 then t2.snd.fst == a1 else false then
        k (IntKind.i64.wrap (0 + 1), 0)
      else
        let t3 := f_settings_Tooth (IntKind.i64.wrap (IntKind.i64.wrap (0 + 1) + 1)) a2
        bif bif t3.fst == a0 then t3.snd.fst == a1 else false then
          k (IntKind.i64.wrap (IntKind.i64.wrap (0 + 1) + 1), 0)
        else
          let t4 := f_settings_Tooth (IntKind.i64.wrap (IntKind.i64.wrap (IntKind.i64.wrap (0 + 1) + 1) + 1)) a2
          bif bif t4.fst == a0 then t4.snd.fst == a1 else false then
            k (IntKind.i64.wrap (IntKind.i64.wrap (IntKind.i64.wrap (0 + 1) + 1) + 1), 0)
          else
            let t5 := f_settings_Tooth (IntKind.i64.wrap (IntKind.i64.wrap (IntKind.i64.wrap (IntKind.i64.wrap (0 + 1) + 1) + 1) + 1)) a2
            bif bif t5.fst == a0 then t5.snd.fst == a1 else false then
              k (IntKind.i64.wrap (IntKind.i64.wrap (IntKind.i64.wrap (IntKind.i64.wrap (0 + 1) + 1) + 1) + 1), 0)
            else
              let t6 := f_settings_Tooth (IntKind.i64.wrap (IntKind.i64.wrap (IntKind.i64.wrap (IntKind.i64.wrap (IntKind.i64.wrap (0 + 1) + 1) + 1) + 1) + 1)) a2
              bif bif t6.fst == a0 then t6.snd.fst == a1 else false then
                k (IntKind.i64.wrap (IntKind.i64.wrap (IntKind.i64.wrap (IntKind.i64.wrap (IntKind.i64.wrap (0 + 1) + 1) + 1) + 1) + 1), 0)
              else
                let t7 := f_settings_Tooth (IntKind.i64.wrap (IntKind.i64.wrap (IntKind.i64.wrap (IntKind.i64.wrap (IntKind.i64.wrap (IntKind.i64.wrap (0 + 1) + 1) + 1) + 1) + 1) + 1)) a2
                bif bif t7.fst == a0 then t7.snd.fst == a1 else false then
                  k (IntKind.i64.wrap (IntKind.i64.wrap (IntKind.i64.wrap (IntKind.i64.wrap (IntKind.i64.wrap (IntKind.i64.wrap (0 + 1) + 1) + 1) + 1) + 1) + 1), 0)
                else
                  let t8 := f_settings_Tooth (IntKind.i64.wrap (IntKind.i64.wrap (IntKind.i64.wrap (IntKind.i64.wrap (IntKind.i64.wrap (IntKind.i64.wrap (IntKind.i64.wrap (0 + 1) + 1) + 1) + 1) + 1) + 1) + 1)) a2
                  bif bif t8.fst == a0 then t8.snd.fst == a1 else false then
                    k (IntKind.i64.wrap (IntKind.i64.wrap (IntKind.i64.wrap (IntKind.i64.wrap (IntKind.i64.wrap (IntKind.i64.wrap (IntKind.i64.wrap (0 + 1) + 1) + 1) + 1) + 1) + 1) + 1), 0)
                  else
                    let t9 := f_settings_Tooth (IntKind.i64.wrap (IntKind.i64.wrap (IntKind.i64.wrap (IntKind.i64.wrap (IntKind.i64.wrap (IntKind.i64.wrap (IntKind.i64.wrap (IntKind.i64.wrap (0 + 1) + 1) + 1) + 1) + 1) + 1) + 1) + 1)) a2
                    bif bif t9.fst == a0 then t9.snd.fst == a1 else false then
                      k (IntKind.i64.wrap (IntKind.i64.wrap (IntKind.i64.wrap (IntKind.i64.wrap (IntKind.i64.wrap (IntKind.i64.wrap (IntKind.i64.wrap (IntKind.i64.wrap (0 + 1) + 1) + 1) + 1) + 1) + 1) + 1) + 1), 0)
                    else
                      let t10 := f_settings_Tooth (IntKind.i64.wrap (IntKind.i64.wrap (IntKind.i64.wrap (IntKind.i64.wrap (IntKind.i64.wrap (IntKind.i64.wrap (IntKind.i64.wrap (IntKind.i64.wrap (IntKind.i64.wrap (0 + 1) + 1) + 1) + 1) + 1) + 1) + 1) + 1) + 1)) a2
                      bif bif t10.fst == a0 then t10.snd.fst == a1 else false then
                        k (IntKind.i64.wrap (IntKind.i64.wrap (IntKind.i64.wrap (IntKind.i64.wrap (IntKind.i64.wrap (IntKind.i64.wrap (IntKind.i64.wrap (IntKind.i64.wrap (IntKind.i64.wrap (0 + 1) + 1) + 1) + 1) + 1) + 1) + 1) + 1) + 1), 0)
                      else
                        let t11 := f_settings_Tooth (IntKind.i64.wrap (IntKind.i64.wrap (IntKind.i64.wrap (IntKind.i64.wrap (IntKind.i64.wrap (IntKind.i64.wrap (IntKind.i64.wrap (IntKind.i64.wrap (IntKind.i64.wrap (IntKind.i64.wrap (0 + 1) + 1) + 1) + 1) + 1) + 1) + 1) + 1) + 1) + 1)) a2
                        bif bif t11.fst == a0 then t11.snd.fst == a1 else false then
                          k (IntKind.i64.wrap (IntKind.i64.wrap (IntKind.i64.wrap (IntKind.i64.wrap (IntKind.i64.wrap (IntKind.i64.wrap (IntKind.i64.wrap (IntKind.i64.wrap (IntKind.i64.wrap (IntKind.i64.wrap (0 + 1) + 1) + 1) + 1) + 1) + 1) + 1) + 1) + 1) + 1), 0)
                        else
                          let t12 := f_settings_Tooth (IntKind.i64.wrap (IntKind.i64.wrap (IntKind.i64.wrap (IntKind.i64.wrap (IntKind.i64.wrap (IntKind.i64.wrap (IntKind.i64.wrap (IntKind.i64.wrap (IntKind.i64.wrap (IntKind.i64.wrap (IntKind.i64.wrap (0 + 1) + 1) + 1) + 1) + 1) + 1) + 1) + 1) + 1) + 1) + 1)) a2
                          bif bif t12.fst == a0 then t12.snd.fst == a1 else false then
                            k (IntKind.i64.wrap (IntKind.i64.wrap (IntKind.i64.wrap (IntKind.i64.wrap (IntKind.i64.wrap (IntKind.i64.wrap (IntKind.i64.wrap (IntKind.i64.wrap (IntKind.i64.wrap (IntKind.i64.wrap (IntKind.i64.wrap (0 + 1) + 1) + 1) + 1) + 1) + 1) + 1) + 1) + 1) + 1) + 1), 0)
                          else
                            let t13 := f_settings_Tooth (IntKind.i64.wrap (IntKind.i64.wrap (IntKind.i64.wrap (IntKind.i64.wrap (IntKind.i64.wrap (IntKind.i64.wrap (IntKind.i64.wrap (IntKind.i64.wrap (IntKind.i64.wrap (IntKind.i64.wrap (IntKind.i64.wrap (IntKind.i64.wrap (0 + 1) + 1) + 1) + 1) + 1) + 1) + 1) + 1) + 1) + 1) + 1) + 1)) a2
                            bif bif t13.fst == a0 then t13.snd.fst == a1 else false then
                              k (IntKind.i64.wrap (IntKind.i64.wrap (IntKind.i64.wrap (IntKind.i64.wrap (IntKind.i64.wrap (IntKind.i64.wrap (IntKind.i64.wrap (IntKind.i64.wrap (IntKind.i64.wrap (IntKind.i64.wrap (IntKind.i64.wrap (IntKind.i64.wrap (0 + 1) + 1) + 1) + 1) + 1) + 1) + 1) + 1) + 1) + 1) + 1) + 1), 0)
                            else
                              let t14 := f_settings_Tooth (IntKind.i64.wrap (IntKind.i64.wrap (IntKind.i64.wrap (IntKind.i64.wrap (IntKind.i64.wrap (IntKind.i64.wrap (IntKind.i64.wrap (IntKind.i64.wrap (IntKind.i64.wrap (IntKind.i64.wrap (IntKind.i64.wrap (IntKind.i64.wrap (IntKind.i64.wrap (0 + 1) + 1) + 1) + 1) + 1) + 1) + 1) + 1) + 1) + 1) + 1) + 1) + 1)) a2
                              bif bif t14.fst == a0 then t14.snd.fst == a1 else false then
                                k (IntKind.i64.wrap (IntKind.i64.wrap (IntKind.i64.wrap (IntKind.i64.wrap (IntKind.i64.wrap (IntKind.i64.wrap (IntKind.i64.wrap (IntKind.i64.wrap (IntKind.i64.wrap (IntKind.i64.wrap (IntKind.i64.wrap (IntKind.i64.wrap (IntKind.i64.wrap (0 + 1) + 1) + 1) + 1) + 1) + 1) + 1) + 1) + 1) + 1) + 1) + 1) + 1), 0)
                              else
                                let t15 := f_settings_Tooth (IntKind.i64.wrap (IntKind.i64.wrap (IntKind.i64.wrap (IntKind.i64.wrap (IntKind.i64.wrap (IntKind.i64.wrap (IntKind.i64.wrap (IntKind.i64.wrap (IntKind.i64.wrap (IntKind.i64.wrap (IntKind.i64.wrap (IntKind.i64.wrap (IntKind.i64.wrap (IntKind.i64.wrap (0 + 1) + 1) + 1) + 1) + 1) + 1) + 1) + 1) + 1) + 1) + 1) + 1) + 1) + 1)) a2
                                bif bif t15.fst == a0 then t15.snd.fst == a1 else false then
                                  k (IntKind.i64.wrap (IntKind.i64.wrap (IntKind.i64.wrap (IntKind.i64.wrap (IntKind.i64.wrap (IntKind.i64.wrap (IntKind.i64.wrap (IntKind.i64.wrap (IntKind.i64.wrap (IntKind.i64.wrap (IntKind.i64.wrap (IntKind.i64.wrap (IntKind.i64.wrap (IntKind.i64.wrap (0 + 1) + 1) + 1) + 1) + 1) + 1) + 1) + 1) + 1) + 1) + 1) + 1) + 1) + 1), 0)
                                else
                                  let t16 := f_settings_Tooth (IntKind.i64.wrap (IntKind.i64.wrap (IntKind.i64.wrap (IntKind.i64.wrap (IntKind.i64.wrap (IntKind.i64.wrap (IntKind.i64.wrap (IntKind.i64.wrap (IntKind.i64.wrap (IntKind.i64.wrap (IntKind.i64.wrap (IntKind.i64.wrap (IntKind.i64.wrap (IntKind.i64.wrap (IntKind.i64.wrap (0 + 1) + 1) + 1) + 1) + 1) + 1) + 1) + 1) + 1) + 1) + 1) + 1) + 1) + 1) + 1)) a2
                                  bif bif t16.fst == a0 then t16.snd.fst == a1 else false then
                                    k (IntKind.i64.wrap (IntKind.i64.wrap (IntKind.i64.wrap (IntKind.i64.wrap (IntKind.i64.wrap (IntKind.i64.wrap (IntKind.i64.wrap (IntKind.i64.wrap (IntKind.i64.wrap (IntKind.i64.wrap (IntKind.i64.wrap (IntKind.i64.wrap (IntKind.i64.wrap (IntKind.i64.wrap (IntKind.i64.wrap (0 + 1) + 1) + 1) + 1) + 1) + 1) + 1) + 1) + 1) + 1) + 1) + 1) + 1) + 1) + 1), 0)
                                  else
                                    let t17 := f_settings_Tooth (IntKind.i64.wrap (IntKind.i64.wrap (IntKind.i64.wrap (IntKind.i64.wrap (IntKind.i64.wrap (IntKind.i64.wrap (IntKind.i64.wrap (IntKind.i64.wrap (IntKind.i64.wrap (IntKind.i64.wrap (IntKind.i64.wrap (IntKind.i64.wrap (IntKind.i64.wrap (IntKind.i64.wrap (IntKind.i64.wrap (IntKind.i64.wrap (0 + 1) + 1) + 1) + 1) + 1) + 1) + 1) + 1) + 1) + 1) + 1) + 1) + 1) + 1) + 1) + 1)) a2
                                    bif bif t17.fst == a0 then t17.snd.fst == a1 else false then
                                      k (IntKind.i64.wrap (IntKind.i64.wrap (IntKind.i64.wrap (IntKind.i64.wrap (IntKind.i64.wrap (IntKind.i64.wrap (IntKind.i64.wrap (IntKind.i64.wrap (IntKind.i64.wrap (IntKind.i64.wrap (IntKind.i64.wrap (IntKind.i64.wrap (IntKind.i64.wrap (IntKind.i64.wrap (IntKind.i64.wrap (IntKind.i64.wrap (0 + 1) + 1) + 1) + 1) + 1) + 1) + 1) + 1) + 1) + 1) + 1) + 1) + 1) + 1) + 1) + 1), 0)
                                    else
                                      let t18 := f_settings_Tooth (IntKind.i64.wrap (IntKind.i64.wrap (IntKind.i64.wrap (IntKind.i64.wrap (IntKind.i64.wrap (IntKind.i64.wrap (IntKind.i64.wrap (IntKind.i64.wrap (IntKind.i64.wrap (IntKind.i64.wrap (IntKind.i64.wrap (IntKind.i64.wrap (IntKind.i64.wrap (IntKind.i64.wrap (IntKind.i64.wrap (IntKind.i64.wrap (IntKind.i64.wrap (0 + 1) + 1) + 1) + 1) + 1) + 1) + 1) + 1) + 1) + 1) + 1) + 1) + 1) + 1) + 1) + 1) + 1)) a2
                                      bif bif t18.fst == a0 then t18.snd.fst == a1 else false then
                                        k (IntKind.i64.wrap (IntKind.i64.wrap (IntKind.i64.wrap (IntKind.i64.wrap (IntKind.i64.wrap (IntKind.i64.wrap (IntKind.i64.wrap (IntKind.i64.wrap (IntKind.i64.wrap (IntKind.i64.wrap (IntKind.i64.wrap (IntKind.i64.wrap (IntKind.i64.wrap (IntKind.i64.wrap (IntKind.i64.wrap (IntKind.i64.wrap (IntKind.i64.wrap (0 + 1) + 1) + 1) + 1) + 1) + 1) + 1) + 1) + 1) + 1) + 1) + 1) + 1) + 1) + 1) + 1) + 1), 0)
                                      else
                                        let t19 := f_settings_Tooth (IntKind.i64.wrap (IntKind.i64.wrap (IntKind.i64.wrap (IntKind.i64.wrap (IntKind.i64.wrap (IntKind.i64.wrap (IntKind.i64.wrap (IntKind.i64.wrap (IntKind.i64.wrap (IntKind.i64.wrap (IntKind.i64.wrap (IntKind.i64.wrap (IntKind.i64.wrap (IntKind.i64.wrap (IntKind.i64.wrap (IntKind.i64.wrap (IntKind.i64.wrap (IntKind.i64.wrap (0 + 1) + 1) + 1) + 1) + 1) + 1) + 1) + 1) + 1) + 1) + 1) + 1) + 1) + 1) + 1) + 1) + 1) + 1)) a2
                                        bif bif t19.fst == a0 then t19.snd.fst == a1 else false then
                                          k (IntKind.i64.wrap (IntKind.i64.wrap (IntKind.i64.wrap (IntKind.i64.wrap (IntKind.i64.wrap (IntKind.i64.wrap (IntKind.i64.wrap (IntKind.i64.wrap (IntKind.i64.wrap (IntKind.i64.wrap (IntKind.i64.wrap (IntKind.i64.wrap (IntKind.i64.wrap (IntKind.i64.wrap (IntKind.i64.wrap (IntKind.i64.wrap (IntKind.i64.wrap (IntKind.i64.wrap (0 + 1) + 1) + 1) + 1) + 1) + 1) + 1) + 1) + 1) + 1) + 1) + 1) + 1) + 1) + 1) + 1) + 1) + 1), 0)
                                        else
                                          let t20 := f_settings_Tooth (IntKind.i64.wrap (IntKind.i64.wrap (IntKind.i64.wrap (IntKind.i64.wrap (IntKind.i64.wrap (IntKind.i64.wrap (IntKind.i64.wrap (IntKind.i64.wrap (IntKind.i64.wrap (IntKind.i64.wrap (IntKind.i64.wrap (IntKind.i64.wrap (IntKind.i64.wrap (IntKind.i64.wrap (IntKind.i64.wrap (IntKind.i64.wrap (IntKind.i64.wrap (IntKind.i64.wrap (IntKind.i64.wrap (0 + 1) + 1) + 1) + 1) + 1) + 1) + 1) + 1) + 1) + 1) + 1) + 1) + 1) + 1) + 1) + 1) + 1) + 1) + 1)) a2
                                          bif bif t20.fst == a0 then t20.snd.fst == a1 else false then
                                            k (IntKind.i64.wrap (IntKind.i64.wrap (IntKind.i64.wrap (IntKind.i64.wrap (IntKind.i64.wrap (IntKind.i64.wrap (IntKind.i64.wrap (IntKind.i64.wrap (IntKind.i64.wrap (IntKind.i64.wrap (IntKind.i64.wrap (IntKind.i64.wrap (IntKind.i64.wrap (IntKind.i64.wrap (IntKind.i64.wrap (IntKind.i64.wrap (IntKind.i64.wrap (IntKind.i64.wrap (IntKind.i64.wrap (0 + 1) + 1) + 1) + 1) + 1) + 1) + 1) + 1) + 1) + 1) + 1) + 1) + 1) + 1) + 1) + 1) + 1) + 1) + 1), 0)
                                          else
                                            let t21 := f_settings_Tooth (IntKind.i64.wrap (IntKind.i64.wrap (IntKind.i64.wrap (IntKind.i64.wrap (IntKind.i64.wrap (IntKind.i64.wrap (IntKind.i64.wrap (IntKind.i64.wrap (IntKind.i64.wrap (IntKind.i64.wrap (IntKind.i64.wrap (IntKind.i64.wrap (IntKind.i64.wrap (IntKind.i64.wrap (IntKind.i64.wrap (IntKind.i64.wrap (IntKind.i64.wrap (IntKind.i64.wrap (IntKind.i64.wrap (IntKind.i64.wrap (0 + 1) + 1) + 1) + 1) + 1) + 1) + 1) + 1) + 1) + 1) + 1) + 1) + 1) + 1) + 1) + 1) + 1) + 1) + 1) + 1)) a2
                                            bif bif t21.fst == a0 then t21.snd.fst == a1 else false then
                                              k (IntKind.i64.wrap (IntKind.i64.wrap (IntKind.i64.wrap (IntKind.i64.wrap (IntKind.i64.wrap (IntKind.i64.wrap (IntKind.i64.wrap (IntKind.i64.wrap (IntKind.i64.wrap (IntKind.i64.wrap (IntKind.i64.wrap (IntKind.i64.wrap (IntKind.i64.wrap (IntKind.i64.wrap (IntKind.i64.wrap (IntKind.i64.wrap (IntKind.i64.wrap (IntKind.i64.wrap (IntKind.i64.wrap (IntKind.i64.wrap (0 + 1) + 1) + 1) + 1) + 1) + 1) + 1) + 1) + 1) + 1) + 1) + 1) + 1) + 1) + 1) + 1) + 1) + 1) + 1) + 1), 0)
                                            else
                                              let t22 := f_settings_Tooth (IntKind.i64.wrap (IntKind.i64.wrap (IntKind.i64.wrap (IntKind.i64.wrap (IntKind.i64.wrap (IntKind.i64.wrap (IntKind.i64.wrap (IntKind.i64.wrap (IntKind.i64.wrap (IntKind.i64.wrap (IntKind.i64.wrap (IntKind.i64.wrap (IntKind.i64.wrap (IntKind.i64.wrap (IntKind.i64.wrap (IntKind.i64.wrap (IntKind.i64.wrap (IntKind.i64.wrap (IntKind.i64.wrap (IntKind.i64.wrap (IntKind.i64.wrap (0 + 1) + 1) + 1) + 1) + 1) + 1) + 1) + 1) + 1) + 1) + 1) + 1) + 1) + 1) + 1) + 1) + 1) + 1) + 1) + 1) + 1)) a2
                                              bif bif t22.fst == a0 then t22.snd.fst == a1 else false then
                                                k (IntKind.i64.wrap (IntKind.i64.wrap (IntKind.i64.wrap (IntKind.i64.wrap (IntKind.i64.wrap (IntKind.i64.wrap (IntKind.i64.wrap (IntKind.i64.wrap (IntKind.i64.wrap (IntKind.i64.wrap (IntKind.i64.wrap (IntKind.i64.wrap (IntKind.i64.wrap (IntKind.i64.wrap (IntKind.i64.wrap (IntKind.i64.wrap (IntKind.i64.wrap (IntKind.i64.wrap (IntKind.i64.wrap (IntKind.i64.wrap (IntKind.i64.wrap (0 + 1) + 1) + 1) + 1) + 1) + 1) + 1) + 1) + 1) + 1) + 1) + 1) + 1) + 1) + 1) + 1) + 1) + 1) + 1) + 1) + 1), 0)
                                              else
                                                let t23 := f_settings_Tooth (IntKind.i64.wrap (IntKind.i64.wrap (IntKind.i64.wrap (IntKind.i64.wrap (IntKind.i64.wrap (IntKind.i64.wrap (IntKind.i64.wrap (IntKind.i64.wrap (IntKind.i64.wrap (IntKind.i64.wrap (IntKind.i64.wrap (IntKind.i64.wrap (IntKind.i64.wrap (IntKind.i64.wrap (IntKind.i64.wrap (IntKind.i64.wrap (IntKind.i64.wrap (IntKind.i64.wrap (IntKind.i64.wrap (IntKind.i64.wrap (IntKind.i64.wrap (IntKind.i64.wrap (0 + 1) + 1) + 1) + 1) + 1) + 1) + 1) + 1) + 1) + 1) + 1) + 1) + 1) + 1) + 1) + 1) + 1) + 1) + 1) + 1) + 1) + 1)) a2
                                                bif bif t23.fst == a0 then t23.snd.fst == a1 else false then
                                                  k (IntKind.i64.wrap (IntKind.i64.wrap (IntKind.i64.wrap (IntKind.i64.wrap (IntKind.i64.wrap (IntKind.i64.wrap (IntKind.i64.wrap (IntKind.i64.wrap (IntKind.i64.wrap (IntKind.i64.wrap (IntKind.i64.wrap (IntKind.i64.wrap (IntKind.i64.wrap (IntKind.i64.wrap (IntKind.i64.wrap (IntKind.i64.wrap (IntKind.i64.wrap (IntKind.i64.wrap (IntKind.i64.wrap (IntKind.i64.wrap (IntKind.i64.wrap (IntKind.i64.wrap (0 + 1) + 1) + 1) + 1) + 1) + 1) + 1) + 1) + 1) + 1) + 1) + 1) + 1) + 1) + 1) + 1) + 1) + 1) + 1) + 1) + 1) + 1), 0)
                                                else
                                                  let t24 := f_settings_Tooth (IntKind.i64.wrap (IntKind.i64.wrap (IntKind.i64.wrap (IntKind.i64.wrap (IntKind.i64.wrap (IntKind.i64.wrap (IntKind.i64.wrap (IntKind.i64.wrap (IntKind.i64.wrap (IntKind.i64.wrap (IntKind.i64.wrap (IntKind.i64.wrap (IntKind.i64.wrap (IntKind.i64.wrap (IntKind.i64.wrap (IntKind.i64.wrap (IntKind.i64.wrap (IntKind.i64.wrap (IntKind.i64.wrap (IntKind.i64.wrap (IntKind.i64.wrap (IntKind.i64.wrap (IntKind.i64.wrap (0 + 1) + 1) + 1) + 1) + 1) + 1) + 1) + 1) + 1) + 1) + 1) + 1) + 1) + 1) + 1) + 1) + 1) + 1) + 1) + 1) + 1) + 1) + 1)) a2
                                                  bif bif t24.fst == a0 then t24.snd.fst == a1 else false then
                                                    k (IntKind.i64.wrap (IntKind.i64.wrap (IntKind.i64.wrap (IntKind.i64.wrap (IntKind.i64.wrap (IntKind.i64.wrap (IntKind.i64.wrap (IntKind.i64.wrap (IntKind.i64.wrap (IntKind.i64.wrap (IntKind.i64.wrap (IntKind.i64.wrap (IntKind.i64.wrap (IntKind.i64.wrap (IntKind.i64.wrap (IntKind.i64.wrap (IntKind.i64.wrap (IntKind.i64.wrap (IntKind.i64.wrap (IntKind.i64.wrap (IntKind.i64.wrap (IntKind.i64.wrap (IntKind.i64.wrap (0 + 1) + 1) + 1) + 1) + 1) + 1) + 1) + 1) + 1) + 1) + 1) + 1) + 1) + 1) + 1) + 1) + 1) + 1) + 1) + 1) + 1) + 1) + 1), 0)
                                                  else
                                                    k (0, 7)
set_option maxRecDepth 100000 in
theorem settings_Index.run (f_settings_Tooth : Int → Int → (Int × Int × Int)) (f_settings_wheelRight : Int → (Bool)) (a0 : Int) (a1 : Int) (a2 : Int) : xfn Tryd.prog ⟨[(11, settings_Tooth.sp f_settings_Tooth), (11, settings_Tooth.sp f_settings_Tooth), (34, settings_wheelRight.sp f_settings_wheelRight)], []⟩ [] 60 Tryd.f13 [.int .i64 a0, .int .i64 a1, .int .i64 a2] [] = settings_Index.K f_settings_Tooth f_settings_wheelRight a0 a1 a2 (fun r => some (.tuple ⟨[.int .i64 r.1, .int .i64 r.2]⟩, [])) := by kernel_rfl
def settings_Index (a0 : Int) (a1 : Int) (a2 : Int) : Int × Int := settings_Index.K settings_Tooth settings_wheelRight a0 a1 a2 id
theorem settings_Index.nat {R : Type} (f_settings_Tooth : Int → Int → (Int × Int × Int)) (f_settings_wheelRight : Int → (Bool)) (a0 : Int) (a1 : Int) (a2 : Int) (k : Int × Int → R) : settings_Index.K f_settings_Tooth f_settings_wheelRight a0 a1 a2 k = k (settings_Index.K f_settings_Tooth f_settings_wheelRight a0 a1 a2 id) := by
  simp only [settings_Index.K, acond k, id_eq]
def ix (a b t : Int) : Nat → Int → Int × Int
  | 0, _ => (0, 7)
  | n + 1, i => bif (bif (tth i t).fst == a then (tth i t).snd.fst == b else false) then (i, 0) else ix a b t n (IntKind.i64.wrap (i + 1))
def ig (a b t : Int) : Bool := decide (1 ≤ a ∧ a ≤ t ∧ 0 ≤ b ∧ b < 24)
theorem ig_false {a b t : Int} (h : ig a b t = false) (t0 : Bool) : (bif bif bif bif t0 then true else decide (a < 1) then true else decide (a > t) then true else decide (b < 0) then true else decide (b ≥ 24)) = true := by
  simp only [ig, decide_eq_false_iff_not] at h
  by_cases h1 : a < 1
  · cases t0 <;> simp [h1]
  · by_cases h2 : a > t
    · cases t0 <;> simp [h1, h2]
    · by_cases h3 : b < 0
      · cases t0 <;> simp [h1, h2, h3]
      · have h4 : b ≥ 24 := by omega
        cases t0 <;> simp [h1, h2, h3, h4]
theorem ig_true {a b t : Int} (h : ig a b t = true) : (bif bif bif bif false then true else decide (a < 1) then true else decide (a > t) then true else decide (b < 0) then true else decide (b ≥ 24)) = false := by
  simp only [ig, decide_eq_true_eq] at h
  rw [decide_eq_false (show ¬ a < 1 by omega), decide_eq_false (show ¬ a > t by omega), decide_eq_false (show ¬ b < 0 by omega), decide_eq_false (show ¬ b ≥ 24 by omega)]
  rfl
theorem settings_Index.eq (a b t : Int) : settings_Index a b t = bif wok t && ig a b t then ix a b t 24 0 else (0, 2) := by
  simp only [settings_Index, settings_Index.K, id_eq, settings_Tooth.eq, settings_wheelRight.eq]
  cases h1 : wok t with
  | false => cases decide (a < 1) <;> cases decide (a > t) <;> cases decide (b < 0) <;> cases decide (b ≥ 24) <;> rfl
  | true =>
    cases h2 : ig a b t with
    | false =>
      have := ig_false h2 (!true)
      rw [this]; rfl
    | true =>
      have := ig_true h2
      simp only [Bool.not_true]
      rw [this]
      rfl
theorem settings_Index.ok : SOK Tryd.prog 13 (settings_Index.sp settings_Index) := by
  refine sok_of (E := ⟨[(11, settings_Tooth.sp settings_Tooth), (11, settings_Tooth.sp settings_Tooth), (34, settings_wheelRight.sp settings_wheelRight)], []⟩) (L := []) ⟨(specs_cons settings_Tooth.ok (specs_cons settings_Tooth.ok (specs_cons settings_wheelRight.ok specs_nil))), inl_nil, mixed_ok⟩ 60 Tryd.func13 (by decide) rfl no_loops fun vs bl v bl' h => ?_
  unfold settings_Index.sp at h
  split at h
  · rename_i a0 a1 a2
    simp only [Option.some.injEq, Prod.mk.injEq, true_and] at h
    obtain ⟨rfl, rfl⟩ := h
    refine ⟨?_, by simp [okV, Nat.blt], clo_spec 8 _ (by kernel_rfl), told_blk (by kernel_rfl)⟩
    refine (settings_Index.run settings_Tooth settings_wheelRight a0 a1 a2).trans ?_
    refine (settings_Index.nat settings_Tooth settings_wheelRight a0 a1 a2 _).trans ?_
    kernel_rfl
  · cases h

/-! ### culet/culetref48.Index (14) -/
def culetref48_Index.K {R : Type} (f_culetref48_Tooth : Int → Int → (Int × Int × Int)) (a0 : Int) (a1 : Int) (a2 : Int) (k : Int × Int → R) : R :=
  bif bif bif bif bif bif decide (a2 < 1) then true else decide (a2 > 200) then true else decide (a0 < 1) then true else decide (a0 > a2) then true else decide (a1 < 0) then true else decide (a1 ≥ 24) then
    k (0, 2)
  else
    let t0 := f_culetref48_Tooth 0 a2
    bif bif t0.fst == a0 then t0.snd.fst == a1 else false then
      k (0, 0)
    else
      let t1 := f_culetref48_Tooth (IntKind.i64.wrap (0 + 1)) a2
      bif bif t1.fst == a0 then t1.snd.fst == a1 else false then
        k (IntKind.i64.wrap (0 + 1), 0)
      else
        let t2 := f_culetref48_Tooth (IntKind.i64.wrap (IntKind.i64.wrap (0 + 1) + 1)) a2
        bif bif t2.fst == a0 then t2.snd.fst == a1 else false then
          k (IntKind.i64.wrap (IntKind.i64.wrap (0 + 1) + 1), 0)
        else
          let t3 := f_culetref48_Tooth (IntKind.i64.wrap (IntKind.i64.wrap (IntKind.i64.wrap (0 + 1) + 1) + 1)) a2
          bif bif t3.fst == a0 then t3.snd.fst == a1 else false then
            k (IntKind.i64.wrap (IntKind.i64.wrap (IntKind.i64.wrap (0 + 1) + 1) + 1), 0)
          else
            let t4 := f_culetref48_Tooth (IntKind.i64.wrap (IntKind.i64.wrap (IntKind.i64.wrap (IntKind.i64.wrap (0 + 1) + 1) + 1) + 1)) a2
            bif bif t4.fst == a0 then t4.snd.fst == a1 else false then
              k (IntKind.i64.wrap (IntKind.i64.wrap (IntKind.i64.wrap (IntKind.i64.wrap (0 + 1) + 1) + 1) + 1), 0)
            else
              let t5 := f_culetref48_Tooth (IntKind.i64.wrap (IntKind.i64.wrap (IntKind.i64.wrap (IntKind.i64.wrap (IntKind.i64.wrap (0 + 1) + 1) + 1) + 1) + 1)) a2
              bif bif t5.fst == a0 then t5.snd.fst == a1 else false then
                k (IntKind.i64.wrap (IntKind.i64.wrap (IntKind.i64.wrap (IntKind.i64.wrap (IntKind.i64.wrap (0 + 1) + 1) + 1) + 1) + 1), 0)
              else
                let t6 := f_culetref48_Tooth (IntKind.i64.wrap (IntKind.i64.wrap (IntKind.i64.wrap (IntKind.i64.wrap (IntKind.i64.wrap (IntKind.i64.wrap (0 + 1) + 1) + 1) + 1) + 1) + 1)) a2
                bif bif t6.fst == a0 then t6.snd.fst == a1 else false then
                  k (IntKind.i64.wrap (IntKind.i64.wrap (IntKind.i64.wrap (IntKind.i64.wrap (IntKind.i64.wrap (IntKind.i64.wrap (0 + 1) + 1) + 1) + 1) + 1) + 1), 0)
                else
                  let t7 := f_culetref48_Tooth (IntKind.i64.wrap (IntKind.i64.wrap (IntKind.i64.wrap (IntKind.i64.wrap (IntKind.i64.wrap (IntKind.i64.wrap (IntKind.i64.wrap (0 + 1) + 1) + 1) + 1) + 1) + 1) + 1)) a2
                  bif bif t7.fst == a0 then t7.snd.fst == a1 else false then
                    k (IntKind.i64.wrap (IntKind.i64.wrap (IntKind.i64.wrap (IntKind.i64.wrap (IntKind.i64.wrap (IntKind.i64.wrap (IntKind.i64.wrap (0 + 1) + 1) + 1) + 1) + 1) + 1) + 1), 0)
                  else
                    let t8 := f_culetref48_Tooth (IntKind.i64.wrap (IntKind.i64.wrap (IntKind.i64.wrap (IntKind.i64.wrap (IntKind.i64.wrap (IntKind.i64.wrap (IntKind.i64.wrap (IntKind.i64.wrap (0 + 1) + 1) + 1) + 1) + 1) + 1) + 1) + 1)) a2
                    bif bif t8.fst == a0 then t8.snd.fst == a1 else false then
                      k (IntKind.i64.wrap (IntKind.i64.wrap (IntKind.i64.wrap (IntKind.i64.wrap (IntKind.i64.wrap (IntKind.i64.wrap (IntKind.i64.wrap (IntKind.i64.wrap (0 + 1) + 1) + 1) + 1) + 1) + 1) + 1) + 1), 0)
                    else
                      let t9 := f_culetref48_Tooth (IntKind.i64.wrap (IntKind.i64.wrap (IntKind.i64.wrap (IntKind.i64.wrap (IntKind.i64.wrap (IntKind.i64.wrap (IntKind.i64.wrap (IntKind.i64.wrap (IntKind.i64.wrap (0 + 1) + 1) + 1) + 1) + 1) + 1) + 1) + 1) + 1)) a2
                      bif bif t9.fst == a0 then t9.snd.fst == a1 else false then
                        k (IntKind.i64.wrap (IntKind.i64.wrap (IntKind.i64.wrap (IntKind.i64.wrap (IntKind.i64.wrap (IntKind.i64.wrap (IntKind.i64.wrap (IntKind.i64.wrap (IntKind.i64.wrap (0 + 1) + 1) + 1) + 1) + 1) + 1) + 1) + 1) + 1), 0)
                      else
                        let t10 := f_culetref48_Tooth (IntKind.i64.wrap (IntKind.i64.wrap (IntKind.i64.wrap (IntKind.i64.wrap (IntKind.i64.wrap (IntKind.i64.wrap (IntKind.i64.wrap (IntKind.i64.wrap (IntKind.i64.wrap (IntKind.i64.wrap (0 + 1) + 1) + 1) + 1) + 1) + 1) + 1) + 1) + 1) + 1)) a2
                        bif bif t10.fst == a0 then t10.snd.fst == a1 else false then
                          k (IntKind.i64.wrap (IntKind.i64.wrap (IntKind.i64.wrap (IntKind.i64.wrap (IntKind.i64.wrap (IntKind.i64.wrap (IntKind.i64.wrap (IntKind.i64.wrap (IntKind.i64.wrap (IntKind.i64.wrap (0 + 1) + 1) + 1) + 1) + 1) + 1) + 1) + 1) + 1) + 1), 0)
                        else
                          let t11 := f_culetref48_Tooth (IntKind.i64.wrap (IntKind.i64.wrap (IntKind.i64.wrap (IntKind.i64.wrap (IntKind.i64.wrap (IntKind.i64.wrap (IntKind.i64.wrap (IntKind.i64.wrap (IntKind.i64.wrap (IntKind.i64.wrap (IntKind.i64.wrap (0 + 1) + 1) + 1) + 1) + 1) + 1) + 1) + 1) + 1) + 1) + 1)) a2
                          bif bif t11.fst == a0 then t11.snd.fst == a1 else false then
                            k (IntKind.i64.wrap (IntKind.i64.wrap (IntKind.i64.wrap (IntKind.i64.wrap (IntKind.i64.wrap (IntKind.i64.wrap (IntKind.i64.wrap (IntKind.i64.wrap (IntKind.i64.wrap (IntKind.i64.wrap (IntKind.i64.wrap (0 + 1) + 1) + 1) + 1) + 1) + 1) + 1) + 1) + 1) + 1) + 1), 0)
                          else
                            let t12 := f_culetref48_Tooth (IntKind.i64.wrap (IntKind.i64.wrap (IntKind.i64.wrap (IntKind.i64.wrap (IntKind.i64.wrap (IntKind.i64.wrap (IntKind.i64.wrap (IntKind.i64.wrap (IntKind.i64.wrap (IntKind.i64.wrap (IntKind.i64.wrap (IntKind.i64.wrap (0 + 1) + 1) + 1) + 1) + 1) + 1) + 1) + 1) + 1) + 1) + 1) + 1)) a2
                            bif bif t12.fst == a0 then t12.snd.fst == a1 else false then
                              k (IntKind.i64.wrap (IntKind.i64.wrap (IntKind.i64.wrap (IntKind.i64.wrap (IntKind.i64.wrap (IntKind.i64.wrap (IntKind.i64.wrap (IntKind.i64.wrap (IntKind.i64.wrap (IntKind.i64.wrap (IntKind.i64.wrap (IntKind.i64.wrap (0 + 1) + 1) + 1) + 1) + 1) + 1) + 1) + 1) + 1) + 1) + 1) + 1), 0)
                            else
                              let t13 := f_culetref48_Tooth (IntKind.i64.wrap (IntKind.i64.wrap (IntKind.i64.wrap (IntKind.i64.wrap (IntKind.i64.wrap (IntKind.i64.wrap (IntKind.i64.wrap (IntKind.i64.wrap (IntKind.i64.wrap (IntKind.i64.wrap (IntKind.i64.wrap (IntKind.i64.wrap (IntKind.i64.wrap (0 + 1) + 1) + 1) + 1) + 1) + 1) + 1) + 1) + 1) + 1) + 1) + 1) + 1)) a2
                              bif bif t13.fst == a0 then t13.snd.fst == a1 else false then
                                k (IntKind.i64.wrap (IntKind.i64.wrap (IntKind.i64.wrap (IntKind.i64.wrap (IntKind.i64.wrap (IntKind.i64.wrap (IntKind.i64.wrap (IntKind.i64.wrap (IntKind.i64.wrap (IntKind.i64.wrap (IntKind.i64.wrap (IntKind.i64.wrap (IntKind.i64.wrap (0 + 1) + 1) + 1) + 1) + 1) + 1) + 1) + 1) + 1) + 1) + 1) + 1) + 1), 0)
                              else
                                let t14 := f_culetref48_Tooth (IntKind.i64.wrap (IntKind.i64.wrap (IntKind.i64.wrap (IntKind.i64.wrap (IntKind.i64.wrap (IntKind.i64.wrap (IntKind.i64.wrap (IntKind.i64.wrap (IntKind.i64.wrap (IntKind.i64.wrap (IntKind.i64.wrap (IntKind.i64.wrap (IntKind.i64.wrap (IntKind.i64.wrap (0 + 1) + 1) + 1) + 1) + 1) + 1) + 1) + 1) + 1) + 1) + 1) + 1) + 1) + 1)) a2
                                bif bif t14.fst == a0 then t14.snd.fst == a1 else false then
                                  k (IntKind.i64.wrap (IntKind.i64.wrap (IntKind.i64.wrap (IntKind.i64.wrap (IntKind.i64.wrap (IntKind.i64.wrap (IntKind.i64.wrap (IntKind.i64.wrap (IntKind.i64.wrap (IntKind.i64.wrap (IntKind.i64.wrap (IntKind.i64.wrap (IntKind.i64.wrap (IntKind.i64.wrap (0 + 1) + 1) + 1) + 1) + 1) + 1) + 1) + 1) + 1) + 1) + 1) + 1) + 1) + 1), 0)
                                else
                                  let t15 := f_culetref48_Tooth (IntKind.i64.wrap (IntKind.i64.wrap (IntKind.i64.wrap (IntKind.i64.wrap (IntKind.i64.wrap (IntKind.i64.wrap (IntKind.i64.wrap (IntKind.i64.wrap (IntKind.i64.wrap (IntKind.i64.wrap (IntKind.i64.wrap (IntKind.i64.wrap (IntKind.i64.wrap (IntKind.i64.wrap (IntKind.i64.wrap (0 + 1) + 1) + 1) + 1) + 1) + 1) + 1) + 1) + 1) + 1) + 1) + 1) + 1) + 1) + 1)) a2
                                  bif bif t15.fst == a0 then t15.snd.fst == a1 else false then
                                    k (IntKind.i64.wrap (IntKind.i64.wrap (IntKind.i64.wrap (IntKind.i64.wrap (IntKind.i64.wrap (IntKind.i64.wrap (IntKind.i64.wrap (IntKind.i64.wrap (IntKind.i64.wrap (IntKind.i64.wrap (IntKind.i64.wrap (IntKind.i64.wrap (IntKind.i64.wrap (IntKind.i64.wrap (IntKind.i64.wrap (0 + 1) + 1) + 1) + 1) + 1) + 1) + 1) + 1) + 1) + 1) + 1) + 1) + 1) + 1) + 1), 0)
                                  else
                                    let t16 := f_culetref48_Tooth (IntKind.i64.wrap (IntKind.i64.wrap (IntKind.i64.wrap (IntKind.i64.wrap (IntKind.i64.wrap (IntKind.i64.wrap (IntKind.i64.wrap (IntKind.i64.wrap (IntKind.i64.wrap (IntKind.i64.wrap (IntKind.i64.wrap (IntKind.i64.wrap (IntKind.i64.wrap (IntKind.i64.wrap (IntKind.i64.wrap (IntKind.i64.wrap (0 + 1) + 1) + 1) + 1) + 1) + 1) + 1) + 1) + 1) + 1) + 1) + 1) + 1) + 1) + 1) + 1)) a2
                                    bif bif t16.fst == a0 then t16.snd.fst == a1 else false then
                                      k (IntKind.i64.wrap (IntKind.i64.wrap (IntKind.i64.wrap (IntKind.i64.wrap (IntKind.i64.wrap (IntKind.i64.wrap (IntKind.i64.wrap (IntKind.i64.wrap (IntKind.i64.wrap (IntKind.i64.wrap (IntKind.i64.wrap (IntKind.i64.wrap (IntKind.i64.wrap (IntKind.i64.wrap (IntKind.i64.wrap (IntKind.i64.wrap (0 + 1) + 1) + 1) + 1) + 1) + 1) + 1) + 1) + 1) + 1) + 1) + 1) + 1) + 1) + 1) + 1), 0)
                                    else
                                      let t17 := f_culetref48_Tooth (IntKind.i64.wrap (IntKind.i64.wrap (IntKind.i64.wrap (IntKind.i64.wrap (IntKind.i64.wrap (IntKind.i64.wrap (IntKind.i64.wrap (IntKind.i64.wrap (IntKind.i64.wrap (IntKind.i64.wrap (IntKind.i64.wrap (IntKind.i64.wrap (IntKind.i64.wrap (IntKind.i64.wrap (IntKind.i64.wrap (IntKind.i64.wrap (IntKind.i64.wrap (0 + 1) + 1) + 1) + 1) + 1) + 1) + 1) + 1) + 1) + 1) + 1) + 1) + 1) + 1) + 1) + 1) + 1)) a2
                                      bif bif t17.fst == a0 then t17.snd.fst == a1 else false then
                                        k (IntKind.i64.wrap (IntKind.i64.wrap (IntKind.i64.wrap (IntKind.i64.wrap (IntKind.i64.wrap (IntKind.i64.wrap (IntKind.i64.wrap (IntKind.i64.wrap (IntKind.i64.wrap (IntKind.i64.wrap (IntKind.i64.wrap (IntKind.i64.wrap (IntKind.i64.wrap (IntKind.i64.wrap (IntKind.i64.wrap (IntKind.i64.wrap (IntKind.i64.wrap (0 + 1) + 1) + 1) + 1) + 1) + 1) + 1) + 1) + 1) + 1) + 1) + 1) + 1) + 1) + 1) + 1) + 1), 0)
                                      else
                                        let t18 := f_culetref48_Tooth (IntKind.i64.wrap (IntKind.i64.wrap (IntKind.i64.wrap (IntKind.i64.wrap (IntKind.i64.wrap (IntKind.i64.wrap (IntKind.i64.wrap (IntKind.i64.wrap (IntKind.i64.wrap (IntKind.i64.wrap (IntKind.i64.wrap (IntKind.i64.wrap (IntKind.i64.wrap (IntKind.i64.wrap (IntKind.i64.wrap (IntKind.i64.wrap (IntKind.i64.wrap (IntKind.i64.wrap (0 + 1) + 1) + 1) + 1) + 1) + 1) + 1) + 1) + 1) + 1) + 1) + 1) + 1) + 1) + 1) + 1) + 1) + 1)) a2
                                        bif bif t18.fst == a0 then t18.snd.fst == a1 else false then
                                          k (IntKind.i64.wrap (IntKind.i64.wrap (IntKind.i64.wrap (IntKind.i64.wrap (IntKind.i64.wrap (IntKind.i64.wrap (IntKind.i64.wrap (IntKind.i64.wrap (IntKind.i64.wrap (IntKind.i64.wrap (IntKind.i64.wrap (IntKind.i64.wrap (IntKind.i64.wrap (IntKind.i64.wrap (IntKind.i64.wrap (IntKind.i64.wrap (IntKind.i64.wrap (IntKind.i64.wrap (0 + 1) + 1) + 1) + 1) + 1) + 1) + 1) + 1) + 1) + 1) + 1) + 1) + 1) + 1) + 1) + 1) + 1) + 1), 0)
                                        else
                                          let t19 := f_culetref48_Tooth (IntKind.i64.wrap (IntKind.i64.wrap (IntKind.i64.wrap (IntKind.i64.wrap (IntKind.i64.wrap (IntKind.i64.wrap (IntKind.i64.wrap (IntKind.i64.wrap (IntKind.i64.wrap (IntKind.i64.wrap (IntKind.i64.wrap (IntKind.i64.wrap (IntKind.i64.wrap (IntKind.i64.wrap (IntKind.i64.wrap (IntKind.i64.wrap (IntKind.i64.wrap (IntKind.i64.wrap (IntKind.i64.wrap (0 + 1) + 1) + 1) + 1) + 1) + 1) + 1) + 1) + 1) + 1) + 1) + 1) + 1) + 1) + 1) + 1) + 1) + 1) + 1)) a2
                                          bif bif t19.fst == a0 then t19.snd.fst == a1 else false then
                                            k (IntKind.i64.wrap (IntKind.i64.wrap (IntKind.i64.wrap (IntKind.i64.wrap (IntKind.i64.wrap (IntKind.i64.wrap (IntKind.i64.wrap (IntKind.i64.wrap (IntKind.i64.wrap (IntKind.i64.wrap (IntKind.i64.wrap (IntKind.i64.wrap (IntKind.i64.wrap (IntKind.i64.wrap (IntKind.i64.wrap (IntKind.i64.wrap (IntKind.i64.wrap (IntKind.i64.wrap (IntKind.i64.wrap (0 + 1) + 1) + 1) + 1) + 1) + 1) + 1) + 1) + 1) + 1) + 1) + 1) + 1) + 1) + 1) + 1) + 1) + 1) + 1), 0)
                                          else
                                            let t20 := f_culetref48_Tooth (IntKind.i64.wrap (IntKind.i64.wrap (IntKind.i64.wrap (IntKind.i64.wrap (IntKind.i64.wrap (IntKind.i64.wrap (IntKind.i64.wrap (IntKind.i64.wrap (IntKind.i64.wrap (IntKind.i64.wrap (IntKind.i64.wrap (IntKind.i64.wrap (IntKind.i64.wrap (IntKind.i64.wrap (IntKind.i64.wrap (IntKind.i64.wrap (IntKind.i64.wrap (IntKind.i64.wrap (IntKind.i64.wrap (IntKind.i64.wrap (0 + 1) + 1) + 1) + 1) + 1) + 1) + 1) + 1) + 1) + 1) + 1) + 1) + 1) + 1) + 1) + 1) + 1) + 1) + 1) + 1)) a2
                                            bif bif t20.fst == a0 then t20.snd.fst == a1 else false then
                                              k (IntKind.i64.wrap (IntKind.i64.wrap (IntKind.i64.wrap (IntKind.i64.wrap (IntKind.i64.wrap (IntKind.i64.wrap (IntKind.i64.wrap (IntKind.i64.wrap (IntKind.i64.wrap (IntKind.i64.wrap (IntKind.i64.wrap (IntKind.i64.wrap (IntKind.i64.wrap (IntKind.i64.wrap (IntKind.i64.wrap (IntKind.i64.wrap (IntKind.i64.wrap (IntKind.i64.wrap (IntKind.i64.wrap (IntKind.i64.wrap (0 + 1) + 1) + 1) + 1) + 1) + 1) + 1) + 1) + 1) + 1) + 1) + 1) + 1) + 1) + 1) + 1) + 1) + 1) + 1) + 1), 0)
                                            else
                                              let t21 := f_culetref48_Tooth (IntKind.i64.wrap (IntKind.i64.wrap (IntKind.i64.wrap (IntKind.i64.wrap (IntKind.i64.wrap (IntKind.i64.wrap (IntKind.i64.wrap (IntKind.i64.wrap (IntKind.i64.wrap (IntKind.i64.wrap (IntKind.i64.wrap (IntKind.i64.wrap (IntKind.i64.wrap (IntKind.i64.wrap (IntKind.i64.wrap (IntKind.i64.wrap (IntKind.i64.wrap (IntKind.i64.wrap (IntKind.i64.wrap (IntKind.i64.wrap (IntKind.i64.wrap (0 + 1) + 1) + 1) + 1) + 1) + 1) + 1) + 1) + 1) + 1) + 1) + 1) + 1) + 1) + 1) + 1) + 1) + 1) + 1) + 1) + 1)) a2
                                              bif bif t21.fst == a0 then t21.snd.fst == a1 else false then
                                                k (IntKind.i64.wrap (IntKind.i64.wrap (IntKind.i64.wrap (IntKind.i64.wrap (IntKind.i64.wrap (IntKind.i64.wrap (IntKind.i64.wrap (IntKind.i64.wrap (IntKind.i64.wrap (IntKind.i64.wrap (IntKind.i64.wrap (IntKind.i64.wrap (IntKind.i64.wrap (IntKind.i64.wrap (IntKind.i64.wrap (IntKind.i64.wrap (IntKind.i64.wrap (IntKind.i64.wrap (IntKind.i64.wrap (IntKind.i64.wrap (IntKind.i64.wrap (0 + 1) + 1) + 1) + 1) + 1) + 1) + 1) + 1) + 1) + 1) + 1) + 1) + 1) + 1) + 1) + 1) + 1) + 1) + 1) + 1) + 1), 0)
                                              else
                                                let t22 := f_culetref48_Tooth (IntKind.i64.wrap (IntKind.i64.wrap (IntKind.i64.wrap (IntKind.i64.wrap (IntKind.i64.wrap (IntKind.i64.wrap (IntKind.i64.wrap (IntKind.i64.wrap (IntKind.i64.wrap (IntKind.i64.wrap (IntKind.i64.wrap (IntKind.i64.wrap (IntKind.i64.wrap (IntKind.i64.wrap (IntKind.i64.wrap (IntKind.i64.wrap (IntKind.i64.wrap (IntKind.i64.wrap (IntKind.i64.wrap (IntKind.i64.wrap (IntKind.i64.wrap (IntKind.i64.wrap (0 + 1) + 1) + 1) + 1) + 1) + 1) + 1) + 1) + 1) + 1) + 1) + 1) + 1) + 1) + 1) + 1) + 1) + 1) + 1) + 1) + 1) + 1)) a2
                                                bif bif t22.fst == a0 then t22.snd.fst == a1 else false then
                                                  k (IntKind.i64.wrap (IntKind.i64.wrap (IntKind.i64.wrap (IntKind.i64.wrap (IntKind.i64.wrap (IntKind.i64.wrap (IntKind.i64.wrap (IntKind.i64.wrap (IntKind.i64.wrap (IntKind.i64.wrap (IntKind.i64.wrap (IntKind.i64.wrap (IntKind.i64.wrap (IntKind.i64.wrap (IntKind.i64.wrap (IntKind.i64.wrap (IntKind.i64.wrap (IntKind.i64.wrap (IntKind.i64.wrap (IntKind.i64.wrap (IntKind.i64.wrap (IntKind.i64.wrap (0 + 1) + 1) + 1) + 1) + 1) + 1) + 1) + 1) + 1) + 1) + 1) + 1) + 1) + 1) + 1) + 1) + 1) + 1) + 1) + 1) + 1) + 1), 0)
                                                else
                                                  let t23 := f_culetref48_Tooth (IntKind.i64.wrap (IntKind.i64.wrap (IntKind.i64.wrap (IntKind.i64.wrap (IntKind.i64.wrap (IntKind.i64.wrap (IntKind.i64.wrap (IntKind.i64.wrap (IntKind.i64.wrap (IntKind.i64.wrap (IntKind.i64.wrap (IntKind.i64.wrap (IntKind.i64.wrap (IntKind.i64.wrap (IntKind.i64.wrap (IntKind.i64.wrap (IntKind.i64.wrap (IntKind.i64.wrap (IntKind.i64.wrap (IntKind.i64.wrap (IntKind.i64.wrap (IntKind.i64.wrap (IntKind.i64.wrap (0 + 1) + 1) + 1) + 1) + 1) + 1) + 1) + 1) + 1) + 1) + 1) + 1) + 1) + 1) + 1) + 1) + 1) + 1) + 1) + 1) + 1) + 1) + 1)) a2
                                                  bif bif t23.fst == a0 then t23.snd.fst == a1 else false then
                                                    k (IntKind.i64.wrap (IntKind.i64.wrap (IntKind.i64.wrap (IntKind.i64.wrap (IntKind.i64.wrap (IntKind.i64.wrap (IntKind.i64.wrap (IntKind.i64.wrap (IntKind.i64.wrap (IntKind.i64.wrap (IntKind.i64.wrap (IntKind.i64.wrap (IntKind.i64.wrap (IntKind.i64.wrap (IntKind.i64.wrap (IntKind.i64.wrap (IntKind.i64.wrap (IntKind.i64.wrap (IntKind.i64.wrap (IntKind.i64.wrap (IntKind.i64.wrap (IntKind.i64.wrap (IntKind.i64.wrap (0 + 1) + 1) + 1) + 1) + 1) + 1) + 1) + 1) + 1) + 1) + 1) + 1) + 1) + 1) + 1) + 1) + 1) + 1) + 1) + 1) + 1) + 1) + 1), 0)
                                                  else
                                                    k (0, 7)
set_option maxRecDepth 100000 in
theorem culetref48_Index.run (f_culetref48_Tooth : Int → Int → (Int × Int × Int)) (a0 : Int) (a1 : Int) (a2 : Int) : xfn Tryd.prog ⟨[(12, culetref48_Tooth.sp f_culetref48_Tooth), (12, culetref48_Tooth.sp f_culetref48_Tooth)], []⟩ [] 60 Tryd.f14 [.int .i64 a0, .int .i64 a1, .int .i64 a2] [] = culetref48_Index.K f_culetref48_Tooth a0 a1 a2 (fun r => some (.tuple ⟨[.int .i64 r.1, .int .i64 r.2]⟩, [])) := by kernel_rfl
def culetref48_Index (a0 : Int) (a1 : Int) (a2 : Int) : Int × Int := culetref48_Index.K culetref48_Tooth a0 a1 a2 id
theorem culetref48_Index.nat {R : Type} (f_culetref48_Tooth : Int → Int → (Int × Int × Int)) (a0 : Int) (a1 : Int) (a2 : Int) (k : Int × Int → R) : culetref48_Index.K f_culetref48_Tooth a0 a1 a2 k = k (culetref48_Index.K f_culetref48_Tooth a0 a1 a2 id) := by
  simp only [culetref48_Index.K, acond k, id_eq]
theorem culetref48_Index.eq (a b t : Int) : culetref48_Index a b t = bif wok t && ig a b t then ix a b t 24 0 else (0, 2) := by
  simp only [culetref48_Index, culetref48_Index.K, id_eq, culetref48_Tooth.eq]
  cases h1 : wok t with
  | false =>
    have e : (bif decide (t < 1) then true else decide (t > 200)) = true := by
      simp only [wok, decide_eq_false_iff_not] at h1
      by_cases h3 : t < 1
      · simp [h3]
      · have h4 : t > 200 := by omega
        simp [h4]
    rw [e]; cases decide (a < 1) <;> cases decide (a > t) <;> cases decide (b < 0) <;> cases decide (b ≥ 24) <;> rfl
  | true =>
    have e : (bif decide (t < 1) then true else decide (t > 200)) = false := by
      simp only [wok, decide_eq_true_eq] at h1
      rw [decide_eq_false (show ¬ t < 1 by omega), decide_eq_false (show ¬ t > 200 by omega)]
      rfl
    rw [e]
    cases h2 : ig a b t with
    | false =>
      have := ig_false h2 false
      rw [this]; rfl
    | true =>
      have := ig_true h2
      rw [this]
      rfl
theorem culetref48_Index.ok : SOK Tryd.prog 14 (culetref48_Index.sp culetref48_Index) := by
  refine sok_of (E := ⟨[(12, culetref48_Tooth.sp culetref48_Tooth), (12, culetref48_Tooth.sp culetref48_Tooth)], []⟩) (L := []) ⟨(specs_cons culetref48_Tooth.ok (specs_cons culetref48_Tooth.ok specs_nil)), inl_nil, mixed_ok⟩ 60 Tryd.func14 (by decide) rfl no_loops fun vs bl v bl' h => ?_
  unfold culetref48_Index.sp at h
  split at h
  · rename_i a0 a1 a2
    simp only [Option.some.injEq, Prod.mk.injEq, true_and] at h
    obtain ⟨rfl, rfl⟩ := h
    refine ⟨?_, by simp [okV, Nat.blt], clo_spec 8 _ (by kernel_rfl), told_blk (by kernel_rfl)⟩
    refine (culetref48_Index.run culetref48_Tooth a0 a1 a2).trans ?_
    refine (culetref48_Index.nat culetref48_Tooth a0 a1 a2 _).trans ?_
    kernel_rfl
  · cases h

/-! ### culet/settings.Fits (15) -/
def settings_Fits.K {R : Type} (f_settings_wheelRight : Int → (Bool)) (a0 : Int) (k : (Bool) → R) : R :=
  let t0 := f_settings_wheelRight a0
  bif t0 then
    k (a0.tmod 24 == 0)
  else
    k (false)
set_option maxRecDepth 100000 in
theorem settings_Fits.run (f_settings_wheelRight : Int → (Bool)) (a0 : Int) : xfn Tryd.prog ⟨[(34, settings_wheelRight.sp f_settings_wheelRight)], []⟩ [] 40 Tryd.f15 [.int .i64 a0] [] = settings_Fits.K f_settings_wheelRight a0 (fun r => some (.bool r, [])) := by kernel_rfl
def settings_Fits (a0 : Int) : Bool := settings_Fits.K settings_wheelRight a0 id
theorem settings_Fits.nat {R : Type} (f_settings_wheelRight : Int → (Bool)) (a0 : Int) (k : (Bool) → R) : settings_Fits.K f_settings_wheelRight a0 k = k (settings_Fits.K f_settings_wheelRight a0 id) := by
  simp only [settings_Fits.K, acond k, id_eq]
theorem settings_Fits.eq (t : Int) : settings_Fits t = (wok t && decide (t % 24 = 0)) := by
  simp only [settings_Fits, settings_Fits.K, id_eq, settings_wheelRight.eq]
  cases h : wok t with
  | false => rfl
  | true =>
    simp only [wok, decide_eq_true_eq] at h
    rw [Int.tmod_eq_emod_of_nonneg (by omega)]
    rfl
theorem settings_Fits.ok : SOK Tryd.prog 15 (settings_Fits.sp settings_Fits) := by
  refine sok_of (E := ⟨[(34, settings_wheelRight.sp settings_wheelRight)], []⟩) (L := []) ⟨(specs_cons settings_wheelRight.ok specs_nil), inl_nil, mixed_ok⟩ 40 Tryd.func15 (by decide) rfl no_loops fun vs bl v bl' h => ?_
  unfold settings_Fits.sp at h
  split at h
  · rename_i a0
    simp only [Option.some.injEq, Prod.mk.injEq, true_and] at h
    obtain ⟨rfl, rfl⟩ := h
    refine ⟨?_, by simp [okV, Nat.blt], clo_spec 8 _ (by kernel_rfl), told_blk (by kernel_rfl)⟩
    refine (settings_Fits.run settings_wheelRight a0).trans ?_
    refine (settings_Fits.nat settings_wheelRight a0 _).trans ?_
    kernel_rfl
  · cases h

/-! ### culet/culetref48.Fits (16) -/
def culetref48_Fits.K {R : Type} (a0 : Int) (k : (Bool) → R) : R :=
  bif decide (a0 ≥ 1) then
    bif decide (a0 ≤ 200) then
      k (a0.tmod 24 == 0)
    else
      k (false)
  else
    k (false)
set_option maxRecDepth 100000 in
theorem culetref48_Fits.run (a0 : Int) : xfn Tryd.prog ⟨[], []⟩ [] 40 Tryd.f16 [.int .i64 a0] [] = culetref48_Fits.K a0 (fun r => some (.bool r, [])) := by kernel_rfl
def culetref48_Fits (a0 : Int) : Bool := culetref48_Fits.K a0 id
theorem culetref48_Fits.nat {R : Type} (a0 : Int) (k : (Bool) → R) : culetref48_Fits.K a0 k = k (culetref48_Fits.K a0 id) := by
  simp only [culetref48_Fits.K, acond k, id_eq]
theorem culetref48_Fits.eq (t : Int) : culetref48_Fits t = (wok t && decide (t % 24 = 0)) := by
  simp only [culetref48_Fits, culetref48_Fits.K, id_eq, wok]
  by_cases h1 : 1 ≤ t <;> by_cases h2 : t ≤ 200
  · simp only [h1, h2, ge_iff_le, decide_true, cond_true, and_self, Bool.true_and]
    rw [Int.tmod_eq_emod_of_nonneg (by omega)]
    rfl
  · simp [h1, h2]
  · simp [h1]
  · simp [h1]
theorem culetref48_Fits.ok : SOK Tryd.prog 16 (culetref48_Fits.sp culetref48_Fits) := by
  refine sok_of (E := ⟨[], []⟩) (L := []) ⟨specs_nil, inl_nil, mixed_ok⟩ 40 Tryd.func16 (by decide) rfl no_loops fun vs bl v bl' h => ?_
  unfold culetref48_Fits.sp at h
  split at h
  · rename_i a0
    simp only [Option.some.injEq, Prod.mk.injEq, true_and] at h
    obtain ⟨rfl, rfl⟩ := h
    refine ⟨?_, by simp [okV, Nat.blt], clo_spec 8 _ (by kernel_rfl), told_blk (by kernel_rfl)⟩
    refine (culetref48_Fits.run a0).trans ?_
    refine (culetref48_Fits.nat a0 _).trans ?_
    kernel_rfl
  · cases h

/-! ### culet/culetlaw48.SettingsTeeth (3) -/
def culetlaw48_SettingsTeeth.K {R : Type} (f_settings_Tooth : Int → Int → (Int × Int × Int)) (f_culetref48_Tooth : Int → Int → (Int × Int × Int)) (f_settings_Index : Int → Int → Int → (Int × Int)) (f_culetref48_Index : Int → Int → Int → (Int × Int)) (f_settings_Fits : Int → (Bool)) (f_culetref48_Fits : Int → (Bool)) (a0 : Int) (a1 : Int) (a2 : Int) (k : (Bool) → R) : R :=
  let t0 := f_settings_Tooth a0 a2
  let t1 := f_culetref48_Tooth a0 a2
  let t2 := f_settings_Index a0 a1 a2
  let t3 := f_culetref48_Index a0 a1 a2
  let t4 := f_settings_Fits a2
  let t5 := f_culetref48_Fits a2
  bif bif bif bif bif bif t0.fst != t1.fst then true else t0.snd.fst != t1.snd.fst then true else t0.snd.snd != t1.snd.snd then true else t2.fst != t3.fst then true else t2.snd != t3.snd then true else !t4 == t5 then
    k (false)
  else
    bif t0.snd.snd != 0 then
      k (true)
    else
      let t6 := f_settings_Index t0.fst t0.snd.fst a2
      let t7 := f_settings_Tooth t6.fst a2
      k (bif bif bif bif t6.snd == 0 then t7.snd.snd == 0 else false then t7.fst == t0.fst else false then t7.snd.fst == t0.snd.fst else false then t6.fst == (IntKind.i64.wrap (a0.tmod 24 + 24)).tmod 24 else false)
set_option maxRecDepth 100000 in
theorem culetlaw48_SettingsTeeth.run (f_settings_Tooth : Int → Int → (Int × Int × Int)) (f_culetref48_Tooth : Int → Int → (Int × Int × Int)) (f_settings_Index : Int → Int → Int → (Int × Int)) (f_culetref48_Index : Int → Int → Int → (Int × Int)) (f_settings_Fits : Int → (Bool)) (f_culetref48_Fits : Int → (Bool)) (a0 : Int) (a1 : Int) (a2 : Int) : xfn Tryd.prog ⟨[(10, culetlaw48_awake.sp), (10, culetlaw48_awake.sp), (11, settings_Tooth.sp f_settings_Tooth), (12, culetref48_Tooth.sp f_culetref48_Tooth), (13, settings_Index.sp f_settings_Index), (14, culetref48_Index.sp f_culetref48_Index), (15, settings_Fits.sp f_settings_Fits), (16, culetref48_Fits.sp f_culetref48_Fits)], []⟩ [] 40 Tryd.f3 [.int .i64 a0, .int .i64 a1, .int .i64 a2] [] = culetlaw48_SettingsTeeth.K f_settings_Tooth f_culetref48_Tooth f_settings_Index f_culetref48_Index f_settings_Fits f_culetref48_Fits a0 a1 a2 (fun r => some (.bool r, [])) := by kernel_rfl
def culetlaw48_SettingsTeeth (a0 : Int) (a1 : Int) (a2 : Int) : Bool := culetlaw48_SettingsTeeth.K settings_Tooth culetref48_Tooth settings_Index culetref48_Index settings_Fits culetref48_Fits a0 a1 a2 id
theorem culetlaw48_SettingsTeeth.nat {R : Type} (f_settings_Tooth : Int → Int → (Int × Int × Int)) (f_culetref48_Tooth : Int → Int → (Int × Int × Int)) (f_settings_Index : Int → Int → Int → (Int × Int)) (f_culetref48_Index : Int → Int → Int → (Int × Int)) (f_settings_Fits : Int → (Bool)) (f_culetref48_Fits : Int → (Bool)) (a0 : Int) (a1 : Int) (a2 : Int) (k : (Bool) → R) : culetlaw48_SettingsTeeth.K f_settings_Tooth f_culetref48_Tooth f_settings_Index f_culetref48_Index f_settings_Fits f_culetref48_Fits a0 a1 a2 k = k (culetlaw48_SettingsTeeth.K f_settings_Tooth f_culetref48_Tooth f_settings_Index f_culetref48_Index f_settings_Fits f_culetref48_Fits a0 a1 a2 id) := by
  simp only [culetlaw48_SettingsTeeth.K, acond k, id_eq]
theorem tth_inj {i j t : Int} (h : wok t = true) (hi : 0 ≤ i ∧ i < 24) (hj : 0 ≤ j ∧ j < 24) (e1 : (tth i t).fst = (tth j t).fst) (e2 : (tth i t).snd.fst = (tth j t).snd.fst) : i = j := by
  have ht := h
  simp only [wok, decide_eq_true_eq] at ht
  simp only [tth, h, cond_true] at e1 e2
  have mi : i % 24 = i := by omega
  have mj : j % 24 = j := by omega
  rw [mi, mj] at e1 e2
  have b1 : i * t ≤ 23 * t := Int.mul_le_mul_of_nonneg_right (by omega) (by omega)
  have b2 : j * t ≤ 23 * t := Int.mul_le_mul_of_nonneg_right (by omega) (by omega)
  have b3 : 0 ≤ i * t := Int.mul_nonneg hi.1 (by omega)
  have b4 : 0 ≤ j * t := Int.mul_nonneg hj.1 (by omega)
  have e3 : i * t = j * t := by split at e1 <;> split at e1 <;> omega
  exact Int.eq_of_mul_eq_mul_right (by omega) e3
theorem tth_bnd {i t : Int} (h : wok t = true) : ig (tth i t).fst (tth i t).snd.fst t = true := by
  have ht := h
  simp only [wok, decide_eq_true_eq] at ht
  simp only [ig, tth, h, cond_true, decide_eq_true_eq]
  have hm := Int.emod_nonneg i (show (24 : Int) ≠ 0 by decide)
  have hm2 := Int.emod_lt_of_pos i (show (0 : Int) < 24 by decide)
  have b1 : i % 24 * t ≤ 23 * t := Int.mul_le_mul_of_nonneg_right (by omega) (by omega)
  have b3 : 0 ≤ i % 24 * t := Int.mul_nonneg hm (by omega)
  split <;> omega
theorem ix_find {t j : Int} (h : wok t = true) (hj : 0 ≤ j ∧ j < 24) : ∀ (n : Nat) (i : Int), 0 ≤ i → i ≤ j → j < i + n → ix (tth j t).fst (tth j t).snd.fst t n i = (j, 0)
  | 0, i, _, _, h3 => by omega
  | n + 1, i, h1, h2, h3 => by
    unfold ix
    by_cases he : i = j
    · subst he; simp
    · have hc : (bif (tth i t).fst == (tth j t).fst then (tth i t).snd.fst == (tth j t).snd.fst else false) = false := by
        cases e1 : (tth i t).fst == (tth j t).fst with
        | false => rfl
        | true =>
          rw [cond_true]
          cases e2 : (tth i t).snd.fst == (tth j t).snd.fst with
          | false => rfl
          | true => exact absurd (tth_inj h ⟨h1, by omega⟩ hj (by simpa using e1) (by simpa using e2)) he
      rw [hc, cond_false, w64 (n := i + 1) (by omega) (by omega)]
      exact ix_find h hj n (i + 1) (by omega) (by omega) (by omega)
theorem SettingsTeeth.law (a b t : Int) : culetlaw48_SettingsTeeth a b t = true := by
  simp only [culetlaw48_SettingsTeeth, culetlaw48_SettingsTeeth.K, id_eq, settings_Tooth.eq, culetref48_Tooth.eq, settings_Index.eq, culetref48_Index.eq, settings_Fits.eq, culetref48_Fits.eq, bne_self_eq_false, cond_false, Bool.not_beq_self, beq_self_eq_true, Bool.not_true]
  cases h : wok t with
  | false =>
    have : (tth a t).snd.snd = 2 := by simp [tth, h]
    rw [this]; rfl
  | true =>
    have h0 : (tth a t).snd.snd = 0 := by simp [tth, h]
    have hb := tth_bnd (i := a) h
    have e0 : tth a t = tth (a % 24) t := by simp only [tth, Int.emod_emod_of_dvd a (Int.dvd_refl 24)]
    have hm := Int.emod_nonneg a (show (24 : Int) ≠ 0 by decide)
    have hm2 := Int.emod_lt_of_pos a (show (0 : Int) < 24 by decide)
    have hf := ix_find (t := t) (j := a % 24) h ⟨hm, hm2⟩ 24 0 (by omega) hm (by omega)
    rw [← e0] at hf
    have hr := tmod24_range a
    have em : (IntKind.i64.wrap (a.tmod 24 + 24)).tmod 24 = a % 24 := by
      rw [w64 (n := a.tmod 24 + 24) (by omega) (by omega), Int.tmod_eq_emod_of_nonneg (by omega), ← tmod24 a]
      split <;> omega
    rw [h0, hb, Bool.true_and, cond_true, hf, ← e0, h0, em]
    simp
theorem culetlaw48_SettingsTeeth.calls (a0 : Int) (a1 : Int) (a2 : Int) (h : culetlaw48_SettingsTeeth a0 a1 a2 = true) (w : World) (ht : TabOk w) : Calls Tryd.prog 3 ⟨[.int .i64 a0, .int .i64 a1, .int .i64 a2]⟩ w fun e w' => e = .returned (.bool true) ∧ Below w.heap.size w w' := by
  refine calls_run (E := ⟨[(10, culetlaw48_awake.sp), (10, culetlaw48_awake.sp), (11, settings_Tooth.sp settings_Tooth), (12, culetref48_Tooth.sp culetref48_Tooth), (13, settings_Index.sp settings_Index), (14, culetref48_Index.sp culetref48_Index), (15, settings_Fits.sp settings_Fits), (16, culetref48_Fits.sp culetref48_Fits)], []⟩) (L := []) ⟨(specs_cons culetlaw48_awake.ok (specs_cons culetlaw48_awake.ok (specs_cons settings_Tooth.ok (specs_cons culetref48_Tooth.ok (specs_cons settings_Index.ok (specs_cons culetref48_Index.ok (specs_cons settings_Fits.ok (specs_cons culetref48_Fits.ok specs_nil)))))))), inl_nil, mixed_ok⟩ 40 Tryd.func3 (by decide) rfl no_loops (vs := [.int .i64 a0, .int .i64 a1, .int .i64 a2]) (v := .bool true) ?_ (by simp [okV, Nat.blt]) (clo_spec 8 _ rfl) w ht
  refine (culetlaw48_SettingsTeeth.run settings_Tooth culetref48_Tooth settings_Index culetref48_Index settings_Fits culetref48_Fits a0 a1 a2).trans ?_
  rw [culetlaw48_SettingsTeeth.nat]
  have h4 : culetlaw48_SettingsTeeth.K settings_Tooth culetref48_Tooth settings_Index culetref48_Index settings_Fits culetref48_Fits a0 a1 a2 id = true := h
  rw [h4]

end Go.Proofs.YtgfjidlckocflaaDoor.G
