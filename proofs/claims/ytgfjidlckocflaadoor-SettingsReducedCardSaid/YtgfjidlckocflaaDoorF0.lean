/- The functions, their runs and their contracts. WRITTEN BY gen.py of this repo. -/
import Derived.Test.YtgfjidlckocflaaDoorS
import Derived.Test.YtgfjidlckocflaaDoorM
import Derived.Test.YtgfjidlckocflaaDoorIv
import Derived.Test.YtgfjidlckocflaaDoorSt
import Derived.Test.YtgfjidlckocflaaDoorClo
import Derived.Test.YtgfjidlckocflaaDoorGcd48
namespace Go.Proofs.YtgfjidlckocflaaDoor.G
open Go Go.Proofs Go.RowKit RX
set_option linter.unusedVariables false
set_option linter.unusedSimpArgs false
/-! ### culet/settings.wheelRight (34) -/
def settings_wheelRight.K {R : Type} (a0 : Int) (k : (Bool) → R) : R :=
  bif decide (a0 ≥ 1) then
    k (decide (a0 ≤ 200))
  else
    k (false)
set_option maxRecDepth 100000 in
theorem settings_wheelRight.run (a0 : Int) : xfn Tryd.prog ⟨[], []⟩ [] 40 Tryd.f34 [.int .i64 a0] [] = settings_wheelRight.K a0 (fun r => some (.bool r, [])) := by kernel_rfl
def settings_wheelRight (a0 : Int) : Bool := settings_wheelRight.K a0 id
theorem settings_wheelRight.nat {R : Type} (a0 : Int) (k : (Bool) → R) : settings_wheelRight.K a0 k = k (settings_wheelRight.K a0 id) := by
  simp only [settings_wheelRight.K, acond k, id_eq]
def wok (t : Int) : Bool := decide (1 ≤ t ∧ t ≤ 200)
theorem settings_wheelRight.eq (t : Int) : settings_wheelRight t = wok t := by
  simp only [settings_wheelRight, settings_wheelRight.K, id_eq, wok]
  by_cases h1 : 1 ≤ t <;> by_cases h2 : t ≤ 200 <;> simp [h1, h2]
theorem settings_wheelRight.ok : SOK Tryd.prog 34 (settings_wheelRight.sp settings_wheelRight) := by
  refine sok_of (E := ⟨[], []⟩) (L := []) ⟨specs_nil, inl_nil, mixed_ok⟩ 40 Tryd.func34 (by decide) rfl no_loops fun vs bl v bl' h => ?_
  unfold settings_wheelRight.sp at h
  split at h
  · rename_i a0
    simp only [Option.some.injEq, Prod.mk.injEq, true_and] at h
    obtain ⟨rfl, rfl⟩ := h
    refine ⟨?_, by simp [okV, Nat.blt], clo_spec 8 _ (by kernel_rfl), told_blk (by kernel_rfl)⟩
    refine (settings_wheelRight.run a0).trans ?_
    refine (settings_wheelRight.nat a0 _).trans ?_
    kernel_rfl
  · cases h

/-! ### culet/wheel.Mod (35) -/
def wheel_Mod.K {R : Type} (a0 : Int) (k : (Int) → R) : R :=
  bif decide (a0.tmod 24 < 0) then
    k (IntKind.i64.wrap (a0.tmod 24 + 24))
  else
    k (a0.tmod 24)
set_option maxRecDepth 100000 in
theorem wheel_Mod.run (a0 : Int) : xfn Tryd.prog ⟨[], []⟩ [] 40 Tryd.f35 [.int .i64 a0] [] = wheel_Mod.K a0 (fun r => some (.int .i64 r, [])) := by kernel_rfl
def wheel_Mod (a0 : Int) : Int := wheel_Mod.K a0 id
theorem wheel_Mod.nat {R : Type} (a0 : Int) (k : (Int) → R) : wheel_Mod.K a0 k = k (wheel_Mod.K a0 id) := by
  simp only [wheel_Mod.K, acond k, id_eq]
theorem tmod24 (i : Int) : (if i.tmod 24 < 0 then i.tmod 24 + 24 else i.tmod 24) = i % 24 := by
  have h1 := Int.tmod_eq_emod (a := i) (b := 24)
  have h2 := Int.emod_nonneg i (show (24 : Int) ≠ 0 by decide)
  have h3 := Int.emod_lt_of_pos i (show (0 : Int) < 24 by decide)
  rw [h1]
  by_cases hc : 0 ≤ i ∨ (24 : Int) ∣ i
  · rw [if_pos hc]; split <;> omega
  · rw [if_neg hc]
    have : i % 24 ≠ 0 := fun e => hc (Or.inr (Int.dvd_of_emod_eq_zero e))
    split <;> omega
theorem tmod24_range (i : Int) : -24 < i.tmod 24 ∧ i.tmod 24 < 24 := by
  have h1 := Int.natAbs_tmod i 24
  have h2 : i.natAbs % (24 : Int).natAbs < 24 := Nat.mod_lt _ (by decide)
  omega
theorem wheel_Mod.eq (i : Int) : wheel_Mod i = i % 24 := by
  have hr := tmod24_range i
  simp only [wheel_Mod, wheel_Mod.K, id_eq]
  rw [w64 (by omega) (by omega), ← tmod24 i]
  by_cases h : i.tmod 24 < 0 <;> simp [h]
theorem wheel_Mod.ok : SOK Tryd.prog 35 (wheel_Mod.sp wheel_Mod) := by
  refine sok_of (E := ⟨[], []⟩) (L := []) ⟨specs_nil, inl_nil, mixed_ok⟩ 40 Tryd.func35 (by decide) rfl no_loops fun vs bl v bl' h => ?_
  unfold wheel_Mod.sp at h
  split at h
  · rename_i a0
    simp only [Option.some.injEq, Prod.mk.injEq, true_and] at h
    obtain ⟨rfl, rfl⟩ := h
    refine ⟨?_, by simp [okV, Nat.blt], clo_spec 8 _ (by kernel_rfl), told_blk (by kernel_rfl)⟩
    refine (wheel_Mod.run a0).trans ?_
    refine (wheel_Mod.nat a0 _).trans ?_
    kernel_rfl
  · cases h

/-! ### culet/settings.Tooth (11) -/
def settings_Tooth.K {R : Type} (f_settings_wheelRight : Int → (Bool)) (f_wheel_Mod : Int → (Int)) (a0 : Int) (a1 : Int) (k : Int × Int × Int → R) : R :=
  let t0 := f_settings_wheelRight a1
  bif !t0 then
    k (0, 0, 2)
  else
    let t1 := f_wheel_Mod a0
    bif IntKind.i64.wrap ((IntKind.i64.wrap (t1 * a1)).tdiv 24) == 0 then
      k (a1, (IntKind.i64.wrap (t1 * a1)).tmod 24, 0)
    else
      k (IntKind.i64.wrap ((IntKind.i64.wrap (t1 * a1)).tdiv 24), (IntKind.i64.wrap (t1 * a1)).tmod 24, 0)
set_option maxRecDepth 100000 in
theorem settings_Tooth.run (f_settings_wheelRight : Int → (Bool)) (f_wheel_Mod : Int → (Int)) (a0 : Int) (a1 : Int) : xfn Tryd.prog ⟨[(34, settings_wheelRight.sp f_settings_wheelRight), (35, wheel_Mod.sp f_wheel_Mod)], []⟩ [] 40 Tryd.f11 [.int .i64 a0, .int .i64 a1] [] = settings_Tooth.K f_settings_wheelRight f_wheel_Mod a0 a1 (fun r => some (.tuple ⟨[.int .i64 r.1, .int .i64 r.2.1, .int .i64 r.2.2]⟩, [])) := by kernel_rfl
def settings_Tooth (a0 : Int) (a1 : Int) : Int × Int × Int := settings_Tooth.K settings_wheelRight wheel_Mod a0 a1 id
theorem settings_Tooth.nat {R : Type} (f_settings_wheelRight : Int → (Bool)) (f_wheel_Mod : Int → (Int)) (a0 : Int) (a1 : Int) (k : Int × Int × Int → R) : settings_Tooth.K f_settings_wheelRight f_wheel_Mod a0 a1 k = k (settings_Tooth.K f_settings_wheelRight f_wheel_Mod a0 a1 id) := by
  simp only [settings_Tooth.K, acond k, id_eq]
def tth (i t : Int) : Int × Int × Int := bif wok t then ((if (i % 24) * t / 24 = 0 then t else (i % 24) * t / 24), (i % 24) * t % 24, 0) else (0, 0, 2)
theorem mt_range {i t : Int} (h : wok t = true) : 0 ≤ i % 24 * t ∧ i % 24 * t ≤ 4600 := by
  simp only [wok, decide_eq_true_eq] at h
  have h2 := Int.emod_nonneg i (show (24 : Int) ≠ 0 by decide)
  have h3 := Int.emod_lt_of_pos i (show (0 : Int) < 24 by decide)
  have h4 : i % 24 * t ≤ 23 * 200 := Int.mul_le_mul (by omega) (by omega) (by omega) (by omega)
  exact ⟨Int.mul_nonneg h2 (by omega), by omega⟩
theorem settings_Tooth.eq (i t : Int) : settings_Tooth i t = tth i t := by
  simp only [settings_Tooth, settings_Tooth.K, id_eq, settings_wheelRight.eq, wheel_Mod.eq, tth]
  cases h : wok t with
  | false => rfl
  | true =>
    have hr := mt_range (i := i) h
    have hd : 0 ≤ i % 24 * t / 24 := Int.ediv_nonneg hr.1 (by omega)
    have hd2 : i % 24 * t / 24 ≤ i % 24 * t := Int.ediv_le_self _ hr.1
    rw [w64 (n := i % 24 * t) (by omega) (by omega), Int.tdiv_eq_ediv_of_nonneg hr.1, Int.tmod_eq_emod_of_nonneg hr.1, w64 (n := i % 24 * t / 24) (by omega) (by omega)]
    by_cases h0 : i % 24 * t / 24 = 0
    · simp [h0]
    · simp only [beq_of h0, if_neg h0, Bool.not_true, cond_false, cond_true]
theorem settings_Tooth.ok : SOK Tryd.prog 11 (settings_Tooth.sp settings_Tooth) := by
  refine sok_of (E := ⟨[(34, settings_wheelRight.sp settings_wheelRight), (35, wheel_Mod.sp wheel_Mod)], []⟩) (L := []) ⟨(specs_cons settings_wheelRight.ok (specs_cons wheel_Mod.ok specs_nil)), inl_nil, mixed_ok⟩ 40 Tryd.func11 (by decide) rfl no_loops fun vs bl v bl' h => ?_
  unfold settings_Tooth.sp at h
  split at h
  · rename_i a0 a1
    simp only [Option.some.injEq, Prod.mk.injEq, true_and] at h
    obtain ⟨rfl, rfl⟩ := h
    refine ⟨?_, by simp [okV, Nat.blt], clo_spec 8 _ (by kernel_rfl), told_blk (by kernel_rfl)⟩
    refine (settings_Tooth.run settings_wheelRight wheel_Mod a0 a1).trans ?_
    refine (settings_Tooth.nat settings_wheelRight wheel_Mod a0 a1 _).trans ?_
    kernel_rfl
  · cases h

/-! ### culet/settings.Fits (15) -/
def settings_Fits.K {R : Type} (f_settings_wheelRight : Int → (Bool)) (a0 : Int) (k : (Bool) → R) : R :=
  let t0 := f_settings_wheelRight a0
  bif t0 then
    k (a0.tmod 24 == 0)
  else
    k (false)
set_option maxRecDepth 100000 in
theorem settings_Fits.run (f_settings_wheelRight : Int → (Bool)) (a0 : Int) : xfn Tryd.prog ⟨[(34, settings_wheelRight.sp f_settings_wheelRight)], []⟩ [] 40 Tryd.f15 [.int .i64 a0] [] = settings_Fits.K f_settings_wheelRight a0 (fun r => some (.bool r, [])) := by kernel_rfl
def settings_Fits (a0 : Int) : Bool := settings_Fits.K settings_wheelRight a0 id
theorem settings_Fits.nat {R : Type} (f_settings_wheelRight : Int → (Bool)) (a0 : Int) (k : (Bool) → R) : settings_Fits.K f_settings_wheelRight a0 k = k (settings_Fits.K f_settings_wheelRight a0 id) := by
  simp only [settings_Fits.K, acond k, id_eq]
theorem settings_Fits.eq (t : Int) : settings_Fits t = (wok t && decide (t % 24 = 0)) := by
  simp only [settings_Fits, settings_Fits.K, id_eq, settings_wheelRight.eq]
  cases h : wok t with
  | false => rfl
  | true =>
    simp only [wok, decide_eq_true_eq] at h
    rw [Int.tmod_eq_emod_of_nonneg (by omega)]
    rfl
theorem settings_Fits.ok : SOK Tryd.prog 15 (settings_Fits.sp settings_Fits) := by
  refine sok_of (E := ⟨[(34, settings_wheelRight.sp settings_wheelRight)], []⟩) (L := []) ⟨(specs_cons settings_wheelRight.ok specs_nil), inl_nil, mixed_ok⟩ 40 Tryd.func15 (by decide) rfl no_loops fun vs bl v bl' h => ?_
  unfold settings_Fits.sp at h
  split at h
  · rename_i a0
    simp only [Option.some.injEq, Prod.mk.injEq, true_and] at h
    obtain ⟨rfl, rfl⟩ := h
    refine ⟨?_, by simp [okV, Nat.blt], clo_spec 8 _ (by kernel_rfl), told_blk (by kernel_rfl)⟩
    refine (settings_Fits.run settings_wheelRight a0).trans ?_
    refine (settings_Fits.nat settings_wheelRight a0 _).trans ?_
    kernel_rfl
  · cases h

/-! ### culet/culetlaw48.SettingsTurned (4) -/
def culetlaw48_SettingsTurned.K {R : Type} (f_settings_Tooth : Int → Int → (Int × Int × Int)) (f_settings_Fits : Int → (Bool)) (a0 : Int) (a1 : Int) (a2 : Int) (k : (Bool) → Option R) : Option R :=
  bif IntKind.i64.wrap (24 * IntKind.i64.wrap (1 + (IntKind.i64.wrap a2).tmod 8)) != 0 then
    let t0 := f_settings_Tooth (IntKind.i64.wrap a0) (IntKind.i64.wrap (24 * IntKind.i64.wrap (1 + (IntKind.i64.wrap a2).tmod 8)))
    bif t0.snd.snd == 0 then
      let t1 := f_settings_Tooth (IntKind.i64.wrap (IntKind.i64.wrap a0 + IntKind.i64.wrap a1)) (IntKind.i64.wrap (24 * IntKind.i64.wrap (1 + (IntKind.i64.wrap a2).tmod 8)))
      bif t1.snd.snd == 0 then
        bif t0.snd.fst == 0 then
          bif t1.snd.fst == 0 then
            bif (IntKind.i64.wrap (IntKind.i64.wrap (t1.fst - t0.fst) - IntKind.i64.wrap (IntKind.i64.wrap a1 * IntKind.i64.wrap ((IntKind.i64.wrap (24 * IntKind.i64.wrap (1 + (IntKind.i64.wrap a2).tmod 8))).tdiv 24)))).tmod (IntKind.i64.wrap (24 * IntKind.i64.wrap (1 + (IntKind.i64.wrap a2).tmod 8))) == 0 then
              let t2 := f_settings_Fits (IntKind.i64.wrap (24 * IntKind.i64.wrap (1 + (IntKind.i64.wrap a2).tmod 8)))
              k (t2)
            else
              k (false)
          else
            k (false)
        else
          k (false)
      else
        k (false)
    else
      k (false)
  else
    none
set_option maxRecDepth 100000 in
theorem culetlaw48_SettingsTurned.run (f_settings_Tooth : Int → Int → (Int × Int × Int)) (f_settings_Fits : Int → (Bool)) (a0 : Int) (a1 : Int) (a2 : Int) : xfn Tryd.prog ⟨[(10, culetlaw48_awake.sp), (11, settings_Tooth.sp f_settings_Tooth), (15, settings_Fits.sp f_settings_Fits)], []⟩ [] 40 Tryd.f4 [.int .i16 a0, .int .i16 a1, .int .u8 a2] [] = culetlaw48_SettingsTurned.K f_settings_Tooth f_settings_Fits a0 a1 a2 (fun r => some (.bool r, [])) := by kernel_rfl
def culetlaw48_SettingsTurned.o (a0 : Int) (a1 : Int) (a2 : Int) : Option (Bool) := culetlaw48_SettingsTurned.K settings_Tooth settings_Fits a0 a1 a2 some
def culetlaw48_SettingsTurned.pre (a0 : Int) (a1 : Int) (a2 : Int) : Bool := (culetlaw48_SettingsTurned.o a0 a1 a2).isSome
def culetlaw48_SettingsTurned (a0 : Int) (a1 : Int) (a2 : Int) : Bool := (culetlaw48_SettingsTurned.o a0 a1 a2).getD default
theorem culetlaw48_SettingsTurned.nat {R : Type} (f_settings_Tooth : Int → Int → (Int × Int × Int)) (f_settings_Fits : Int → (Bool)) (a0 : Int) (a1 : Int) (a2 : Int) (k : (Bool) → Option R) : culetlaw48_SettingsTurned.K f_settings_Tooth f_settings_Fits a0 a1 a2 k = (culetlaw48_SettingsTurned.K f_settings_Tooth f_settings_Fits a0 a1 a2 some).bind k := by
  simp only [culetlaw48_SettingsTurned.K, bcond, Option.bind_some, Option.bind_none]
theorem SettingsTurned.law {i k n : Int} (hi : -32768 ≤ i ∧ i ≤ 32767) (hk : -32768 ≤ k ∧ k ≤ 32767) (hn : 0 ≤ n ∧ n ≤ 255) : culetlaw48_SettingsTurned.o i k n = some true := by
  have m0 : (n.tmod 8) = n % 8 := Int.tmod_eq_emod_of_nonneg hn.1
  have hT : ∃ T, 1 + n % 8 = T ∧ 1 ≤ T ∧ T ≤ 8 := ⟨_, rfl, by omega, by omega⟩
  obtain ⟨T, hT, hT1, hT2⟩ := hT
  simp only [culetlaw48_SettingsTurned.o, culetlaw48_SettingsTurned.K, settings_Tooth.eq, settings_Fits.eq]
  rw [w64 (n := n) (by omega) (by omega), m0, hT, w64 (n := T) (by omega) (by omega), w64 (n := 24 * T) (by omega) (by omega), w64 (n := i) (by omega) (by omega), w64 (n := k) (by omega) (by omega), w64 (n := i + k) (by omega) (by omega)]
  have hw : wok (24 * T) = true := by simp only [wok, decide_eq_true_eq]; omega
  have e1 : ∀ x : Int, x % 24 * (24 * T) / 24 = x % 24 * T := fun x => by rw [Int.mul_left_comm, Int.mul_ediv_cancel_left _ (by omega)]
  have e2 : ∀ x : Int, x % 24 * (24 * T) % 24 = 0 := fun x => by rw [Int.mul_left_comm]; exact Int.mul_emod_right 24 _
  have t1 : ∀ x : Int, tth x (24 * T) = (if x % 24 * T = 0 then 24 * T else x % 24 * T, 0, 0) := fun x => by
    unfold tth; rw [hw, cond_true, e1, e2]
  have n0 : ((24 * T) != 0) = true := bne_of (by omega)
  have td : (24 * T).tdiv 24 = T := by rw [Int.tdiv_eq_ediv_of_nonneg (by omega)]; omega
  rw [t1, t1, n0, td, w64 (n := T) (by omega) (by omega)]
  have hb : ∀ x : Int, 0 ≤ x % 24 * T ∧ x % 24 * T ≤ 23 * 8 := fun x => ⟨Int.mul_nonneg (by omega) (by omega), Int.mul_le_mul (by omega) (by omega) (by omega) (by omega)⟩
  have hkT := mul_bnd (x := k) (y := T) (A := 32768) (B := 8) (by omega) (by omega) (by omega) (by omega) (by omega) (by omega)
  have key : ∀ x : Int, ∃ q, (if x % 24 * T = 0 then 24 * T else x % 24 * T) = x * T + q * (24 * T) := fun x => by
    have hx : x = 24 * (x / 24) + x % 24 := by omega
    have e : x * T = x / 24 * (24 * T) + x % 24 * T := by
      calc x * T = (24 * (x / 24) + x % 24) * T := by rw [← hx]
        _ = 24 * (x / 24) * T + x % 24 * T := Int.add_mul _ _ _
        _ = x / 24 * (24 * T) + x % 24 * T := by rw [Int.mul_comm 24, Int.mul_assoc]
    by_cases h0 : x % 24 * T = 0
    · exact ⟨1 - x / 24, by rw [if_pos h0, e, h0, Int.sub_mul]; omega⟩
    · exact ⟨-(x / 24), by rw [if_neg h0, e, Int.neg_mul]; omega⟩
  obtain ⟨q1, k1⟩ := key i
  obtain ⟨q2, k2⟩ := key (i + k)
  have r1 : 0 ≤ (if i % 24 * T = 0 then 24 * T else i % 24 * T) ∧ (if i % 24 * T = 0 then 24 * T else i % 24 * T) ≤ 192 := by have := hb i; split <;> omega
  have r2 : 0 ≤ (if (i + k) % 24 * T = 0 then 24 * T else (i + k) % 24 * T) ∧ (if (i + k) % 24 * T = 0 then 24 * T else (i + k) % 24 * T) ≤ 192 := by have := hb (i + k); split <;> omega
  generalize (if i % 24 * T = 0 then 24 * T else i % 24 * T) = a at *
  generalize (if (i + k) % 24 * T = 0 then 24 * T else (i + k) % 24 * T) = b at *
  have hd : (b - a - k * T).tmod (24 * T) = 0 := by
    apply Int.tmod_eq_zero_of_dvd
    refine ⟨q2 - q1, ?_⟩
    rw [k1, k2, Int.add_mul, Int.mul_sub, Int.mul_comm (24 * T) q2, Int.mul_comm (24 * T) q1]
    omega
  simp only [cond_true, beq_self_eq_true]
  rw [w64 (n := b - a) (by omega) (by omega), w64 (n := k * T) (by omega) (by omega), w64 (n := b - a - k * T) (by omega) (by omega), hd, hw]
  have e3 : (24 * T) % 24 = 0 := by omega
  simp [e3]
theorem culetlaw48_SettingsTurned.calls (a0 : Int) (a1 : Int) (a2 : Int) (h : culetlaw48_SettingsTurned.o a0 a1 a2 = some true) (w : World) (ht : TabOk w) : Calls Tryd.prog 4 ⟨[.int .i16 a0, .int .i16 a1, .int .u8 a2]⟩ w fun e w' => e = .returned (.bool true) ∧ Below w.heap.size w w' := by
  refine calls_run (E := ⟨[(10, culetlaw48_awake.sp), (11, settings_Tooth.sp settings_Tooth), (15, settings_Fits.sp settings_Fits)], []⟩) (L := []) ⟨(specs_cons culetlaw48_awake.ok (specs_cons settings_Tooth.ok (specs_cons settings_Fits.ok specs_nil))), inl_nil, mixed_ok⟩ 40 Tryd.func4 (by decide) rfl no_loops (vs := [.int .i16 a0, .int .i16 a1, .int .u8 a2]) (v := .bool true) ?_ (by simp [okV, Nat.blt]) (clo_spec 8 _ rfl) w ht
  refine (culetlaw48_SettingsTurned.run settings_Tooth settings_Fits a0 a1 a2).trans ?_
  rw [culetlaw48_SettingsTurned.nat]
  have h4 : culetlaw48_SettingsTurned.K settings_Tooth settings_Fits a0 a1 a2 some = some true := h
  rw [h4]
  rfl

/-! ### culet/plane.ValidSetting (40) -/
def plane_ValidSetting.K {R : Type} (a0_0 : Int) (a0_1 : Int) (a0_2 : Int) (k : (Bool) → R) : R :=
  bif decide (a0_0 < 0) then
    k (false)
  else
    bif decide (a0_0 > 1000) then
      k (false)
    else
      bif decide (a0_1 < -1000) then
        k (false)
      else
        bif decide (a0_1 > 1000) then
          k (false)
        else
          bif gcd a0_0 (if IntKind.i64.wrap (0 - a0_1) > a0_1 then IntKind.i64.wrap (0 - a0_1) else a0_1) != 1 then
            k (false)
          else
            bif decide (a0_2 ≥ 0) then
              bif decide (a0_2 < 24) then
                bif a0_0 != 0 then
                  k (true)
                else
                  k (a0_2 == 0)
              else
                k (false)
            else
              k (false)
set_option maxRecDepth 100000 in
theorem plane_ValidSetting.run (a0_0 : Int) (a0_1 : Int) (a0_2 : Int) : xfn Tryd.prog ⟨[(48, plane_gcd.sp)], []⟩ [] 40 Tryd.f40 [.agg ⟨[.int .i64 a0_0, .int .i64 a0_1, .int .i64 a0_2]⟩] [] = plane_ValidSetting.K a0_0 a0_1 a0_2 (fun r => some (.bool r, [])) := by kernel_rfl
def plane_ValidSetting (a0_0 : Int) (a0_1 : Int) (a0_2 : Int) : Bool := plane_ValidSetting.K a0_0 a0_1 a0_2 id
theorem plane_ValidSetting.nat {R : Type} (a0_0 : Int) (a0_1 : Int) (a0_2 : Int) (k : (Bool) → R) : plane_ValidSetting.K a0_0 a0_1 a0_2 k = k (plane_ValidSetting.K a0_0 a0_1 a0_2 id) := by
  simp only [plane_ValidSetting.K, acond k, id_eq]
theorem absE {v : Int} (h : -1000 ≤ v) (h' : v ≤ 1000) : (if IntKind.i64.wrap (0 - v) > v then IntKind.i64.wrap (0 - v) else v) = ab v := by
  rw [w64 (by omega) (by omega)]; unfold ab; split <;> omega
theorem val_no {h v i : Int} (hn : ¬ (0 ≤ h ∧ h ≤ 1000 ∧ -1000 ≤ v ∧ v ≤ 1000)) : val h v i = false := by
  simp only [val, decide_eq_false_iff_not]; omega
theorem ab_natAbs (v : Int) : (ab v).natAbs = v.natAbs := by unfold ab; omega
theorem plane_ValidSetting.eq (h v i : Int) : plane_ValidSetting h v i = val h v i := by
  simp only [plane_ValidSetting, plane_ValidSetting.K, id_eq]
  by_cases h1 : h < 0
  · rw [val_no (by omega)]; simp [h1]
  by_cases h2 : h > 1000
  · rw [val_no (by omega)]; simp [h1, h2]
  by_cases h3 : v < -1000
  · rw [val_no (by omega)]; simp [h1, h2, h3]
  by_cases h4 : v > 1000
  · rw [val_no (by omega)]; simp [h1, h2, h3, h4]
  have hg : G.gcd h (ab v) = (Nat.gcd h.natAbs v.natAbs : Int) := by rw [gcd_eq (by omega) (ab_nonneg v), ab_natAbs]
  rw [absE (by omega) (by omega), hg]
  have e : ((Nat.gcd h.natAbs v.natAbs : Int) != 1) = !decide (Nat.gcd h.natAbs v.natAbs = 1) := by
    by_cases hq : Nat.gcd h.natAbs v.natAbs = 1
    · rw [show (Nat.gcd h.natAbs v.natAbs : Int) = 1 by omega, decide_eq_true hq]; rfl
    · rw [decide_eq_false hq]
      first | exact bne_of (by omega) | exact beq_of (by omega)
  rw [e]
  have a1 : 0 ≤ h := by omega
  have a2 : h ≤ 1000 := by omega
  have a3 : -1000 ≤ v := by omega
  have a4 : v ≤ 1000 := by omega
  by_cases hq : Nat.gcd h.natAbs v.natAbs = 1 <;> by_cases h5 : 0 ≤ i <;> by_cases h6 : i < 24 <;> by_cases h7 : h = 0 <;> by_cases h8 : i = 0 <;> simp [val, h1, h2, h3, h4, a1, a2, a3, a4, hq, h5, h6, h7, h8] <;> omega
theorem plane_ValidSetting.ok : SOK Tryd.prog 40 (plane_ValidSetting.sp plane_ValidSetting) := by
  refine sok_of (E := ⟨[(48, plane_gcd.sp)], []⟩) (L := []) ⟨(specs_cons plane_gcd.ok specs_nil), inl_nil, mixed_ok⟩ 40 Tryd.func40 (by decide) rfl no_loops fun vs bl v bl' h => ?_
  unfold plane_ValidSetting.sp at h
  split at h
  · rename_i a0_0 a0_1 a0_2
    simp only [Option.some.injEq, Prod.mk.injEq, true_and] at h
    obtain ⟨rfl, rfl⟩ := h
    refine ⟨?_, by simp [okV, Nat.blt], clo_spec 8 _ (by kernel_rfl), told_blk (by kernel_rfl)⟩
    refine (plane_ValidSetting.run a0_0 a0_1 a0_2).trans ?_
    refine (plane_ValidSetting.nat a0_0 a0_1 a0_2 _).trans ?_
    kernel_rfl
  · cases h

/-! ### culet/settings.Valid (20) -/
def settings_Valid.K {R : Type} (f_plane_ValidSetting : Int → Int → Int → (Bool)) (a0_0 : Int) (a0_1 : Int) (a0_2 : Int) (k : (Bool) → R) : R :=
  let t0 := f_plane_ValidSetting a0_0 a0_1 a0_2
  k (t0)
set_option maxRecDepth 100000 in
theorem settings_Valid.run (f_plane_ValidSetting : Int → Int → Int → (Bool)) (a0_0 : Int) (a0_1 : Int) (a0_2 : Int) : xfn Tryd.prog ⟨[(40, plane_ValidSetting.sp f_plane_ValidSetting)], []⟩ [] 40 Tryd.f20 [.agg ⟨[.int .i64 a0_0, .int .i64 a0_1, .int .i64 a0_2]⟩] [] = settings_Valid.K f_plane_ValidSetting a0_0 a0_1 a0_2 (fun r => some (.bool r, [])) := by kernel_rfl
def settings_Valid (a0_0 : Int) (a0_1 : Int) (a0_2 : Int) : Bool := settings_Valid.K plane_ValidSetting a0_0 a0_1 a0_2 id
theorem settings_Valid.nat {R : Type} (f_plane_ValidSetting : Int → Int → Int → (Bool)) (a0_0 : Int) (a0_1 : Int) (a0_2 : Int) (k : (Bool) → R) : settings_Valid.K f_plane_ValidSetting a0_0 a0_1 a0_2 k = k (settings_Valid.K f_plane_ValidSetting a0_0 a0_1 a0_2 id) := by
  simp only [settings_Valid.K, acond k, id_eq]
theorem settings_Valid.eq (h v i : Int) : settings_Valid h v i = val h v i := by
  simp only [settings_Valid, settings_Valid.K, id_eq, plane_ValidSetting.eq]
theorem settings_Valid.ok : SOK Tryd.prog 20 (settings_Valid.sp settings_Valid) := by
  refine sok_of (E := ⟨[(40, plane_ValidSetting.sp plane_ValidSetting)], []⟩) (L := []) ⟨(specs_cons plane_ValidSetting.ok specs_nil), inl_nil, mixed_ok⟩ 40 Tryd.func20 (by decide) rfl no_loops fun vs bl v bl' h => ?_
  unfold settings_Valid.sp at h
  split at h
  · rename_i a0_0 a0_1 a0_2
    simp only [Option.some.injEq, Prod.mk.injEq, true_and] at h
    obtain ⟨rfl, rfl⟩ := h
    refine ⟨?_, by simp [okV, Nat.blt], clo_spec 8 _ (by kernel_rfl), told_blk (by kernel_rfl)⟩
    refine (settings_Valid.run plane_ValidSetting a0_0 a0_1 a0_2).trans ?_
    refine (settings_Valid.nat plane_ValidSetting a0_0 a0_1 a0_2 _).trans ?_
    kernel_rfl
  · cases h

/-! ### culet/settings.size (38) -/
def settings_size.K {R : Type} (a0 : Int) (k : (Int) → R) : R :=
  k (if IntKind.i64.wrap (0 - a0) > a0 then IntKind.i64.wrap (0 - a0) else a0)
set_option maxRecDepth 100000 in
theorem settings_size.run (a0 : Int) : xfn Tryd.prog ⟨[], []⟩ [] 40 Tryd.f38 [.int .i64 a0] [] = settings_size.K a0 (fun r => some (.int .i64 r, [])) := by kernel_rfl
def settings_size (a0 : Int) : Int := settings_size.K a0 id
theorem settings_size.nat {R : Type} (a0 : Int) (k : (Int) → R) : settings_size.K a0 k = k (settings_size.K a0 id) := by
  simp only [settings_size.K, acond k, id_eq]
theorem settings_size.eq {v : Int} (h : -1000 ≤ v) (h' : v ≤ 1000) : settings_size v = ab v := by
  simp only [settings_size, settings_size.K, id_eq]; exact absE h h'
theorem settings_size.ok : SOK Tryd.prog 38 (settings_size.sp settings_size) := by
  refine sok_of (E := ⟨[], []⟩) (L := []) ⟨specs_nil, inl_nil, mixed_ok⟩ 40 Tryd.func38 (by decide) rfl no_loops fun vs bl v bl' h => ?_
  unfold settings_size.sp at h
  split at h
  · rename_i a0
    simp only [Option.some.injEq, Prod.mk.injEq, true_and] at h
    obtain ⟨rfl, rfl⟩ := h
    refine ⟨?_, by simp [okV, Nat.blt], clo_spec 8 _ (by kernel_rfl), told_blk (by kernel_rfl)⟩
    refine (settings_size.run a0).trans ?_
    refine (settings_size.nat a0 _).trans ?_
    kernel_rfl
  · cases h

/-! ### culet/settings.steeper (37) -/
def settings_steeper.K {R : Type} (f_settings_size : Int → (Int)) (a0_0 : Int) (a0_1 : Int) (a0_2 : Int) (a1_0 : Int) (a1_1 : Int) (a1_2 : Int) (k : (Bool) → R) : R :=
  let t0 := f_settings_size a1_1
  let t1 := f_settings_size a0_1
  k (decide (IntKind.i64.wrap (a0_0 * t0) > IntKind.i64.wrap (a1_0 * t1)))
set_option maxRecDepth 100000 in
theorem settings_steeper.run (f_settings_size : Int → (Int)) (a0_0 : Int) (a0_1 : Int) (a0_2 : Int) (a1_0 : Int) (a1_1 : Int) (a1_2 : Int) : xfn Tryd.prog ⟨[(38, settings_size.sp f_settings_size)], []⟩ [] 40 Tryd.f37 [.agg ⟨[.int .i64 a0_0, .int .i64 a0_1, .int .i64 a0_2]⟩, .agg ⟨[.int .i64 a1_0, .int .i64 a1_1, .int .i64 a1_2]⟩] [] = settings_steeper.K f_settings_size a0_0 a0_1 a0_2 a1_0 a1_1 a1_2 (fun r => some (.bool r, [])) := by kernel_rfl
def settings_steeper (a0_0 : Int) (a0_1 : Int) (a0_2 : Int) (a1_0 : Int) (a1_1 : Int) (a1_2 : Int) : Bool := settings_steeper.K settings_size a0_0 a0_1 a0_2 a1_0 a1_1 a1_2 id
theorem settings_steeper.nat {R : Type} (f_settings_size : Int → (Int)) (a0_0 : Int) (a0_1 : Int) (a0_2 : Int) (a1_0 : Int) (a1_1 : Int) (a1_2 : Int) (k : (Bool) → R) : settings_steeper.K f_settings_size a0_0 a0_1 a0_2 a1_0 a1_1 a1_2 k = k (settings_steeper.K f_settings_size a0_0 a0_1 a0_2 a1_0 a1_1 a1_2 id) := by
  simp only [settings_steeper.K, acond k, id_eq]
theorem hab_range {h v : Int} (h1 : 0 ≤ h) (h2 : h ≤ 1000) (h3 : -1000 ≤ v) (h4 : v ≤ 1000) : 0 ≤ h * ab v ∧ h * ab v ≤ 1000000 := by
  have n := ab_nonneg v
  have : ab v ≤ 1000 := by unfold ab; omega
  exact ⟨Int.mul_nonneg h1 n, by have := Int.mul_le_mul h2 this n (by omega); omega⟩
theorem settings_steeper.eq {h v i h' v' i' : Int} (s : val h v i = true) (t : val h' v' i' = true) : settings_steeper h v i h' v' i' = decide (h * ab v' > h' * ab v) := by
  rw [val_iff] at s t
  have r1 := hab_range (h := h) (v := v') (by omega) (by omega) (by omega) (by omega)
  have r2 := hab_range (h := h') (v := v) (by omega) (by omega) (by omega) (by omega)
  simp only [settings_steeper, settings_steeper.K, id_eq, settings_size.eq (v := v') (by omega) (by omega), settings_size.eq (v := v) (by omega) (by omega)]
  rw [w64 (by omega) (by omega), w64 (by omega) (by omega)]
theorem settings_steeper.ok : SOK Tryd.prog 37 (settings_steeper.sp settings_steeper) := by
  refine sok_of (E := ⟨[(38, settings_size.sp settings_size)], []⟩) (L := []) ⟨(specs_cons settings_size.ok specs_nil), inl_nil, mixed_ok⟩ 40 Tryd.func37 (by decide) rfl no_loops fun vs bl v bl' h => ?_
  unfold settings_steeper.sp at h
  split at h
  · rename_i a0_0 a0_1 a0_2 a1_0 a1_1 a1_2
    simp only [Option.some.injEq, Prod.mk.injEq, true_and] at h
    obtain ⟨rfl, rfl⟩ := h
    refine ⟨?_, by simp [okV, Nat.blt], clo_spec 8 _ (by kernel_rfl), told_blk (by kernel_rfl)⟩
    refine (settings_steeper.run settings_size a0_0 a0_1 a0_2 a1_0 a1_1 a1_2).trans ?_
    refine (settings_steeper.nat settings_size a0_0 a0_1 a0_2 a1_0 a1_1 a1_2 _).trans ?_
    kernel_rfl
  · cases h

/-! ### culet/settings.Steeper (17) -/
def settings_Steeper.K {R : Type} (f_settings_Valid : Int → Int → Int → (Bool)) (f_settings_steeper : Int → Int → Int → Int → Int → Int → (Bool)) (a0_0 : Int) (a0_1 : Int) (a0_2 : Int) (a1_0 : Int) (a1_1 : Int) (a1_2 : Int) (k : (Bool) → R) : R :=
  let t0 := f_settings_Valid a0_0 a0_1 a0_2
  bif t0 then
    let t1 := f_settings_Valid a1_0 a1_1 a1_2
    bif t1 then
      let t2 := f_settings_steeper a0_0 a0_1 a0_2 a1_0 a1_1 a1_2
      k (t2)
    else
      k (false)
  else
    k (false)
set_option maxRecDepth 100000 in
theorem settings_Steeper.run (f_settings_Valid : Int → Int → Int → (Bool)) (f_settings_steeper : Int → Int → Int → Int → Int → Int → (Bool)) (a0_0 : Int) (a0_1 : Int) (a0_2 : Int) (a1_0 : Int) (a1_1 : Int) (a1_2 : Int) : xfn Tryd.prog ⟨[(20, settings_Valid.sp f_settings_Valid), (37, settings_steeper.sp f_settings_steeper)], []⟩ [] 40 Tryd.f17 [.agg ⟨[.int .i64 a0_0, .int .i64 a0_1, .int .i64 a0_2]⟩, .agg ⟨[.int .i64 a1_0, .int .i64 a1_1, .int .i64 a1_2]⟩] [] = settings_Steeper.K f_settings_Valid f_settings_steeper a0_0 a0_1 a0_2 a1_0 a1_1 a1_2 (fun r => some (.bool r, [])) := by kernel_rfl
def settings_Steeper (a0_0 : Int) (a0_1 : Int) (a0_2 : Int) (a1_0 : Int) (a1_1 : Int) (a1_2 : Int) : Bool := settings_Steeper.K settings_Valid settings_steeper a0_0 a0_1 a0_2 a1_0 a1_1 a1_2 id
theorem settings_Steeper.nat {R : Type} (f_settings_Valid : Int → Int → Int → (Bool)) (f_settings_steeper : Int → Int → Int → Int → Int → Int → (Bool)) (a0_0 : Int) (a0_1 : Int) (a0_2 : Int) (a1_0 : Int) (a1_1 : Int) (a1_2 : Int) (k : (Bool) → R) : settings_Steeper.K f_settings_Valid f_settings_steeper a0_0 a0_1 a0_2 a1_0 a1_1 a1_2 k = k (settings_Steeper.K f_settings_Valid f_settings_steeper a0_0 a0_1 a0_2 a1_0 a1_1 a1_2 id) := by
  simp only [settings_Steeper.K, acond k, id_eq]
theorem settings_Steeper.eq (h v i h' v' i' : Int) : settings_Steeper h v i h' v' i' = stp h v i h' v' i' := by
  simp only [settings_Steeper, settings_Steeper.K, id_eq, settings_Valid.eq, stp]
  cases s : val h v i with
  | false => rfl
  | true => cases t : val h' v' i' with
    | false => rfl
    | true => simp only [cond_true, settings_steeper.eq s t, Bool.true_and]
theorem settings_Steeper.ok : SOK Tryd.prog 17 (settings_Steeper.sp settings_Steeper) := by
  refine sok_of (E := ⟨[(20, settings_Valid.sp settings_Valid), (37, settings_steeper.sp settings_steeper)], []⟩) (L := []) ⟨(specs_cons settings_Valid.ok (specs_cons settings_steeper.ok specs_nil)), inl_nil, mixed_ok⟩ 40 Tryd.func17 (by decide) rfl no_loops fun vs bl v bl' h => ?_
  unfold settings_Steeper.sp at h
  split at h
  · rename_i a0_0 a0_1 a0_2 a1_0 a1_1 a1_2
    simp only [Option.some.injEq, Prod.mk.injEq, true_and] at h
    obtain ⟨rfl, rfl⟩ := h
    refine ⟨?_, by simp [okV, Nat.blt], clo_spec 8 _ (by kernel_rfl), told_blk (by kernel_rfl)⟩
    refine (settings_Steeper.run settings_Valid settings_steeper a0_0 a0_1 a0_2 a1_0 a1_1 a1_2).trans ?_
    refine (settings_Steeper.nat settings_Valid settings_steeper a0_0 a0_1 a0_2 a1_0 a1_1 a1_2 _).trans ?_
    kernel_rfl
  · cases h

/-! ### culet/settings.Slide (18) -/
def settings_Slide.K {R : Type} (f_settings_Valid : Int → Int → Int → (Bool)) (f_settings_size : Int → (Int)) (a0_0 : Int) (a0_1 : Int) (a0_2 : Int) (k : Int × Bool × Int → Option R) : Option R :=
  let t0 := f_settings_Valid a0_0 a0_1 a0_2
  bif !t0 then
    k (0, false, 1)
  else
    bif a0_1 == 0 then
      k (0, false, 15)
    else
      let t1 := f_settings_size a0_1
      bif t1 != 0 then
        bif t1 != 0 then
          k (IntKind.i64.wrap ((IntKind.i64.wrap (1000 * a0_0)).tdiv t1), (IntKind.i64.wrap (1000 * a0_0)).tmod t1 == 0, 0)
        else
          none
      else
        none
set_option maxRecDepth 100000 in
theorem settings_Slide.run (f_settings_Valid : Int → Int → Int → (Bool)) (f_settings_size : Int → (Int)) (a0_0 : Int) (a0_1 : Int) (a0_2 : Int) : xfn Tryd.prog ⟨[(20, settings_Valid.sp f_settings_Valid), (38, settings_size.sp f_settings_size)], []⟩ [] 40 Tryd.f18 [.agg ⟨[.int .i64 a0_0, .int .i64 a0_1, .int .i64 a0_2]⟩] [] = settings_Slide.K f_settings_Valid f_settings_size a0_0 a0_1 a0_2 (fun r => some (.tuple ⟨[.int .i64 r.1, .bool r.2.1, .int .i64 r.2.2]⟩, [])) := by kernel_rfl
def settings_Slide.o (a0_0 : Int) (a0_1 : Int) (a0_2 : Int) : Option (Int × Bool × Int) := settings_Slide.K settings_Valid settings_size a0_0 a0_1 a0_2 some
def settings_Slide.pre (a0_0 : Int) (a0_1 : Int) (a0_2 : Int) : Bool := (settings_Slide.o a0_0 a0_1 a0_2).isSome
def settings_Slide (a0_0 : Int) (a0_1 : Int) (a0_2 : Int) : Int × Bool × Int := (settings_Slide.o a0_0 a0_1 a0_2).getD default
theorem settings_Slide.nat {R : Type} (f_settings_Valid : Int → Int → Int → (Bool)) (f_settings_size : Int → (Int)) (a0_0 : Int) (a0_1 : Int) (a0_2 : Int) (k : Int × Bool × Int → Option R) : settings_Slide.K f_settings_Valid f_settings_size a0_0 a0_1 a0_2 k = (settings_Slide.K f_settings_Valid f_settings_size a0_0 a0_1 a0_2 some).bind k := by
  simp only [settings_Slide.K, bcond, Option.bind_some, Option.bind_none]
theorem sld_nums {h v i : Int} (s : val h v i = true) (h0 : v ≠ 0) : (ab v != 0) = true ∧ IntKind.i64.wrap (1000 * h) = 1000 * h ∧ (1000 * h).tdiv (ab v) = 1000 * h / ab v ∧ (1000 * h).tmod (ab v) = 1000 * h % ab v ∧ IntKind.i64.wrap (1000 * h / ab v) = 1000 * h / ab v := by
  have sv := val_iff.1 s
  have n := ab_nonneg v
  have p : ab v ≠ 0 := by unfold ab; omega
  have d1 : 0 ≤ 1000 * h / ab v := Int.ediv_nonneg (by omega) n
  have d2 : 1000 * h / ab v ≤ 1000 * h := Int.ediv_le_self _ (by omega)
  exact ⟨bne_of p, w64 (by omega) (by omega), Int.tdiv_eq_ediv_of_nonneg (by omega), Int.tmod_eq_emod_of_nonneg (by omega), w64 (by omega) (by omega)⟩
theorem beq_dec (x : Int) : (x == 0) = decide (x = 0) := by by_cases h : x = 0 <;> simp [h]
theorem settings_Slide.o_eq (h v i : Int) : settings_Slide.o h v i = some (sld h v i) := by
  simp only [settings_Slide.o, settings_Slide.K, settings_Valid.eq, sld]
  cases s : val h v i with
  | false => rfl
  | true =>
    have sv := val_iff.1 s
    by_cases h0 : v = 0
    · subst h0; rfl
    · obtain ⟨a1, a2, a3, a4, a5⟩ := sld_nums s h0
      simp only [settings_size.eq (v := v) (by omega) (by omega), beq_of h0, Bool.not_true, cond_false, cond_true, a1, a2, a3, a4, a5, if_neg h0, beq_dec]
theorem settings_Slide.total (h v i : Int) : (settings_Slide.o h v i).isSome = true := by rw [settings_Slide.o_eq]; rfl
theorem settings_Slide.eq (h v i : Int) : settings_Slide h v i = sld h v i := by rw [settings_Slide, settings_Slide.o_eq]; rfl
theorem settings_Slide.ok : SOK Tryd.prog 18 (settings_Slide.sp settings_Slide) := by
  refine sok_of (E := ⟨[(20, settings_Valid.sp settings_Valid), (38, settings_size.sp settings_size)], []⟩) (L := []) ⟨(specs_cons settings_Valid.ok (specs_cons settings_size.ok specs_nil)), inl_nil, mixed_ok⟩ 40 Tryd.func18 (by decide) rfl no_loops fun vs bl v bl' h => ?_
  unfold settings_Slide.sp at h
  split at h
  · rename_i a0_0 a0_1 a0_2
    simp only [Option.some.injEq, Prod.mk.injEq] at h
    obtain ⟨hp, rfl, rfl⟩ := h
    have hr := settings_Slide.run settings_Valid settings_size a0_0 a0_1 a0_2
    rw [settings_Slide.nat] at hr
    obtain ⟨r, h2⟩ := Option.isSome_iff_exists.1 (settings_Slide.total a0_0 a0_1 a0_2 : (settings_Slide.o a0_0 a0_1 a0_2).isSome = true)
    have h3 : settings_Slide a0_0 a0_1 a0_2 = r := by unfold settings_Slide; rw [h2]; rfl
    have h4 : settings_Slide.K settings_Valid settings_size a0_0 a0_1 a0_2 some = some r := h2
    rw [h4, Option.bind_some] at hr
    rw [h3]
    exact ⟨hr, by simp [okV, Nat.blt], clo_spec 8 _ (by kernel_rfl), told_blk (by kernel_rfl)⟩
  · cases h

/-! ### culet/culetlaw48.SettingsOrder (5) -/
def culetlaw48_SettingsOrder.K {R : Type} (f_settings_Steeper : Int → Int → Int → Int → Int → Int → (Bool)) (f_settings_Slide : Int → Int → Int → (Int × Bool × Int)) (a0_0 : Int) (a0_1 : Int) (a0_2 : Int) (a1_0 : Int) (a1_1 : Int) (a1_2 : Int) (a2_0 : Int) (a2_1 : Int) (a2_2 : Int) (k : (Bool) → R) : R :=
  let t0 := f_settings_Steeper a0_0 a0_1 a0_2 a1_0 a1_1 a1_2
  bif t0 then
    let t1 := f_settings_Steeper a1_0 a1_1 a1_2 a0_0 a0_1 a0_2
    bif t1 then
      k (false)
    else
      let t2 := f_settings_Steeper a1_0 a1_1 a1_2 a2_0 a2_1 a2_2
      bif t2 then
        let t3 := f_settings_Steeper a0_0 a0_1 a0_2 a2_0 a2_1 a2_2
        bif !t3 then
          k (false)
        else
          bif !t0 then
            k (true)
          else
            let t4 := f_settings_Slide a0_0 a0_1 a0_2
            bif t4.snd.snd != 0 then
              k (true)
            else
              let t5 := f_settings_Slide a1_0 a1_1 a1_2
              bif t5.snd.snd == 0 then
                k (decide (t4.fst ≥ t5.fst))
              else
                k (false)
      else
        bif !t0 then
          k (true)
        else
          let t6 := f_settings_Slide a0_0 a0_1 a0_2
          bif t6.snd.snd != 0 then
            k (true)
          else
            let t7 := f_settings_Slide a1_0 a1_1 a1_2
            bif t7.snd.snd == 0 then
              k (decide (t6.fst ≥ t7.fst))
            else
              k (false)
  else
    bif !t0 then
      k (true)
    else
      let t8 := f_settings_Slide a0_0 a0_1 a0_2
      bif t8.snd.snd != 0 then
        k (true)
      else
        let t9 := f_settings_Slide a1_0 a1_1 a1_2
        bif t9.snd.snd == 0 then
          k (decide (t8.fst ≥ t9.fst))
        else
          k (false)
set_option maxRecDepth 100000 in
theorem culetlaw48_SettingsOrder.run (f_settings_Steeper : Int → Int → Int → Int → Int → Int → (Bool)) (f_settings_Slide : Int → Int → Int → (Int × Bool × Int)) (a0_0 : Int) (a0_1 : Int) (a0_2 : Int) (a1_0 : Int) (a1_1 : Int) (a1_2 : Int) (a2_0 : Int) (a2_1 : Int) (a2_2 : Int) : xfn Tryd.prog ⟨[(10, culetlaw48_awake.sp), (17, settings_Steeper.sp f_settings_Steeper), (18, settings_Slide.sp f_settings_Slide)], []⟩ [] 40 Tryd.f5 [.agg ⟨[.int .i64 a0_0, .int .i64 a0_1, .int .i64 a0_2]⟩, .agg ⟨[.int .i64 a1_0, .int .i64 a1_1, .int .i64 a1_2]⟩, .agg ⟨[.int .i64 a2_0, .int .i64 a2_1, .int .i64 a2_2]⟩] [] = culetlaw48_SettingsOrder.K f_settings_Steeper f_settings_Slide a0_0 a0_1 a0_2 a1_0 a1_1 a1_2 a2_0 a2_1 a2_2 (fun r => some (.bool r, [])) := by kernel_rfl
def culetlaw48_SettingsOrder (a0_0 : Int) (a0_1 : Int) (a0_2 : Int) (a1_0 : Int) (a1_1 : Int) (a1_2 : Int) (a2_0 : Int) (a2_1 : Int) (a2_2 : Int) : Bool := culetlaw48_SettingsOrder.K settings_Steeper settings_Slide a0_0 a0_1 a0_2 a1_0 a1_1 a1_2 a2_0 a2_1 a2_2 id
theorem culetlaw48_SettingsOrder.nat {R : Type} (f_settings_Steeper : Int → Int → Int → Int → Int → Int → (Bool)) (f_settings_Slide : Int → Int → Int → (Int × Bool × Int)) (a0_0 : Int) (a0_1 : Int) (a0_2 : Int) (a1_0 : Int) (a1_1 : Int) (a1_2 : Int) (a2_0 : Int) (a2_1 : Int) (a2_2 : Int) (k : (Bool) → R) : culetlaw48_SettingsOrder.K f_settings_Steeper f_settings_Slide a0_0 a0_1 a0_2 a1_0 a1_1 a1_2 a2_0 a2_1 a2_2 k = k (culetlaw48_SettingsOrder.K f_settings_Steeper f_settings_Slide a0_0 a0_1 a0_2 a1_0 a1_1 a1_2 a2_0 a2_1 a2_2 id) := by
  simp only [culetlaw48_SettingsOrder.K, acond k, id_eq]
theorem SettingsOrder.law (a0 a1 a2 b0 b1 b2 c0 c1 c2 : Int) : culetlaw48_SettingsOrder a0 a1 a2 b0 b1 b2 c0 c1 c2 = true := by
  simp only [culetlaw48_SettingsOrder, culetlaw48_SettingsOrder.K, id_eq, settings_Steeper.eq, settings_Slide.eq]
  cases s : stp a0 a1 a2 b0 b1 b2 with
  | false => rfl
  | true =>
    rw [stp_asym s]
    have fin : (bif (sld a0 a1 a2).2.2 != 0 then true else bif (sld b0 b1 b2).2.2 == 0 then decide ((sld a0 a1 a2).1 ≥ (sld b0 b1 b2).1) else false) = true := by
      by_cases he : (sld a0 a1 a2).2.2 = 0
      · obtain ⟨v1, n1⟩ := sld_ok he
        obtain ⟨n2, hle⟩ := stp_slide s n1
        rw [sld_of v1 n1, sld_of ((stp_iff.1 s).2.1) n2]
        simp [hle]
      · rw [bne_of he]; rfl
    cases t : stp b0 b1 b2 c0 c1 c2 with
    | false => exact fin
    | true => rw [stp_trans s t]; exact fin
theorem culetlaw48_SettingsOrder.calls (a0_0 : Int) (a0_1 : Int) (a0_2 : Int) (a1_0 : Int) (a1_1 : Int) (a1_2 : Int) (a2_0 : Int) (a2_1 : Int) (a2_2 : Int) (h : culetlaw48_SettingsOrder a0_0 a0_1 a0_2 a1_0 a1_1 a1_2 a2_0 a2_1 a2_2 = true) (w : World) (ht : TabOk w) : Calls Tryd.prog 5 ⟨[.agg ⟨[.int .i64 a0_0, .int .i64 a0_1, .int .i64 a0_2]⟩, .agg ⟨[.int .i64 a1_0, .int .i64 a1_1, .int .i64 a1_2]⟩, .agg ⟨[.int .i64 a2_0, .int .i64 a2_1, .int .i64 a2_2]⟩]⟩ w fun e w' => e = .returned (.bool true) ∧ Below w.heap.size w w' := by
  refine calls_run (E := ⟨[(10, culetlaw48_awake.sp), (17, settings_Steeper.sp settings_Steeper), (18, settings_Slide.sp settings_Slide)], []⟩) (L := []) ⟨(specs_cons culetlaw48_awake.ok (specs_cons settings_Steeper.ok (specs_cons settings_Slide.ok specs_nil))), inl_nil, mixed_ok⟩ 40 Tryd.func5 (by decide) rfl no_loops (vs := [.agg ⟨[.int .i64 a0_0, .int .i64 a0_1, .int .i64 a0_2]⟩, .agg ⟨[.int .i64 a1_0, .int .i64 a1_1, .int .i64 a1_2]⟩, .agg ⟨[.int .i64 a2_0, .int .i64 a2_1, .int .i64 a2_2]⟩]) (v := .bool true) ?_ (by simp [okV, Nat.blt]) (clo_spec 8 _ rfl) w ht
  refine (culetlaw48_SettingsOrder.run settings_Steeper settings_Slide a0_0 a0_1 a0_2 a1_0 a1_1 a1_2 a2_0 a2_1 a2_2).trans ?_
  rw [culetlaw48_SettingsOrder.nat]
  have h4 : culetlaw48_SettingsOrder.K settings_Steeper settings_Slide a0_0 a0_1 a0_2 a1_0 a1_1 a1_2 a2_0 a2_1 a2_2 id = true := h
  rw [h4]

/-! ### culet/settings.Reduce (19) -/
def settings_Reduce.K {R : Type} (f_wheel_Mod : Int → (Int)) (a0 : Int) (a1 : Int) (a2 : Int) (k : Int × Int × Int × Int → Option R) : Option R :=
  bif decide (a0 < 0) then
    k (0, 0, 0, 1)
  else
    bif a0 == 0 then
      bif a1 == 0 then
        k (0, 0, 0, 1)
      else
        bif decide (a1 < 0) then
          bif gcd (IntKind.u64.wrap a0) (IntKind.u64.wrap (0 - IntKind.u64.wrap a1)) != 0 then
            bif gcd (IntKind.u64.wrap a0) (IntKind.u64.wrap (0 - IntKind.u64.wrap a1)) != 0 then
              bif decide (IntKind.u64.wrap ((IntKind.u64.wrap a0).tdiv (gcd (IntKind.u64.wrap a0) (IntKind.u64.wrap (0 - IntKind.u64.wrap a1)))) > 1000) then
                k (0, 0, 0, 15)
              else
                bif decide (IntKind.u64.wrap ((IntKind.u64.wrap (0 - IntKind.u64.wrap a1)).tdiv (gcd (IntKind.u64.wrap a0) (IntKind.u64.wrap (0 - IntKind.u64.wrap a1)))) > 1000) then
                  k (0, 0, 0, 15)
                else
                  bif decide (a1 < 0) then
                    bif a0 == 0 then
                      k (IntKind.i64.wrap (IntKind.u64.wrap ((IntKind.u64.wrap a0).tdiv (gcd (IntKind.u64.wrap a0) (IntKind.u64.wrap (0 - IntKind.u64.wrap a1))))), IntKind.i64.wrap (0 - IntKind.i64.wrap (IntKind.u64.wrap ((IntKind.u64.wrap (0 - IntKind.u64.wrap a1)).tdiv (gcd (IntKind.u64.wrap a0) (IntKind.u64.wrap (0 - IntKind.u64.wrap a1)))))), 0, 0)
                    else
                      let t0 := f_wheel_Mod a2
                      k (IntKind.i64.wrap (IntKind.u64.wrap ((IntKind.u64.wrap a0).tdiv (gcd (IntKind.u64.wrap a0) (IntKind.u64.wrap (0 - IntKind.u64.wrap a1))))), IntKind.i64.wrap (0 - IntKind.i64.wrap (IntKind.u64.wrap ((IntKind.u64.wrap (0 - IntKind.u64.wrap a1)).tdiv (gcd (IntKind.u64.wrap a0) (IntKind.u64.wrap (0 - IntKind.u64.wrap a1)))))), t0, 0)
                  else
                    bif a0 == 0 then
                      k (IntKind.i64.wrap (IntKind.u64.wrap ((IntKind.u64.wrap a0).tdiv (gcd (IntKind.u64.wrap a0) (IntKind.u64.wrap (0 - IntKind.u64.wrap a1))))), IntKind.i64.wrap (IntKind.u64.wrap ((IntKind.u64.wrap (0 - IntKind.u64.wrap a1)).tdiv (gcd (IntKind.u64.wrap a0) (IntKind.u64.wrap (0 - IntKind.u64.wrap a1))))), 0, 0)
                    else
                      let t1 := f_wheel_Mod a2
                      k (IntKind.i64.wrap (IntKind.u64.wrap ((IntKind.u64.wrap a0).tdiv (gcd (IntKind.u64.wrap a0) (IntKind.u64.wrap (0 - IntKind.u64.wrap a1))))), IntKind.i64.wrap (IntKind.u64.wrap ((IntKind.u64.wrap (0 - IntKind.u64.wrap a1)).tdiv (gcd (IntKind.u64.wrap a0) (IntKind.u64.wrap (0 - IntKind.u64.wrap a1))))), t1, 0)
            else
              none
          else
            none
        else
          bif gcd (IntKind.u64.wrap a0) (IntKind.u64.wrap a1) != 0 then
            bif gcd (IntKind.u64.wrap a0) (IntKind.u64.wrap a1) != 0 then
              bif decide (IntKind.u64.wrap ((IntKind.u64.wrap a0).tdiv (gcd (IntKind.u64.wrap a0) (IntKind.u64.wrap a1))) > 1000) then
                k (0, 0, 0, 15)
              else
                bif decide (IntKind.u64.wrap ((IntKind.u64.wrap a1).tdiv (gcd (IntKind.u64.wrap a0) (IntKind.u64.wrap a1))) > 1000) then
                  k (0, 0, 0, 15)
                else
                  bif decide (a1 < 0) then
                    bif a0 == 0 then
                      k (IntKind.i64.wrap (IntKind.u64.wrap ((IntKind.u64.wrap a0).tdiv (gcd (IntKind.u64.wrap a0) (IntKind.u64.wrap a1)))), IntKind.i64.wrap (0 - IntKind.i64.wrap (IntKind.u64.wrap ((IntKind.u64.wrap a1).tdiv (gcd (IntKind.u64.wrap a0) (IntKind.u64.wrap a1))))), 0, 0)
                    else
                      let t2 := f_wheel_Mod a2
                      k (IntKind.i64.wrap (IntKind.u64.wrap ((IntKind.u64.wrap a0).tdiv (gcd (IntKind.u64.wrap a0) (IntKind.u64.wrap a1)))), IntKind.i64.wrap (0 - IntKind.i64.wrap (IntKind.u64.wrap ((IntKind.u64.wrap a1).tdiv (gcd (IntKind.u64.wrap a0) (IntKind.u64.wrap a1))))), t2, 0)
                  else
                    bif a0 == 0 then
                      k (IntKind.i64.wrap (IntKind.u64.wrap ((IntKind.u64.wrap a0).tdiv (gcd (IntKind.u64.wrap a0) (IntKind.u64.wrap a1)))), IntKind.i64.wrap (IntKind.u64.wrap ((IntKind.u64.wrap a1).tdiv (gcd (IntKind.u64.wrap a0) (IntKind.u64.wrap a1)))), 0, 0)
                    else
                      let t3 := f_wheel_Mod a2
                      k (IntKind.i64.wrap (IntKind.u64.wrap ((IntKind.u64.wrap a0).tdiv (gcd (IntKind.u64.wrap a0) (IntKind.u64.wrap a1)))), IntKind.i64.wrap (IntKind.u64.wrap ((IntKind.u64.wrap a1).tdiv (gcd (IntKind.u64.wrap a0) (IntKind.u64.wrap a1)))), t3, 0)
            else
              none
          else
            none
    else
      bif decide (a1 < 0) then
        bif gcd (IntKind.u64.wrap a0) (IntKind.u64.wrap (0 - IntKind.u64.wrap a1)) != 0 then
          bif gcd (IntKind.u64.wrap a0) (IntKind.u64.wrap (0 - IntKind.u64.wrap a1)) != 0 then
            bif decide (IntKind.u64.wrap ((IntKind.u64.wrap a0).tdiv (gcd (IntKind.u64.wrap a0) (IntKind.u64.wrap (0 - IntKind.u64.wrap a1)))) > 1000) then
              k (0, 0, 0, 15)
            else
              bif decide (IntKind.u64.wrap ((IntKind.u64.wrap (0 - IntKind.u64.wrap a1)).tdiv (gcd (IntKind.u64.wrap a0) (IntKind.u64.wrap (0 - IntKind.u64.wrap a1)))) > 1000) then
                k (0, 0, 0, 15)
              else
                bif decide (a1 < 0) then
                  bif a0 == 0 then
                    k (IntKind.i64.wrap (IntKind.u64.wrap ((IntKind.u64.wrap a0).tdiv (gcd (IntKind.u64.wrap a0) (IntKind.u64.wrap (0 - IntKind.u64.wrap a1))))), IntKind.i64.wrap (0 - IntKind.i64.wrap (IntKind.u64.wrap ((IntKind.u64.wrap (0 - IntKind.u64.wrap a1)).tdiv (gcd (IntKind.u64.wrap a0) (IntKind.u64.wrap (0 - IntKind.u64.wrap a1)))))), 0, 0)
                  else
                    let t4 := f_wheel_Mod a2
                    k (IntKind.i64.wrap (IntKind.u64.wrap ((IntKind.u64.wrap a0).tdiv (gcd (IntKind.u64.wrap a0) (IntKind.u64.wrap (0 - IntKind.u64.wrap a1))))), IntKind.i64.wrap (0 - IntKind.i64.wrap (IntKind.u64.wrap ((IntKind.u64.wrap (0 - IntKind.u64.wrap a1)).tdiv (gcd (IntKind.u64.wrap a0) (IntKind.u64.wrap (0 - IntKind.u64.wrap a1)))))), t4, 0)
                else
                  bif a0 == 0 then
                    k (IntKind.i64.wrap (IntKind.u64.wrap ((IntKind.u64.wrap a0).tdiv (gcd (IntKind.u64.wrap a0) (IntKind.u64.wrap (0 - IntKind.u64.wrap a1))))), IntKind.i64.wrap (IntKind.u64.wrap ((IntKind.u64.wrap (0 - IntKind.u64.wrap a1)).tdiv (gcd (IntKind.u64.wrap a0) (IntKind.u64.wrap (0 - IntKind.u64.wrap a1))))), 0, 0)
                  else
                    let t5 := f_wheel_Mod a2
                    k (IntKind.i64.wrap (IntKind.u64.wrap ((IntKind.u64.wrap a0).tdiv (gcd (IntKind.u64.wrap a0) (IntKind.u64.wrap (0 - IntKind.u64.wrap a1))))), IntKind.i64.wrap (IntKind.u64.wrap ((IntKind.u64.wrap (0 - IntKind.u64.wrap a1)).tdiv (gcd (IntKind.u64.wrap a0) (IntKind.u64.wrap (0 - IntKind.u64.wrap a1))))), t5, 0)
          else
            none
        else
          none
      else
        bif gcd (IntKind.u64.wrap a0) (IntKind.u64.wrap a1) != 0 then
          bif gcd (IntKind.u64.wrap a0) (IntKind.u64.wrap a1) != 0 then
            bif decide (IntKind.u64.wrap ((IntKind.u64.wrap a0).tdiv (gcd (IntKind.u64.wrap a0) (IntKind.u64.wrap a1))) > 1000) then
              k (0, 0, 0, 15)
            else
              bif decide (IntKind.u64.wrap ((IntKind.u64.wrap a1).tdiv (gcd (IntKind.u64.wrap a0) (IntKind.u64.wrap a1))) > 1000) then
                k (0, 0, 0, 15)
              else
                bif decide (a1 < 0) then
                  bif a0 == 0 then
                    k (IntKind.i64.wrap (IntKind.u64.wrap ((IntKind.u64.wrap a0).tdiv (gcd (IntKind.u64.wrap a0) (IntKind.u64.wrap a1)))), IntKind.i64.wrap (0 - IntKind.i64.wrap (IntKind.u64.wrap ((IntKind.u64.wrap a1).tdiv (gcd (IntKind.u64.wrap a0) (IntKind.u64.wrap a1))))), 0, 0)
                  else
                    let t6 := f_wheel_Mod a2
                    k (IntKind.i64.wrap (IntKind.u64.wrap ((IntKind.u64.wrap a0).tdiv (gcd (IntKind.u64.wrap a0) (IntKind.u64.wrap a1)))), IntKind.i64.wrap (0 - IntKind.i64.wrap (IntKind.u64.wrap ((IntKind.u64.wrap a1).tdiv (gcd (IntKind.u64.wrap a0) (IntKind.u64.wrap a1))))), t6, 0)
                else
                  bif a0 == 0 then
                    k (IntKind.i64.wrap (IntKind.u64.wrap ((IntKind.u64.wrap a0).tdiv (gcd (IntKind.u64.wrap a0) (IntKind.u64.wrap a1)))), IntKind.i64.wrap (IntKind.u64.wrap ((IntKind.u64.wrap a1).tdiv (gcd (IntKind.u64.wrap a0) (IntKind.u64.wrap a1)))), 0, 0)
                  else
                    let t7 := f_wheel_Mod a2
                    k (IntKind.i64.wrap (IntKind.u64.wrap ((IntKind.u64.wrap a0).tdiv (gcd (IntKind.u64.wrap a0) (IntKind.u64.wrap a1)))), IntKind.i64.wrap (IntKind.u64.wrap ((IntKind.u64.wrap a1).tdiv (gcd (IntKind.u64.wrap a0) (IntKind.u64.wrap a1)))), t7, 0)
          else
            none
        else
          none
set_option maxRecDepth 100000 in
theorem settings_Reduce.run (f_wheel_Mod : Int → (Int)) (a0 : Int) (a1 : Int) (a2 : Int) : xfn Tryd.prog ⟨[(35, wheel_Mod.sp f_wheel_Mod), (39, settings_gcd.sp)], []⟩ [] 40 Tryd.f19 [.int .i64 a0, .int .i64 a1, .int .i64 a2] [] = settings_Reduce.K f_wheel_Mod a0 a1 a2 (fun r => some (.tuple ⟨[.agg ⟨[.int .i64 r.1, .int .i64 r.2.1, .int .i64 r.2.2.1]⟩, .int .i64 r.2.2.2]⟩, [])) := by kernel_rfl
def settings_Reduce.o (a0 : Int) (a1 : Int) (a2 : Int) : Option (Int × Int × Int × Int) := settings_Reduce.K wheel_Mod a0 a1 a2 some
def settings_Reduce.pre (a0 : Int) (a1 : Int) (a2 : Int) : Bool := (settings_Reduce.o a0 a1 a2).isSome
def settings_Reduce (a0 : Int) (a1 : Int) (a2 : Int) : Int × Int × Int × Int := (settings_Reduce.o a0 a1 a2).getD default
theorem settings_Reduce.nat {R : Type} (f_wheel_Mod : Int → (Int)) (a0 : Int) (a1 : Int) (a2 : Int) (k : Int × Int × Int × Int → Option R) : settings_Reduce.K f_wheel_Mod a0 a1 a2 k = (settings_Reduce.K f_wheel_Mod a0 a1 a2 some).bind k := by
  simp only [settings_Reduce.K, bcond, Option.bind_some, Option.bind_none]
theorem wu {n : Int} (h : 0 ≤ n) (h' : n ≤ 18446744073709551615) : IntKind.u64.wrap n = n := by
  simp only [IntKind.wrap, IntKind.signed, IntKind.bits, Bool.false_and]
  simp only [Bool.false_eq_true, if_false]
  exact Int.emod_eq_of_lt h (by omega)
theorem wun {n : Int} (h : n < 0) (h' : -9223372036854775808 ≤ n) : IntKind.u64.wrap (0 - IntKind.u64.wrap n) = -n := by
  have e : IntKind.u64.wrap n = n + 18446744073709551616 := by
    simp only [IntKind.wrap, IntKind.signed, IntKind.bits, Bool.false_and]
    simp only [Bool.false_eq_true, if_false]
    omega
  rw [e]
  simp only [IntKind.wrap, IntKind.signed, IntKind.bits, Bool.false_and]
  simp only [Bool.false_eq_true, if_false]
  omega
theorem div_le' {x g : Int} (hx : 0 ≤ x) : x / g ≤ x := by
  by_cases hg : 0 ≤ g
  · exact Int.ediv_le_self _ hx
  · have := Int.ediv_nonpos_of_nonneg_of_nonpos hx (show g ≤ 0 by omega); omega
theorem settings_Reduce.o_eq {h v i : Int} (hh : h ≤ 9223372036854775807) (hv : -9223372036854775808 ≤ v) (hv' : v ≤ 9223372036854775807) : settings_Reduce.o h v i = some (red h v i) := by
  simp only [settings_Reduce.o, settings_Reduce.K, wheel_Mod.eq]
  by_cases h1 : h < 0
  · rw [red, if_pos (Or.inl h1)]; simp [h1]
  by_cases h2 : h = 0 ∧ v = 0
  · obtain ⟨rfl, rfl⟩ := h2; rfl
  have hg := gg_pos h2
  have hga : G.gcd h (ab v) = gg h v := by rw [gcd_eq (by omega) (ab_nonneg v), ab_natAbs]; rfl
  have a0 := ab_nonneg v
  have a1 : ab v ≤ 9223372036854775808 := by unfold ab; omega
  have q1 := div_nonneg' (x := h) (by omega) hg
  have q2 := div_nonneg' a0 hg
  have q3 := div_le' (x := h) (g := gg h v) (by omega)
  have q4 := div_le' (g := gg h v) a0
  have w0 : IntKind.u64.wrap h = h := wu (by omega) (by omega)
  have t1 : h.tdiv (gg h v) = h / gg h v := Int.tdiv_eq_ediv_of_nonneg (by omega)
  have t2 : (ab v).tdiv (gg h v) = ab v / gg h v := Int.tdiv_eq_ediv_of_nonneg a0
  have w1 : IntKind.u64.wrap (h / gg h v) = h / gg h v := wu q1 (by omega)
  have w2 : IntKind.u64.wrap (ab v / gg h v) = ab v / gg h v := wu q2 (by omega)
  have n0 : (gg h v != 0) = true := bne_of (by omega)
  have hr : red h v i = if h / gg h v > 1000 ∨ ab v / gg h v > 1000 then (0, 0, 0, 15) else (h / gg h v, if v < 0 then -(ab v / gg h v) else ab v / gg h v, if h = 0 then 0 else i % 24, 0) := by
    unfold red; rw [if_neg (by omega)]
  rw [hr]
  have hz : h = 0 → (v == 0) = false := fun e => beq_of (by omega)
  have fin : ∀ K : Int, K = ab v → (bif (gcd h K != 0) then bif (gcd h K != 0) then bif decide (IntKind.u64.wrap (h.tdiv (gcd h K)) > 1000) then some (0, 0, 0, 15) else bif decide (IntKind.u64.wrap (K.tdiv (gcd h K)) > 1000) then some (0, 0, 0, 15) else bif decide (v < 0) then bif h == 0 then some (IntKind.i64.wrap (IntKind.u64.wrap (h.tdiv (gcd h K))), IntKind.i64.wrap (0 - IntKind.i64.wrap (IntKind.u64.wrap (K.tdiv (gcd h K)))), 0, 0) else some (IntKind.i64.wrap (IntKind.u64.wrap (h.tdiv (gcd h K))), IntKind.i64.wrap (0 - IntKind.i64.wrap (IntKind.u64.wrap (K.tdiv (gcd h K)))), i % 24, 0) else bif h == 0 then some (IntKind.i64.wrap (IntKind.u64.wrap (h.tdiv (gcd h K))), IntKind.i64.wrap (IntKind.u64.wrap (K.tdiv (gcd h K))), 0, 0) else some (IntKind.i64.wrap (IntKind.u64.wrap (h.tdiv (gcd h K))), IntKind.i64.wrap (IntKind.u64.wrap (K.tdiv (gcd h K))), i % 24, 0) else none else none) = some (if h / gg h v > 1000 ∨ ab v / gg h v > 1000 then (0, 0, 0, 15) else (h / gg h v, if v < 0 then -(ab v / gg h v) else ab v / gg h v, if h = 0 then 0 else i % 24, (0 : Int))) := by
    intro K hK
    subst hK
    simp only [hga, n0, t1, t2, w1, w2, cond_true]
    by_cases c1 : h / gg h v > 1000
    · simp [c1]
    by_cases c2 : ab v / gg h v > 1000
    · simp [c1, c2]
    have x1 : IntKind.i64.wrap (h / gg h v) = h / gg h v := w64 (by omega) (by omega)
    have x2 : IntKind.i64.wrap (ab v / gg h v) = ab v / gg h v := w64 (by omega) (by omega)
    have x3 : IntKind.i64.wrap (0 - ab v / gg h v) = -(ab v / gg h v) := by rw [Int.zero_sub]; exact w64 (by omega) (by omega)
    rw [if_neg (by omega)]
    simp only [decide_eq_false c1, decide_eq_false c2, cond_false, x1, x2, x3]
    by_cases c3 : v < 0 <;> by_cases c4 : h = 0
    · simp only [decide_eq_true c3, cond_true, if_pos c3, if_pos c4, c4, beq_self_eq_true, if_true]
    · simp only [decide_eq_true c3, cond_true, cond_false, if_pos c3, if_neg c4, beq_of c4]
    · simp only [decide_eq_false c3, cond_true, cond_false, if_neg c3, if_pos c4, c4, beq_self_eq_true, if_true]
    · simp only [decide_eq_false c3, cond_false, if_neg c3, if_neg c4, beq_of c4]
  by_cases c3 : v < 0
  · have hK : -v = ab v := by unfold ab; omega
    have := fin (-v) hK
    have wn := wun c3 hv
    simp only [decide_eq_false h1, decide_eq_true c3, cond_false, cond_true, w0, wn] at this ⊢
    by_cases c4 : h = 0
    · have hb := hz c4
      simp only [c4, beq_self_eq_true, hb, cond_true, cond_false] at this ⊢
      exact this
    · simp only [beq_of c4, cond_false] at this ⊢
      exact this
  · have hK : v = ab v := by unfold ab; omega
    have := fin v hK
    have wv : IntKind.u64.wrap v = v := wu (by omega) (by omega)
    simp only [decide_eq_false h1, decide_eq_false c3, cond_false, cond_true, w0, wv] at this ⊢
    by_cases c4 : h = 0
    · have hb := hz c4
      simp only [c4, beq_self_eq_true, hb, cond_true, cond_false] at this ⊢
      exact this
    · simp only [beq_of c4, cond_false] at this ⊢
      exact this
theorem settings_Reduce.at {h v i : Int} (hh : h ≤ 9223372036854775807) (hv : -9223372036854775808 ≤ v) (hv' : v ≤ 9223372036854775807) : settings_Reduce.pre h v i = true ∧ settings_Reduce h v i = red h v i := by
  have := settings_Reduce.o_eq (i := i) hh hv hv'
  exact ⟨by unfold settings_Reduce.pre; rw [this]; rfl, by unfold settings_Reduce; rw [this]; rfl⟩
theorem settings_Reduce.ok : SOK Tryd.prog 19 (settings_Reduce.sp settings_Reduce settings_Reduce.pre) := by
  refine sok_of (E := ⟨[(35, wheel_Mod.sp wheel_Mod), (39, settings_gcd.sp)], []⟩) (L := []) ⟨(specs_cons wheel_Mod.ok (specs_cons settings_gcd.ok specs_nil)), inl_nil, mixed_ok⟩ 40 Tryd.func19 (by decide) rfl no_loops fun vs bl v bl' h => ?_
  unfold settings_Reduce.sp at h
  split at h
  · rename_i a0 a1 a2
    simp only [Option.some.injEq, Prod.mk.injEq] at h
    obtain ⟨hp, rfl, rfl⟩ := h
    have hr := settings_Reduce.run wheel_Mod a0 a1 a2
    rw [settings_Reduce.nat] at hr
    obtain ⟨r, h2⟩ := Option.isSome_iff_exists.1 (hp : (settings_Reduce.o a0 a1 a2).isSome = true)
    have h3 : settings_Reduce a0 a1 a2 = r := by unfold settings_Reduce; rw [h2]; rfl
    have h4 : settings_Reduce.K wheel_Mod a0 a1 a2 some = some r := h2
    rw [h4, Option.bind_some] at hr
    rw [h3]
    exact ⟨hr, by simp [okV, Nat.blt], clo_spec 8 _ (by kernel_rfl), told_blk (by kernel_rfl)⟩
  · cases h

/-! ### culet/culetlaw48.SettingsReduced (6) -/
def culetlaw48_SettingsReduced.K {R : Type} (f_settings_Reduce : Int → Int → Int → (Int × Int × Int × Int)) (p_settings_Reduce : Int → Int → Int → Bool) (f_settings_Valid : Int → Int → Int → (Bool)) (a0 : Int) (a1 : Int) (a2 : Int) (k : (Bool) → Option R) : Option R :=
  bif decide (a0 > 1000000) then
    k (true)
  else
    bif decide (a1 > 1000000) then
      k (true)
    else
      bif decide (a1 < -1000000) then
        k (true)
      else
        let t0 := p_settings_Reduce a0 a1 (IntKind.i64.wrap (1 + (IntKind.i64.wrap a2).tmod 1000))
        bif t0 then
          bif decide (a0 < 0) then
            let t1 := f_settings_Reduce a0 a1 (IntKind.i64.wrap (1 + (IntKind.i64.wrap a2).tmod 1000))
            k (t1.snd.snd.snd == 1)
          else
            let t2 := p_settings_Reduce (IntKind.i64.wrap (a0 * IntKind.i64.wrap (1 + (IntKind.i64.wrap a2).tmod 1000))) (IntKind.i64.wrap (a1 * IntKind.i64.wrap (1 + (IntKind.i64.wrap a2).tmod 1000))) (IntKind.i64.wrap (1 + (IntKind.i64.wrap a2).tmod 1000))
            bif t2 then
              let t3 := f_settings_Reduce a0 a1 (IntKind.i64.wrap (1 + (IntKind.i64.wrap a2).tmod 1000))
              let t4 := f_settings_Reduce (IntKind.i64.wrap (a0 * IntKind.i64.wrap (1 + (IntKind.i64.wrap a2).tmod 1000))) (IntKind.i64.wrap (a1 * IntKind.i64.wrap (1 + (IntKind.i64.wrap a2).tmod 1000))) (IntKind.i64.wrap (1 + (IntKind.i64.wrap a2).tmod 1000))
              bif t3.fst == t4.fst && (t3.snd.fst == t4.snd.fst && t3.snd.snd.fst == t4.snd.snd.fst) then
                bif t3.snd.snd.snd == t4.snd.snd.snd then
                  bif t3.snd.snd.snd != 0 then
                    k (true)
                  else
                    let t5 := f_settings_Valid t3.fst t3.snd.fst t3.snd.snd.fst
                    bif t5 then
                      k (IntKind.i64.wrap (t3.fst * a1) == IntKind.i64.wrap (t3.snd.fst * a0))
                    else
                      k (false)
                else
                  k (false)
              else
                k (false)
            else
              none
        else
          none
set_option maxRecDepth 100000 in
theorem culetlaw48_SettingsReduced.run (f_settings_Reduce : Int → Int → Int → (Int × Int × Int × Int)) (p_settings_Reduce : Int → Int → Int → Bool) (f_settings_Valid : Int → Int → Int → (Bool)) (a0 : Int) (a1 : Int) (a2 : Int) : xfn Tryd.prog ⟨[(10, culetlaw48_awake.sp), (19, settings_Reduce.sp f_settings_Reduce p_settings_Reduce), (20, settings_Valid.sp f_settings_Valid)], []⟩ [] 40 Tryd.f6 [.int .i64 a0, .int .i64 a1, .int .u16 a2] [] = culetlaw48_SettingsReduced.K f_settings_Reduce p_settings_Reduce f_settings_Valid a0 a1 a2 (fun r => some (.bool r, [])) := by kernel_rfl
def culetlaw48_SettingsReduced.o (a0 : Int) (a1 : Int) (a2 : Int) : Option (Bool) := culetlaw48_SettingsReduced.K settings_Reduce settings_Reduce.pre settings_Valid a0 a1 a2 some
def culetlaw48_SettingsReduced.pre (a0 : Int) (a1 : Int) (a2 : Int) : Bool := (culetlaw48_SettingsReduced.o a0 a1 a2).isSome
def culetlaw48_SettingsReduced (a0 : Int) (a1 : Int) (a2 : Int) : Bool := (culetlaw48_SettingsReduced.o a0 a1 a2).getD default
theorem culetlaw48_SettingsReduced.nat {R : Type} (f_settings_Reduce : Int → Int → Int → (Int × Int × Int × Int)) (p_settings_Reduce : Int → Int → Int → Bool) (f_settings_Valid : Int → Int → Int → (Bool)) (a0 : Int) (a1 : Int) (a2 : Int) (k : (Bool) → Option R) : culetlaw48_SettingsReduced.K f_settings_Reduce p_settings_Reduce f_settings_Valid a0 a1 a2 k = (culetlaw48_SettingsReduced.K f_settings_Reduce p_settings_Reduce f_settings_Valid a0 a1 a2 some).bind k := by
  simp only [culetlaw48_SettingsReduced.K, bcond, Option.bind_some, Option.bind_none]
theorem SettingsReduced.law {h v n : Int} (hh : -9223372036854775808 ≤ h ∧ h ≤ 9223372036854775807) (hv : -9223372036854775808 ≤ v ∧ v ≤ 9223372036854775807) (hn : 0 ≤ n ∧ n ≤ 65535) : culetlaw48_SettingsReduced.o h v n = some true := by
  simp only [culetlaw48_SettingsReduced.o, culetlaw48_SettingsReduced.K]
  by_cases c1 : h > 1000000
  · simp [c1]
  by_cases c2 : v > 1000000
  · simp [c1, c2]
  by_cases c3 : v < -1000000
  · simp [c1, c2, c3]
  have m0 : n.tmod 1000 = n % 1000 := Int.tmod_eq_emod_of_nonneg hn.1
  obtain ⟨k, hk, hk1, hk2⟩ : ∃ k, 1 + n % 1000 = k ∧ 1 ≤ k ∧ k ≤ 1000 := ⟨_, rfl, by omega, by omega⟩
  rw [w64 (n := n) (by omega) (by omega), m0, hk, w64 (n := k) (by omega) (by omega)]
  obtain ⟨p1, e1⟩ := settings_Reduce.at (h := h) (v := v) (i := k) (by omega) (by omega) (by omega)
  simp only [decide_eq_false c1, decide_eq_false c2, decide_eq_false c3, cond_false, p1, e1, cond_true]
  by_cases c4 : h < 0
  · have : red h v k = (0, 0, 0, 1) := by unfold red; rw [if_pos (Or.inl c4)]
    simp only [decide_eq_true c4, cond_true, this]; rfl
  have b1 := mul_bnd (x := h) (y := k) (A := 1000000) (B := 1000) (by omega) (by omega) (by omega) (by omega) (by omega) (by omega)
  have b2 := mul_bnd (x := v) (y := k) (A := 1000000) (B := 1000) (by omega) (by omega) (by omega) (by omega) (by omega) (by omega)
  obtain ⟨p2, e2⟩ := settings_Reduce.at (h := h * k) (v := v * k) (i := k) (by omega) (by omega) (by omega)
  rw [red_mul (by omega) (by omega)] at e2
  rw [w64 (n := h * k) (by omega) (by omega), w64 (n := v * k) (by omega) (by omega)]
  simp only [decide_eq_false c4, cond_false, p2, e2, cond_true, beq_self_eq_true, Bool.and_self]
  by_cases he : (red h v k).2.2.2 = 0
  · have er : red h v k = ((red h v k).1, (red h v k).2.1, (red h v k).2.2.1, 0) := by rw [← he]
    obtain ⟨v1, v2, _, _, _⟩ := red_val er
    have vr := val_iff.1 v1
    have b3 := mul_bnd (x := (red h v k).1) (y := v) (A := 1000) (B := 1000000) (by omega) (by omega) (by omega) (by omega) (by omega) (by omega)
    have b4 := mul_bnd (x := (red h v k).2.1) (y := h) (A := 1000) (B := 1000000) (by omega) (by omega) (by omega) (by omega) (by omega) (by omega)
    rw [settings_Valid.eq, v1, he, w64 (by omega) (by omega), w64 (by omega) (by omega), v2]
    simp
  · rw [bne_of he]; rfl
theorem culetlaw48_SettingsReduced.calls (a0 : Int) (a1 : Int) (a2 : Int) (h : culetlaw48_SettingsReduced.o a0 a1 a2 = some true) (w : World) (ht : TabOk w) : Calls Tryd.prog 6 ⟨[.int .i64 a0, .int .i64 a1, .int .u16 a2]⟩ w fun e w' => e = .returned (.bool true) ∧ Below w.heap.size w w' := by
  refine calls_run (E := ⟨[(10, culetlaw48_awake.sp), (19, settings_Reduce.sp settings_Reduce settings_Reduce.pre), (20, settings_Valid.sp settings_Valid)], []⟩) (L := []) ⟨(specs_cons culetlaw48_awake.ok (specs_cons settings_Reduce.ok (specs_cons settings_Valid.ok specs_nil))), inl_nil, mixed_ok⟩ 40 Tryd.func6 (by decide) rfl no_loops (vs := [.int .i64 a0, .int .i64 a1, .int .u16 a2]) (v := .bool true) ?_ (by simp [okV, Nat.blt]) (clo_spec 8 _ rfl) w ht
  refine (culetlaw48_SettingsReduced.run settings_Reduce settings_Reduce.pre settings_Valid a0 a1 a2).trans ?_
  rw [culetlaw48_SettingsReduced.nat]
  have h4 : culetlaw48_SettingsReduced.K settings_Reduce settings_Reduce.pre settings_Valid a0 a1 a2 some = some true := h
  rw [h4]
  rfl

/-! ### culet/culetref48.abs (41) -/
def culetref48_abs.K {R : Type} (a0 : Int) (k : (Int) → R) : R :=
  bif decide (a0 < 0) then
    k (IntKind.i64.wrap (0 - a0))
  else
    k (a0)
set_option maxRecDepth 100000 in
theorem culetref48_abs.run (a0 : Int) : xfn Tryd.prog ⟨[], []⟩ [] 40 Tryd.f41 [.int .i64 a0] [] = culetref48_abs.K a0 (fun r => some (.int .i64 r, [])) := by kernel_rfl
def culetref48_abs (a0 : Int) : Int := culetref48_abs.K a0 id
theorem culetref48_abs.nat {R : Type} (a0 : Int) (k : (Int) → R) : culetref48_abs.K a0 k = k (culetref48_abs.K a0 id) := by
  simp only [culetref48_abs.K, acond k, id_eq]
theorem culetref48_abs.eq {v : Int} (h : -1000 ≤ v) (h' : v ≤ 1000) : culetref48_abs v = ab v := by
  simp only [culetref48_abs, culetref48_abs.K, id_eq]
  rw [w64 (by omega) (by omega)]
  by_cases hv : v < 0 <;> simp [hv, ab] <;> omega
theorem culetref48_abs.ok : SOK Tryd.prog 41 (culetref48_abs.sp culetref48_abs) := by
  refine sok_of (E := ⟨[], []⟩) (L := []) ⟨specs_nil, inl_nil, mixed_ok⟩ 40 Tryd.func41 (by decide) rfl no_loops fun vs bl v bl' h => ?_
  unfold culetref48_abs.sp at h
  split at h
  · rename_i a0
    simp only [Option.some.injEq, Prod.mk.injEq, true_and] at h
    obtain ⟨rfl, rfl⟩ := h
    refine ⟨?_, by simp [okV, Nat.blt], clo_spec 8 _ (by kernel_rfl), told_blk (by kernel_rfl)⟩
    refine (culetref48_abs.run a0).trans ?_
    refine (culetref48_abs.nat a0 _).trans ?_
    kernel_rfl
  · cases h

/-! ### culet/culetref48.Valid (25) -/
def culetref48_Valid.K {R : Type} (f_culetref48_abs : Int → (Int)) (a0_0 : Int) (a0_1 : Int) (a0_2 : Int) (k : (Bool) → R) : R :=
  bif decide (a0_0 ≥ 0) then
    bif decide (a0_0 ≤ 1000) then
      bif decide (a0_1 ≥ -1000) then
        bif decide (a0_1 ≤ 1000) then
          let t0 := f_culetref48_abs a0_1
          bif gcdp a0_0 t0 == 1 then
            bif decide (a0_2 ≥ 0) then
              bif decide (a0_2 < 24) then
                bif a0_0 != 0 then
                  k (true)
                else
                  k (a0_2 == 0)
              else
                k (false)
            else
              k (false)
          else
            k (false)
        else
          k (false)
      else
        k (false)
    else
      k (false)
  else
    k (false)
set_option maxRecDepth 100000 in
theorem culetref48_Valid.run (f_culetref48_abs : Int → (Int)) (a0_0 : Int) (a0_1 : Int) (a0_2 : Int) : xfn Tryd.prog ⟨[(41, culetref48_abs.sp f_culetref48_abs), (42, culetref48_gcd.sp)], []⟩ [] 40 Tryd.f25 [.agg ⟨[.int .i64 a0_0, .int .i64 a0_1, .int .i64 a0_2]⟩] [] = culetref48_Valid.K f_culetref48_abs a0_0 a0_1 a0_2 (fun r => some (.bool r, [])) := by kernel_rfl
def culetref48_Valid (a0_0 : Int) (a0_1 : Int) (a0_2 : Int) : Bool := culetref48_Valid.K culetref48_abs a0_0 a0_1 a0_2 id
theorem culetref48_Valid.nat {R : Type} (f_culetref48_abs : Int → (Int)) (a0_0 : Int) (a0_1 : Int) (a0_2 : Int) (k : (Bool) → R) : culetref48_Valid.K f_culetref48_abs a0_0 a0_1 a0_2 k = k (culetref48_Valid.K f_culetref48_abs a0_0 a0_1 a0_2 id) := by
  simp only [culetref48_Valid.K, acond k, id_eq]
theorem culetref48_Valid.eq (h v i : Int) : culetref48_Valid h v i = val h v i := by
  simp only [culetref48_Valid, culetref48_Valid.K, id_eq]
  by_cases h1 : 0 ≤ h
  rotate_left
  · rw [val_no (by omega)]; simp [h1]
  by_cases h2 : h ≤ 1000
  rotate_left
  · rw [val_no (by omega)]; simp [h1, h2]
  by_cases h3 : -1000 ≤ v
  rotate_left
  · rw [val_no (by omega)]; simp [h1, h2, h3]
  by_cases h4 : v ≤ 1000
  rotate_left
  · rw [val_no (by omega)]; simp [h1, h2, h3, h4]
  have hg : gcdp h (ab v) = (Nat.gcd h.natAbs v.natAbs : Int) := by rw [gcdp_eq h1 (ab_nonneg v), ab_natAbs]
  rw [culetref48_abs.eq h3 h4, hg]
  have e : ((Nat.gcd h.natAbs v.natAbs : Int) == 1) = decide (Nat.gcd h.natAbs v.natAbs = 1) := by
    by_cases hq : Nat.gcd h.natAbs v.natAbs = 1
    · rw [show (Nat.gcd h.natAbs v.natAbs : Int) = 1 by omega, decide_eq_true hq]; rfl
    · rw [decide_eq_false hq]
      first | exact bne_of (by omega) | exact beq_of (by omega)
  rw [e]
  by_cases hq : Nat.gcd h.natAbs v.natAbs = 1 <;> by_cases h5 : 0 ≤ i <;> by_cases h6 : i < 24 <;> by_cases h7 : h = 0 <;> by_cases h8 : i = 0 <;> simp [val, h1, h2, h3, h4, hq, h5, h6, h7, h8] <;> omega
theorem culetref48_Valid.ok : SOK Tryd.prog 25 (culetref48_Valid.sp culetref48_Valid) := by
  refine sok_of (E := ⟨[(41, culetref48_abs.sp culetref48_abs), (42, culetref48_gcd.sp)], []⟩) (L := []) ⟨(specs_cons culetref48_abs.ok (specs_cons culetref48_gcd.ok specs_nil)), inl_nil, mixed_ok⟩ 40 Tryd.func25 (by decide) rfl no_loops fun vs bl v bl' h => ?_
  unfold culetref48_Valid.sp at h
  split at h
  · rename_i a0_0 a0_1 a0_2
    simp only [Option.some.injEq, Prod.mk.injEq, true_and] at h
    obtain ⟨rfl, rfl⟩ := h
    refine ⟨?_, by simp [okV, Nat.blt], clo_spec 8 _ (by kernel_rfl), told_blk (by kernel_rfl)⟩
    refine (culetref48_Valid.run culetref48_abs a0_0 a0_1 a0_2).trans ?_
    refine (culetref48_Valid.nat culetref48_abs a0_0 a0_1 a0_2 _).trans ?_
    kernel_rfl
  · cases h

/-! ### culet/culetref48.Slide (21) -/
def culetref48_Slide.K {R : Type} (f_culetref48_Valid : Int → Int → Int → (Bool)) (f_culetref48_abs : Int → (Int)) (a0_0 : Int) (a0_1 : Int) (a0_2 : Int) (k : Int × Bool × Int → Option R) : Option R :=
  let t0 := f_culetref48_Valid a0_0 a0_1 a0_2
  bif !t0 then
    k (0, false, 1)
  else
    bif a0_1 == 0 then
      k (0, false, 15)
    else
      let t1 := f_culetref48_abs a0_1
      bif t1 != 0 then
        bif t1 != 0 then
          k (IntKind.i64.wrap ((IntKind.i64.wrap (1000 * a0_0)).tdiv t1), (IntKind.i64.wrap (1000 * a0_0)).tmod t1 == 0, 0)
        else
          none
      else
        none
set_option maxRecDepth 100000 in
theorem culetref48_Slide.run (f_culetref48_Valid : Int → Int → Int → (Bool)) (f_culetref48_abs : Int → (Int)) (a0_0 : Int) (a0_1 : Int) (a0_2 : Int) : xfn Tryd.prog ⟨[(25, culetref48_Valid.sp f_culetref48_Valid), (41, culetref48_abs.sp f_culetref48_abs)], []⟩ [] 40 Tryd.f21 [.agg ⟨[.int .i64 a0_0, .int .i64 a0_1, .int .i64 a0_2]⟩] [] = culetref48_Slide.K f_culetref48_Valid f_culetref48_abs a0_0 a0_1 a0_2 (fun r => some (.tuple ⟨[.int .i64 r.1, .bool r.2.1, .int .i64 r.2.2]⟩, [])) := by kernel_rfl
def culetref48_Slide.o (a0_0 : Int) (a0_1 : Int) (a0_2 : Int) : Option (Int × Bool × Int) := culetref48_Slide.K culetref48_Valid culetref48_abs a0_0 a0_1 a0_2 some
def culetref48_Slide.pre (a0_0 : Int) (a0_1 : Int) (a0_2 : Int) : Bool := (culetref48_Slide.o a0_0 a0_1 a0_2).isSome
def culetref48_Slide (a0_0 : Int) (a0_1 : Int) (a0_2 : Int) : Int × Bool × Int := (culetref48_Slide.o a0_0 a0_1 a0_2).getD default
theorem culetref48_Slide.nat {R : Type} (f_culetref48_Valid : Int → Int → Int → (Bool)) (f_culetref48_abs : Int → (Int)) (a0_0 : Int) (a0_1 : Int) (a0_2 : Int) (k : Int × Bool × Int → Option R) : culetref48_Slide.K f_culetref48_Valid f_culetref48_abs a0_0 a0_1 a0_2 k = (culetref48_Slide.K f_culetref48_Valid f_culetref48_abs a0_0 a0_1 a0_2 some).bind k := by
  simp only [culetref48_Slide.K, bcond, Option.bind_some, Option.bind_none]
theorem culetref48_Slide.o_eq (h v i : Int) : culetref48_Slide.o h v i = some (sld h v i) := by
  simp only [culetref48_Slide.o, culetref48_Slide.K, culetref48_Valid.eq, sld]
  cases s : val h v i with
  | false => rfl
  | true =>
    have sv := val_iff.1 s
    by_cases h0 : v = 0
    · subst h0; rfl
    · obtain ⟨a1, a2, a3, a4, a5⟩ := sld_nums s h0
      simp only [culetref48_abs.eq (v := v) (by omega) (by omega), beq_of h0, Bool.not_true, cond_false, cond_true, a1, a2, a3, a4, a5, if_neg h0, beq_dec]
theorem culetref48_Slide.total (h v i : Int) : (culetref48_Slide.o h v i).isSome = true := by rw [culetref48_Slide.o_eq]; rfl
theorem culetref48_Slide.eq (h v i : Int) : culetref48_Slide h v i = sld h v i := by rw [culetref48_Slide, culetref48_Slide.o_eq]; rfl
theorem culetref48_Slide.ok : SOK Tryd.prog 21 (culetref48_Slide.sp culetref48_Slide) := by
  refine sok_of (E := ⟨[(25, culetref48_Valid.sp culetref48_Valid), (41, culetref48_abs.sp culetref48_abs)], []⟩) (L := []) ⟨(specs_cons culetref48_Valid.ok (specs_cons culetref48_abs.ok specs_nil)), inl_nil, mixed_ok⟩ 40 Tryd.func21 (by decide) rfl no_loops fun vs bl v bl' h => ?_
  unfold culetref48_Slide.sp at h
  split at h
  · rename_i a0_0 a0_1 a0_2
    simp only [Option.some.injEq, Prod.mk.injEq] at h
    obtain ⟨hp, rfl, rfl⟩ := h
    have hr := culetref48_Slide.run culetref48_Valid culetref48_abs a0_0 a0_1 a0_2
    rw [culetref48_Slide.nat] at hr
    obtain ⟨r, h2⟩ := Option.isSome_iff_exists.1 (culetref48_Slide.total a0_0 a0_1 a0_2 : (culetref48_Slide.o a0_0 a0_1 a0_2).isSome = true)
    have h3 : culetref48_Slide a0_0 a0_1 a0_2 = r := by unfold culetref48_Slide; rw [h2]; rfl
    have h4 : culetref48_Slide.K culetref48_Valid culetref48_abs a0_0 a0_1 a0_2 some = some r := h2
    rw [h4, Option.bind_some] at hr
    rw [h3]
    exact ⟨hr, by simp [okV, Nat.blt], clo_spec 8 _ (by kernel_rfl), told_blk (by kernel_rfl)⟩
  · cases h

/-! ### culet/settings.FromSlide (22) -/
def settings_FromSlide.K {R : Type} (f_settings_Reduce : Int → Int → Int → (Int × Int × Int × Int)) (p_settings_Reduce : Int → Int → Int → Bool) (a0 : Int) (a1 : Int) (a2 : Bool) (k : Int × Int × Int × Int → Option R) : Option R :=
  bif decide (a0 < 0) then
    k (0, 0, 0, 2)
  else
    bif decide (a0 > 1000000) then
      k (0, 0, 0, 2)
    else
      bif !a2 then
        let t0 := p_settings_Reduce a0 (IntKind.i64.wrap (0 - 1000)) a1
        bif t0 then
          let t1 := f_settings_Reduce a0 (IntKind.i64.wrap (0 - 1000)) a1
          k (t1.fst, t1.snd.fst, t1.snd.snd.fst, t1.snd.snd.snd)
        else
          none
      else
        let t2 := p_settings_Reduce a0 1000 a1
        bif t2 then
          let t3 := f_settings_Reduce a0 1000 a1
          k (t3.fst, t3.snd.fst, t3.snd.snd.fst, t3.snd.snd.snd)
        else
          none
set_option maxRecDepth 100000 in
theorem settings_FromSlide.run (f_settings_Reduce : Int → Int → Int → (Int × Int × Int × Int)) (p_settings_Reduce : Int → Int → Int → Bool) (a0 : Int) (a1 : Int) (a2 : Bool) : xfn Tryd.prog ⟨[(19, settings_Reduce.sp f_settings_Reduce p_settings_Reduce)], []⟩ [] 40 Tryd.f22 [.int .i64 a0, .int .i64 a1, .bool a2] [] = settings_FromSlide.K f_settings_Reduce p_settings_Reduce a0 a1 a2 (fun r => some (.tuple ⟨[.agg ⟨[.int .i64 r.1, .int .i64 r.2.1, .int .i64 r.2.2.1]⟩, .int .i64 r.2.2.2]⟩, [])) := by kernel_rfl
def settings_FromSlide.o (a0 : Int) (a1 : Int) (a2 : Bool) : Option (Int × Int × Int × Int) := settings_FromSlide.K settings_Reduce settings_Reduce.pre a0 a1 a2 some
def settings_FromSlide.pre (a0 : Int) (a1 : Int) (a2 : Bool) : Bool := (settings_FromSlide.o a0 a1 a2).isSome
def settings_FromSlide (a0 : Int) (a1 : Int) (a2 : Bool) : Int × Int × Int × Int := (settings_FromSlide.o a0 a1 a2).getD default
theorem settings_FromSlide.nat {R : Type} (f_settings_Reduce : Int → Int → Int → (Int × Int × Int × Int)) (p_settings_Reduce : Int → Int → Int → Bool) (a0 : Int) (a1 : Int) (a2 : Bool) (k : Int × Int × Int × Int → Option R) : settings_FromSlide.K f_settings_Reduce p_settings_Reduce a0 a1 a2 k = (settings_FromSlide.K f_settings_Reduce p_settings_Reduce a0 a1 a2 some).bind k := by
  simp only [settings_FromSlide.K, bcond, Option.bind_some, Option.bind_none]
def frs (n i : Int) (up : Bool) : Int × Int × Int × Int := if n < 0 ∨ n > 1000000 then (0, 0, 0, 2) else red n (bif up then 1000 else -1000) i
theorem settings_FromSlide.o_eq (n i : Int) (up : Bool) : settings_FromSlide.o n i up = some (frs n i up) := by
  simp only [settings_FromSlide.o, settings_FromSlide.K, frs]
  by_cases h1 : n < 0
  · simp [h1]
  by_cases h2 : n > 1000000
  · simp [h1, h2]
  obtain ⟨p1, e1⟩ := settings_Reduce.at (h := n) (v := 1000) (i := i) (by omega) (by omega) (by omega)
  obtain ⟨p2, e2⟩ := settings_Reduce.at (h := n) (v := -1000) (i := i) (by omega) (by omega) (by omega)
  have w : IntKind.i64.wrap (0 - 1000) = -1000 := rfl
  rw [if_neg (by omega), w]
  simp only [decide_eq_false h1, decide_eq_false h2, cond_false, p1, e1, p2, e2, cond_true]
  cases up <;> rfl
theorem settings_FromSlide.at (n i : Int) (up : Bool) : settings_FromSlide.pre n i up = true ∧ settings_FromSlide n i up = frs n i up := by
  have := settings_FromSlide.o_eq n i up
  exact ⟨by unfold settings_FromSlide.pre; rw [this]; rfl, by unfold settings_FromSlide; rw [this]; rfl⟩
theorem settings_FromSlide.ok : SOK Tryd.prog 22 (settings_FromSlide.sp settings_FromSlide settings_FromSlide.pre) := by
  refine sok_of (E := ⟨[(19, settings_Reduce.sp settings_Reduce settings_Reduce.pre)], []⟩) (L := []) ⟨(specs_cons settings_Reduce.ok specs_nil), inl_nil, mixed_ok⟩ 40 Tryd.func22 (by decide) rfl no_loops fun vs bl v bl' h => ?_
  unfold settings_FromSlide.sp at h
  split at h
  · rename_i a0 a1 a2
    simp only [Option.some.injEq, Prod.mk.injEq] at h
    obtain ⟨hp, rfl, rfl⟩ := h
    have hr := settings_FromSlide.run settings_Reduce settings_Reduce.pre a0 a1 a2
    rw [settings_FromSlide.nat] at hr
    obtain ⟨r, h2⟩ := Option.isSome_iff_exists.1 (hp : (settings_FromSlide.o a0 a1 a2).isSome = true)
    have h3 : settings_FromSlide a0 a1 a2 = r := by unfold settings_FromSlide; rw [h2]; rfl
    have h4 : settings_FromSlide.K settings_Reduce settings_Reduce.pre a0 a1 a2 some = some r := h2
    rw [h4, Option.bind_some] at hr
    rw [h3]
    exact ⟨hr, by simp [okV, Nat.blt], clo_spec 8 _ (by kernel_rfl), told_blk (by kernel_rfl)⟩
  · cases h

/-! ### culet/culetref48.mod (36) -/
def culetref48_mod.K {R : Type} (a0 : Int) (k : (Int) → R) : R :=
  k ((IntKind.i64.wrap (a0.tmod 24 + 24)).tmod 24)
set_option maxRecDepth 100000 in
theorem culetref48_mod.run (a0 : Int) : xfn Tryd.prog ⟨[], []⟩ [] 40 Tryd.f36 [.int .i64 a0] [] = culetref48_mod.K a0 (fun r => some (.int .i64 r, [])) := by kernel_rfl
def culetref48_mod (a0 : Int) : Int := culetref48_mod.K a0 id
theorem culetref48_mod.nat {R : Type} (a0 : Int) (k : (Int) → R) : culetref48_mod.K a0 k = k (culetref48_mod.K a0 id) := by
  simp only [culetref48_mod.K, acond k, id_eq]
theorem culetref48_mod.eq (i : Int) : culetref48_mod i = i % 24 := by
  have hr := tmod24_range i
  simp only [culetref48_mod, culetref48_mod.K, id_eq]
  rw [w64 (by omega) (by omega), Int.tmod_eq_emod_of_nonneg (by omega), ← tmod24 i]
  split <;> omega
theorem culetref48_mod.ok : SOK Tryd.prog 36 (culetref48_mod.sp culetref48_mod) := by
  refine sok_of (E := ⟨[], []⟩) (L := []) ⟨specs_nil, inl_nil, mixed_ok⟩ 40 Tryd.func36 (by decide) rfl no_loops fun vs bl v bl' h => ?_
  unfold culetref48_mod.sp at h
  split at h
  · rename_i a0
    simp only [Option.some.injEq, Prod.mk.injEq, true_and] at h
    obtain ⟨rfl, rfl⟩ := h
    refine ⟨?_, by simp [okV, Nat.blt], clo_spec 8 _ (by kernel_rfl), told_blk (by kernel_rfl)⟩
    refine (culetref48_mod.run a0).trans ?_
    refine (culetref48_mod.nat a0 _).trans ?_
    kernel_rfl
  · cases h

/-! ### culet/culetref48.Reduce (24) -/
def culetref48_Reduce.K {R : Type} (f_culetref48_Valid : Int → Int → Int → (Bool)) (f_culetref48_mod : Int → (Int)) (a0 : Int) (a1 : Int) (a2 : Int) (k : Int × Int × Int × Int → Option R) : Option R :=
  bif decide (a0 < 0) then
    k (0, 0, 0, 1)
  else
    bif a0 == 0 then
      bif a1 == 0 then
        k (0, 0, 0, 1)
      else
        bif decide (a1 < 0) then
          bif decide (gc a1.natAbs a0 a1 < 0) then
            bif decide (IntKind.i64.wrap (0 - gc a1.natAbs a0 a1) < 0) then
              k (0, -1, 0, 0)
            else
              bif IntKind.i64.wrap (0 - gc a1.natAbs a0 a1) != 0 then
                bif IntKind.i64.wrap (0 - gc a1.natAbs a0 a1) != 0 then
                  bif a0 == 0 then
                    let t0 := f_culetref48_Valid (IntKind.i64.wrap (a0.tdiv (IntKind.i64.wrap (0 - gc a1.natAbs a0 a1)))) (IntKind.i64.wrap (a1.tdiv (IntKind.i64.wrap (0 - gc a1.natAbs a0 a1)))) 0
                    bif !t0 then
                      k (0, 0, 0, 15)
                    else
                      k (IntKind.i64.wrap (a0.tdiv (IntKind.i64.wrap (0 - gc a1.natAbs a0 a1))), IntKind.i64.wrap (a1.tdiv (IntKind.i64.wrap (0 - gc a1.natAbs a0 a1))), 0, 0)
                  else
                    let t1 := f_culetref48_mod a2
                    let t2 := f_culetref48_Valid (IntKind.i64.wrap (a0.tdiv (IntKind.i64.wrap (0 - gc a1.natAbs a0 a1)))) (IntKind.i64.wrap (a1.tdiv (IntKind.i64.wrap (0 - gc a1.natAbs a0 a1)))) t1
                    bif !t2 then
                      k (0, 0, 0, 15)
                    else
                      k (IntKind.i64.wrap (a0.tdiv (IntKind.i64.wrap (0 - gc a1.natAbs a0 a1))), IntKind.i64.wrap (a1.tdiv (IntKind.i64.wrap (0 - gc a1.natAbs a0 a1))), t1, 0)
                else
                  none
              else
                none
          else
            bif decide (gc a1.natAbs a0 a1 < 0) then
              k (0, -1, 0, 0)
            else
              bif gc a1.natAbs a0 a1 != 0 then
                bif gc a1.natAbs a0 a1 != 0 then
                  bif a0 == 0 then
                    let t3 := f_culetref48_Valid (IntKind.i64.wrap (a0.tdiv (gc a1.natAbs a0 a1))) (IntKind.i64.wrap (a1.tdiv (gc a1.natAbs a0 a1))) 0
                    bif !t3 then
                      k (0, 0, 0, 15)
                    else
                      k (IntKind.i64.wrap (a0.tdiv (gc a1.natAbs a0 a1)), IntKind.i64.wrap (a1.tdiv (gc a1.natAbs a0 a1)), 0, 0)
                  else
                    let t4 := f_culetref48_mod a2
                    let t5 := f_culetref48_Valid (IntKind.i64.wrap (a0.tdiv (gc a1.natAbs a0 a1))) (IntKind.i64.wrap (a1.tdiv (gc a1.natAbs a0 a1))) t4
                    bif !t5 then
                      k (0, 0, 0, 15)
                    else
                      k (IntKind.i64.wrap (a0.tdiv (gc a1.natAbs a0 a1)), IntKind.i64.wrap (a1.tdiv (gc a1.natAbs a0 a1)), t4, 0)
                else
                  none
              else
                none
        else
          bif decide (gc a1.natAbs a0 a1 < 0) then
            bif decide (IntKind.i64.wrap (0 - gc a1.natAbs a0 a1) < 0) then
              k (0, 1, 0, 0)
            else
              bif IntKind.i64.wrap (0 - gc a1.natAbs a0 a1) != 0 then
                bif IntKind.i64.wrap (0 - gc a1.natAbs a0 a1) != 0 then
                  bif a0 == 0 then
                    let t6 := f_culetref48_Valid (IntKind.i64.wrap (a0.tdiv (IntKind.i64.wrap (0 - gc a1.natAbs a0 a1)))) (IntKind.i64.wrap (a1.tdiv (IntKind.i64.wrap (0 - gc a1.natAbs a0 a1)))) 0
                    bif !t6 then
                      k (0, 0, 0, 15)
                    else
                      k (IntKind.i64.wrap (a0.tdiv (IntKind.i64.wrap (0 - gc a1.natAbs a0 a1))), IntKind.i64.wrap (a1.tdiv (IntKind.i64.wrap (0 - gc a1.natAbs a0 a1))), 0, 0)
                  else
                    let t7 := f_culetref48_mod a2
                    let t8 := f_culetref48_Valid (IntKind.i64.wrap (a0.tdiv (IntKind.i64.wrap (0 - gc a1.natAbs a0 a1)))) (IntKind.i64.wrap (a1.tdiv (IntKind.i64.wrap (0 - gc a1.natAbs a0 a1)))) t7
                    bif !t8 then
                      k (0, 0, 0, 15)
                    else
                      k (IntKind.i64.wrap (a0.tdiv (IntKind.i64.wrap (0 - gc a1.natAbs a0 a1))), IntKind.i64.wrap (a1.tdiv (IntKind.i64.wrap (0 - gc a1.natAbs a0 a1))), t7, 0)
                else
                  none
              else
                none
          else
            bif decide (gc a1.natAbs a0 a1 < 0) then
              k (0, 1, 0, 0)
            else
              bif gc a1.natAbs a0 a1 != 0 then
                bif gc a1.natAbs a0 a1 != 0 then
                  bif a0 == 0 then
                    let t9 := f_culetref48_Valid (IntKind.i64.wrap (a0.tdiv (gc a1.natAbs a0 a1))) (IntKind.i64.wrap (a1.tdiv (gc a1.natAbs a0 a1))) 0
                    bif !t9 then
                      k (0, 0, 0, 15)
                    else
                      k (IntKind.i64.wrap (a0.tdiv (gc a1.natAbs a0 a1)), IntKind.i64.wrap (a1.tdiv (gc a1.natAbs a0 a1)), 0, 0)
                  else
                    let t10 := f_culetref48_mod a2
                    let t11 := f_culetref48_Valid (IntKind.i64.wrap (a0.tdiv (gc a1.natAbs a0 a1))) (IntKind.i64.wrap (a1.tdiv (gc a1.natAbs a0 a1))) t10
                    bif !t11 then
                      k (0, 0, 0, 15)
                    else
                      k (IntKind.i64.wrap (a0.tdiv (gc a1.natAbs a0 a1)), IntKind.i64.wrap (a1.tdiv (gc a1.natAbs a0 a1)), t10, 0)
                else
                  none
              else
                none
    else
      bif decide (a1 < 0) then
        bif decide (gc a1.natAbs a0 a1 < 0) then
          bif decide (IntKind.i64.wrap (0 - gc a1.natAbs a0 a1) < 0) then
            k (0, -1, 0, 0)
          else
            bif IntKind.i64.wrap (0 - gc a1.natAbs a0 a1) != 0 then
              bif IntKind.i64.wrap (0 - gc a1.natAbs a0 a1) != 0 then
                bif a0 == 0 then
                  let t12 := f_culetref48_Valid (IntKind.i64.wrap (a0.tdiv (IntKind.i64.wrap (0 - gc a1.natAbs a0 a1)))) (IntKind.i64.wrap (a1.tdiv (IntKind.i64.wrap (0 - gc a1.natAbs a0 a1)))) 0
                  bif !t12 then
                    k (0, 0, 0, 15)
                  else
                    k (IntKind.i64.wrap (a0.tdiv (IntKind.i64.wrap (0 - gc a1.natAbs a0 a1))), IntKind.i64.wrap (a1.tdiv (IntKind.i64.wrap (0 - gc a1.natAbs a0 a1))), 0, 0)
                else
                  let t13 := f_culetref48_mod a2
                  let t14 := f_culetref48_Valid (IntKind.i64.wrap (a0.tdiv (IntKind.i64.wrap (0 - gc a1.natAbs a0 a1)))) (IntKind.i64.wrap (a1.tdiv (IntKind.i64.wrap (0 - gc a1.natAbs a0 a1)))) t13
                  bif !t14 then
                    k (0, 0, 0, 15)
                  else
                    k (IntKind.i64.wrap (a0.tdiv (IntKind.i64.wrap (0 - gc a1.natAbs a0 a1))), IntKind.i64.wrap (a1.tdiv (IntKind.i64.wrap (0 - gc a1.natAbs a0 a1))), t13, 0)
              else
                none
            else
              none
        else
          bif decide (gc a1.natAbs a0 a1 < 0) then
            k (0, -1, 0, 0)
          else
            bif gc a1.natAbs a0 a1 != 0 then
              bif gc a1.natAbs a0 a1 != 0 then
                bif a0 == 0 then
                  let t15 := f_culetref48_Valid (IntKind.i64.wrap (a0.tdiv (gc a1.natAbs a0 a1))) (IntKind.i64.wrap (a1.tdiv (gc a1.natAbs a0 a1))) 0
                  bif !t15 then
                    k (0, 0, 0, 15)
                  else
                    k (IntKind.i64.wrap (a0.tdiv (gc a1.natAbs a0 a1)), IntKind.i64.wrap (a1.tdiv (gc a1.natAbs a0 a1)), 0, 0)
                else
                  let t16 := f_culetref48_mod a2
                  let t17 := f_culetref48_Valid (IntKind.i64.wrap (a0.tdiv (gc a1.natAbs a0 a1))) (IntKind.i64.wrap (a1.tdiv (gc a1.natAbs a0 a1))) t16
                  bif !t17 then
                    k (0, 0, 0, 15)
                  else
                    k (IntKind.i64.wrap (a0.tdiv (gc a1.natAbs a0 a1)), IntKind.i64.wrap (a1.tdiv (gc a1.natAbs a0 a1)), t16, 0)
              else
                none
            else
              none
      else
        bif decide (gc a1.natAbs a0 a1 < 0) then
          bif decide (IntKind.i64.wrap (0 - gc a1.natAbs a0 a1) < 0) then
            k (0, 1, 0, 0)
          else
            bif IntKind.i64.wrap (0 - gc a1.natAbs a0 a1) != 0 then
              bif IntKind.i64.wrap (0 - gc a1.natAbs a0 a1) != 0 then
                bif a0 == 0 then
                  let t18 := f_culetref48_Valid (IntKind.i64.wrap (a0.tdiv (IntKind.i64.wrap (0 - gc a1.natAbs a0 a1)))) (IntKind.i64.wrap (a1.tdiv (IntKind.i64.wrap (0 - gc a1.natAbs a0 a1)))) 0
                  bif !t18 then
                    k (0, 0, 0, 15)
                  else
                    k (IntKind.i64.wrap (a0.tdiv (IntKind.i64.wrap (0 - gc a1.natAbs a0 a1))), IntKind.i64.wrap (a1.tdiv (IntKind.i64.wrap (0 - gc a1.natAbs a0 a1))), 0, 0)
                else
                  let t19 := f_culetref48_mod a2
                  let t20 := f_culetref48_Valid (IntKind.i64.wrap (a0.tdiv (IntKind.i64.wrap (0 - gc a1.natAbs a0 a1)))) (IntKind.i64.wrap (a1.tdiv (IntKind.i64.wrap (0 - gc a1.natAbs a0 a1)))) t19
                  bif !t20 then
                    k (0, 0, 0, 15)
                  else
                    k (IntKind.i64.wrap (a0.tdiv (IntKind.i64.wrap (0 - gc a1.natAbs a0 a1))), IntKind.i64.wrap (a1.tdiv (IntKind.i64.wrap (0 - gc a1.natAbs a0 a1))), t19, 0)
              else
                none
            else
              none
        else
          bif decide (gc a1.natAbs a0 a1 < 0) then
            k (0, 1, 0, 0)
          else
            bif gc a1.natAbs a0 a1 != 0 then
              bif gc a1.natAbs a0 a1 != 0 then
                bif a0 == 0 then
                  let t21 := f_culetref48_Valid (IntKind.i64.wrap (a0.tdiv (gc a1.natAbs a0 a1))) (IntKind.i64.wrap (a1.tdiv (gc a1.natAbs a0 a1))) 0
                  bif !t21 then
                    k (0, 0, 0, 15)
                  else
                    k (IntKind.i64.wrap (a0.tdiv (gc a1.natAbs a0 a1)), IntKind.i64.wrap (a1.tdiv (gc a1.natAbs a0 a1)), 0, 0)
                else
                  let t22 := f_culetref48_mod a2
                  let t23 := f_culetref48_Valid (IntKind.i64.wrap (a0.tdiv (gc a1.natAbs a0 a1))) (IntKind.i64.wrap (a1.tdiv (gc a1.natAbs a0 a1))) t22
                  bif !t23 then
                    k (0, 0, 0, 15)
                  else
                    k (IntKind.i64.wrap (a0.tdiv (gc a1.natAbs a0 a1)), IntKind.i64.wrap (a1.tdiv (gc a1.natAbs a0 a1)), t22, 0)
              else
                none
            else
              none
set_option maxRecDepth 100000 in
theorem culetref48_Reduce.run (f_culetref48_Valid : Int → Int → Int → (Bool)) (f_culetref48_mod : Int → (Int)) (a0 : Int) (a1 : Int) (a2 : Int) : xfn Tryd.prog ⟨[(25, culetref48_Valid.sp f_culetref48_Valid), (36, culetref48_mod.sp f_culetref48_mod)], []⟩ [(0, rloop.t)] 40 Tryd.f24 [.int .i64 a0, .int .i64 a1, .int .i64 a2] [] = culetref48_Reduce.K f_culetref48_Valid f_culetref48_mod a0 a1 a2 (fun r => some (.tuple ⟨[.agg ⟨[.int .i64 r.1, .int .i64 r.2.1, .int .i64 r.2.2.1]⟩, .int .i64 r.2.2.2]⟩, [])) := by kernel_rfl
def culetref48_Reduce.o (a0 : Int) (a1 : Int) (a2 : Int) : Option (Int × Int × Int × Int) := culetref48_Reduce.K culetref48_Valid culetref48_mod a0 a1 a2 some
def culetref48_Reduce.pre (a0 : Int) (a1 : Int) (a2 : Int) : Bool := (culetref48_Reduce.o a0 a1 a2).isSome
def culetref48_Reduce (a0 : Int) (a1 : Int) (a2 : Int) : Int × Int × Int × Int := (culetref48_Reduce.o a0 a1 a2).getD default
theorem culetref48_Reduce.nat {R : Type} (f_culetref48_Valid : Int → Int → Int → (Bool)) (f_culetref48_mod : Int → (Int)) (a0 : Int) (a1 : Int) (a2 : Int) (k : Int × Int × Int × Int → Option R) : culetref48_Reduce.K f_culetref48_Valid f_culetref48_mod a0 a1 a2 k = (culetref48_Reduce.K f_culetref48_Valid f_culetref48_mod a0 a1 a2 some).bind k := by
  simp only [culetref48_Reduce.K, bcond, Option.bind_some, Option.bind_none]
theorem culetref48_Reduce.o_eq {h v i : Int} (hh : h ≤ 9223372036854775807) (hv : -9223372036854775808 ≤ v) (hv' : v ≤ 9223372036854775807) : culetref48_Reduce.o h v i = some (red h v i) := by
  simp only [culetref48_Reduce.o, culetref48_Reduce.K, culetref48_mod.eq, culetref48_Valid.eq]
  by_cases h1 : h < 0
  · rw [red, if_pos (Or.inl h1)]; simp [h1]
  by_cases h2 : h = 0 ∧ v = 0
  · obtain ⟨rfl, rfl⟩ := h2; rfl
  have hg := gg_pos h2
  have habs : (gc v.natAbs h v).natAbs = (gg h v).natAbs := by rw [gc_abs _ _ _ (Nat.le_refl _)]; rfl
  have hgl : gg h v ≤ 9223372036854775808 := by
    obtain ⟨d1, d2⟩ := gg_dvd h v
    by_cases hz : h = 0
    · have := Int.le_of_dvd (by unfold ab; omega) d2
      unfold ab at this; omega
    · have := Int.le_of_dvd (by omega) d1
      omega
  have a0 := ab_nonneg v
  have a1 : ab v ≤ 9223372036854775808 := by unfold ab; omega
  have q1 := div_nonneg' (x := h) (by omega) hg
  have q2 := div_nonneg' a0 hg
  have q3 := div_le' (x := h) (g := gg h v) (by omega)
  have q4 := div_le' (g := gg h v) a0
  have hr : red h v i = if h / gg h v > 1000 ∨ ab v / gg h v > 1000 then (0, 0, 0, 15) else (h / gg h v, if v < 0 then -(ab v / gg h v) else ab v / gg h v, if h = 0 then 0 else i % 24, 0) := by
    unfold red; rw [if_neg (by omega)]
  have t1 : h.tdiv (gg h v) = h / gg h v := Int.tdiv_eq_ediv_of_nonneg (by omega)
  have t2 : v.tdiv (gg h v) = if v < 0 then -(ab v / gg h v) else ab v / gg h v := by
    by_cases c : v < 0
    · rw [if_pos c]
      have e : v = -(ab v) := by unfold ab; omega
      rw [show v.tdiv (gg h v) = (-(ab v)).tdiv (gg h v) by rw [← e], Int.neg_tdiv, Int.tdiv_eq_ediv_of_nonneg a0]
    · rw [if_neg c]
      have e : v = ab v := by unfold ab; omega
      rw [show v.tdiv (gg h v) = (ab v).tdiv (gg h v) by rw [← e], Int.tdiv_eq_ediv_of_nonneg a0]
  by_cases big : gg h v = 9223372036854775808
  · -- the divisor is 2^63: h is 0
    have hz : h = 0 := by
      by_cases hz : h = 0
      · exact hz
      · have := Int.le_of_dvd (by omega) (gg_dvd h v).1; omega
    subst hz
    have hvm : v = -9223372036854775808 := by
      have : gg 0 v = ab v := by unfold gg ab; simp
      unfold ab at this; omega
    subst hvm
    have gv : gc (-9223372036854775808 : Int).natAbs 0 (-9223372036854775808) = -9223372036854775808 := by
      have : (-9223372036854775808 : Int).natAbs = 9223372036854775807 + 1 := rfl
      rw [this]
      show (if (-9223372036854775808 : Int) = 0 then (0 : Int) else gc 9223372036854775807 (-9223372036854775808) ((0 : Int).tmod (-9223372036854775808))) = _
      rw [if_neg (by omega), Int.zero_tmod, gc_zero]
    rw [hr, gv, big]
    rfl
  have w1 : IntKind.i64.wrap (h / gg h v) = h / gg h v := w64 (by omega) (by omega)
  have w2 : IntKind.i64.wrap (if v < 0 then -(ab v / gg h v) else ab v / gg h v) = if v < 0 then -(ab v / gg h v) else ab v / gg h v := by
    by_cases g1 : gg h v = 1
    · rw [g1]; simp only [Int.ediv_one]
      have : (if v < 0 then -ab v else ab v) = v := by unfold ab; split <;> omega
      rw [this]; exact w64 hv hv'
    · have : ab v / gg h v * 2 ≤ ab v := by
        have m := Int.ediv_mul_le (ab v) (show gg h v ≠ 0 by omega)
        have m2 : ab v / gg h v * 2 ≤ ab v / gg h v * gg h v := Int.mul_le_mul_of_nonneg_left (by omega) q2
        omega
      exact w64 (by split <;> omega) (by split <;> omega)
  -- behind the sign of the divisor
  have hsig : ∀ x : Int, x = gg h v → (x != 0) = true := fun x e => bne_of (by omega)
  have core : ∀ (R : Type) (f : Int → R), (bif decide (gc v.natAbs h v < 0) then f (IntKind.i64.wrap (0 - gc v.natAbs h v)) else f (gc v.natAbs h v)) = f (gg h v) := fun R f => by
    by_cases hs : gc v.natAbs h v < 0
    · rw [decide_eq_true hs, cond_true, w64 (by omega) (by omega)]
      congr 1; omega
    · rw [decide_eq_false hs, cond_false]
      congr 1; omega
  have n0 : (gg h v != 0) = true := bne_of (by omega)
  have ng : decide (gg h v < 0) = false := decide_eq_false (by omega)
  have hval : ∀ j : Int, 0 ≤ j → j < 24 → (h = 0 → j = 0) → val (h / gg h v) (if v < 0 then -(ab v / gg h v) else ab v / gg h v) j = !decide (h / gg h v > 1000 ∨ ab v / gg h v > 1000) := fun j j0 j1 j2 => by
    by_cases c : h / gg h v > 1000 ∨ ab v / gg h v > 1000
    · rw [decide_eq_true c]
      exact val_no (by split <;> omega)
    · rw [decide_eq_false c]
      have hq : h ≠ 0 → h / gg h v ≠ 0 := fun hh e => by
        have m1 : h / gg h v * gg h v = h := Int.ediv_mul_cancel (gg_dvd h v).1
        rw [e] at m1; omega
      exact val_iff.2 ⟨q1, by omega, by split <;> omega, by split <;> omega, red_gcd (by omega) h2 (by split <;> omega), j0, j1, by by_cases hh : h = 0; exact Or.inr (j2 hh); exact Or.inl (hq hh)⟩
  have m0 := Int.emod_nonneg i (show (24 : Int) ≠ 0 by decide)
  have m1 := Int.emod_lt_of_pos i (show (0 : Int) < 24 by decide)
  rw [hr]
  have fin : (bif decide (gg h v < 0) then some ((0 : Int), (if v < 0 then (-1 : Int) else 1), (0 : Int), (0 : Int)) else bif gg h v != 0 then bif gg h v != 0 then bif h == 0 then bif !val (IntKind.i64.wrap (h.tdiv (gg h v))) (IntKind.i64.wrap (v.tdiv (gg h v))) 0 then some (0, 0, 0, 15) else some (IntKind.i64.wrap (h.tdiv (gg h v)), IntKind.i64.wrap (v.tdiv (gg h v)), 0, 0) else bif !val (IntKind.i64.wrap (h.tdiv (gg h v))) (IntKind.i64.wrap (v.tdiv (gg h v))) (i % 24) then some (0, 0, 0, 15) else some (IntKind.i64.wrap (h.tdiv (gg h v)), IntKind.i64.wrap (v.tdiv (gg h v)), i % 24, 0) else none else none) = some (if h / gg h v > 1000 ∨ ab v / gg h v > 1000 then (0, 0, 0, 15) else (h / gg h v, if v < 0 then -(ab v / gg h v) else ab v / gg h v, if h = 0 then 0 else i % 24, 0)) := by
    simp only [ng, n0, t1, t2, w1, w2, cond_true, cond_false]
    by_cases hz : h = 0
    · rw [hval 0 (by omega) (by omega) (fun _ => rfl), Bool.not_not]
      by_cases c : h / gg h v > 1000 ∨ ab v / gg h v > 1000
      · simp only [decide_eq_true c, if_pos c, cond_true]
        simp [hz]
      · simp only [decide_eq_false c, if_neg c, cond_false, if_pos hz]
        simp [hz]
    · rw [hval (i % 24) m0 m1 (fun e => absurd e hz), Bool.not_not]
      by_cases c : h / gg h v > 1000 ∨ ab v / gg h v > 1000
      · simp only [decide_eq_true c, if_pos c, cond_true, beq_of hz, cond_false]
      · simp only [decide_eq_false c, if_neg c, cond_false, if_neg hz, beq_of hz]
  have hz' : h = 0 → (v == 0) = false := fun e => beq_of (by omega)
  have c0 := core (Option (Int × Int × Int × Int)) (fun x => bif decide (x < 0) then some ((0 : Int), (if v < 0 then (-1 : Int) else 1), (0 : Int), (0 : Int)) else bif x != 0 then bif x != 0 then bif h == 0 then bif !val (IntKind.i64.wrap (h.tdiv x)) (IntKind.i64.wrap (v.tdiv x)) 0 then some (0, 0, 0, 15) else some (IntKind.i64.wrap (h.tdiv x), IntKind.i64.wrap (v.tdiv x), 0, 0) else bif !val (IntKind.i64.wrap (h.tdiv x)) (IntKind.i64.wrap (v.tdiv x)) (i % 24) then some (0, 0, 0, 15) else some (IntKind.i64.wrap (h.tdiv x), IntKind.i64.wrap (v.tdiv x), i % 24, 0) else none else none)
  rw [fin] at c0
  rw [← c0]
  by_cases c3 : v < 0
  · simp only [decide_eq_false h1, decide_eq_true c3, cond_false, cond_true, if_pos c3]
    by_cases c4 : h = 0
    · have hb := hz' c4
      simp only [c4, beq_self_eq_true, hb, cond_true, cond_false]
    · simp only [beq_of c4, cond_false]
  · simp only [decide_eq_false h1, decide_eq_false c3, cond_false, cond_true, if_neg c3]
    by_cases c4 : h = 0
    · have hb := hz' c4
      simp only [c4, beq_self_eq_true, hb, cond_true, cond_false]
    · simp only [beq_of c4, cond_false]
theorem culetref48_Reduce.at {h v i : Int} (hh : h ≤ 9223372036854775807) (hv : -9223372036854775808 ≤ v) (hv' : v ≤ 9223372036854775807) : culetref48_Reduce.pre h v i = true ∧ culetref48_Reduce h v i = red h v i := by
  have := culetref48_Reduce.o_eq (i := i) hh hv hv'
  exact ⟨by unfold culetref48_Reduce.pre; rw [this]; rfl, by unfold culetref48_Reduce; rw [this]; rfl⟩
theorem culetref48_Reduce.ok : SOK Tryd.prog 24 (culetref48_Reduce.sp culetref48_Reduce culetref48_Reduce.pre) := by
  refine sok_of (E := ⟨[(25, culetref48_Valid.sp culetref48_Valid), (36, culetref48_mod.sp culetref48_mod)], []⟩) (L := [(0, rloop.t)]) ⟨(specs_cons culetref48_Valid.ok (specs_cons culetref48_mod.ok specs_nil)), inl_nil, mixed_ok⟩ 40 Tryd.func24 (by decide) rfl (one_loop rfl rfl rloop.lok) fun vs bl v bl' h => ?_
  unfold culetref48_Reduce.sp at h
  split at h
  · rename_i a0 a1 a2
    simp only [Option.some.injEq, Prod.mk.injEq] at h
    obtain ⟨hp, rfl, rfl⟩ := h
    have hr := culetref48_Reduce.run culetref48_Valid culetref48_mod a0 a1 a2
    rw [culetref48_Reduce.nat] at hr
    obtain ⟨r, h2⟩ := Option.isSome_iff_exists.1 (hp : (culetref48_Reduce.o a0 a1 a2).isSome = true)
    have h3 : culetref48_Reduce a0 a1 a2 = r := by unfold culetref48_Reduce; rw [h2]; rfl
    have h4 : culetref48_Reduce.K culetref48_Valid culetref48_mod a0 a1 a2 some = some r := h2
    rw [h4, Option.bind_some] at hr
    rw [h3]
    exact ⟨hr, by simp [okV, Nat.blt], clo_spec 8 _ (by kernel_rfl), told_blk (by kernel_rfl)⟩
  · cases h

/-! ### culet/culetref48.FromSlide (23) -/
def culetref48_FromSlide.K {R : Type} (f_culetref48_Reduce : Int → Int → Int → (Int × Int × Int × Int)) (p_culetref48_Reduce : Int → Int → Int → Bool) (a0 : Int) (a1 : Int) (a2 : Bool) (k : Int × Int × Int × Int → Option R) : Option R :=
  bif decide (a0 < 0) then
    k (0, 0, 0, 2)
  else
    bif decide (a0 > 1000000) then
      k (0, 0, 0, 2)
    else
      bif !a2 then
        let t0 := p_culetref48_Reduce a0 (-1000) a1
        bif t0 then
          let t1 := f_culetref48_Reduce a0 (-1000) a1
          k (t1.fst, t1.snd.fst, t1.snd.snd.fst, t1.snd.snd.snd)
        else
          none
      else
        let t2 := p_culetref48_Reduce a0 1000 a1
        bif t2 then
          let t3 := f_culetref48_Reduce a0 1000 a1
          k (t3.fst, t3.snd.fst, t3.snd.snd.fst, t3.snd.snd.snd)
        else
          none
set_option maxRecDepth 100000 in
theorem culetref48_FromSlide.run (f_culetref48_Reduce : Int → Int → Int → (Int × Int × Int × Int)) (p_culetref48_Reduce : Int → Int → Int → Bool) (a0 : Int) (a1 : Int) (a2 : Bool) : xfn Tryd.prog ⟨[(24, culetref48_Reduce.sp f_culetref48_Reduce p_culetref48_Reduce)], []⟩ [] 40 Tryd.f23 [.int .i64 a0, .int .i64 a1, .bool a2] [] = culetref48_FromSlide.K f_culetref48_Reduce p_culetref48_Reduce a0 a1 a2 (fun r => some (.tuple ⟨[.agg ⟨[.int .i64 r.1, .int .i64 r.2.1, .int .i64 r.2.2.1]⟩, .int .i64 r.2.2.2]⟩, [])) := by kernel_rfl
def culetref48_FromSlide.o (a0 : Int) (a1 : Int) (a2 : Bool) : Option (Int × Int × Int × Int) := culetref48_FromSlide.K culetref48_Reduce culetref48_Reduce.pre a0 a1 a2 some
def culetref48_FromSlide.pre (a0 : Int) (a1 : Int) (a2 : Bool) : Bool := (culetref48_FromSlide.o a0 a1 a2).isSome
def culetref48_FromSlide (a0 : Int) (a1 : Int) (a2 : Bool) : Int × Int × Int × Int := (culetref48_FromSlide.o a0 a1 a2).getD default
theorem culetref48_FromSlide.nat {R : Type} (f_culetref48_Reduce : Int → Int → Int → (Int × Int × Int × Int)) (p_culetref48_Reduce : Int → Int → Int → Bool) (a0 : Int) (a1 : Int) (a2 : Bool) (k : Int × Int × Int × Int → Option R) : culetref48_FromSlide.K f_culetref48_Reduce p_culetref48_Reduce a0 a1 a2 k = (culetref48_FromSlide.K f_culetref48_Reduce p_culetref48_Reduce a0 a1 a2 some).bind k := by
  simp only [culetref48_FromSlide.K, bcond, Option.bind_some, Option.bind_none]
theorem culetref48_FromSlide.o_eq (n i : Int) (up : Bool) : culetref48_FromSlide.o n i up = some (frs n i up) := by
  simp only [culetref48_FromSlide.o, culetref48_FromSlide.K, frs]
  by_cases h1 : n < 0
  · simp [h1]
  by_cases h2 : n > 1000000
  · simp [h1, h2]
  obtain ⟨p1, e1⟩ := culetref48_Reduce.at (h := n) (v := 1000) (i := i) (by omega) (by omega) (by omega)
  obtain ⟨p2, e2⟩ := culetref48_Reduce.at (h := n) (v := -1000) (i := i) (by omega) (by omega) (by omega)
  rw [if_neg (by omega)]
  simp only [decide_eq_false h1, decide_eq_false h2, cond_false, p1, e1, p2, e2, cond_true]
  cases up <;> rfl
theorem culetref48_FromSlide.at (n i : Int) (up : Bool) : culetref48_FromSlide.pre n i up = true ∧ culetref48_FromSlide n i up = frs n i up := by
  have := culetref48_FromSlide.o_eq n i up
  exact ⟨by unfold culetref48_FromSlide.pre; rw [this]; rfl, by unfold culetref48_FromSlide; rw [this]; rfl⟩
theorem culetref48_FromSlide.ok : SOK Tryd.prog 23 (culetref48_FromSlide.sp culetref48_FromSlide culetref48_FromSlide.pre) := by
  refine sok_of (E := ⟨[(24, culetref48_Reduce.sp culetref48_Reduce culetref48_Reduce.pre)], []⟩) (L := []) ⟨(specs_cons culetref48_Reduce.ok specs_nil), inl_nil, mixed_ok⟩ 40 Tryd.func23 (by decide) rfl no_loops fun vs bl v bl' h => ?_
  unfold culetref48_FromSlide.sp at h
  split at h
  · rename_i a0 a1 a2
    simp only [Option.some.injEq, Prod.mk.injEq] at h
    obtain ⟨hp, rfl, rfl⟩ := h
    have hr := culetref48_FromSlide.run culetref48_Reduce culetref48_Reduce.pre a0 a1 a2
    rw [culetref48_FromSlide.nat] at hr
    obtain ⟨r, h2⟩ := Option.isSome_iff_exists.1 (hp : (culetref48_FromSlide.o a0 a1 a2).isSome = true)
    have h3 : culetref48_FromSlide a0 a1 a2 = r := by unfold culetref48_FromSlide; rw [h2]; rfl
    have h4 : culetref48_FromSlide.K culetref48_Reduce culetref48_Reduce.pre a0 a1 a2 some = some r := h2
    rw [h4, Option.bind_some] at hr
    rw [h3]
    exact ⟨hr, by simp [okV, Nat.blt], clo_spec 8 _ (by kernel_rfl), told_blk (by kernel_rfl)⟩
  · cases h

/-! ### culet/culetlaw48.SettingsSlide (7) -/
def culetlaw48_SettingsSlide.K {R : Type} (f_settings_Slide : Int → Int → Int → (Int × Bool × Int)) (f_culetref48_Slide : Int → Int → Int → (Int × Bool × Int)) (f_settings_FromSlide : Int → Int → Bool → (Int × Int × Int × Int)) (p_settings_FromSlide : Int → Int → Bool → Bool) (f_culetref48_FromSlide : Int → Int → Bool → (Int × Int × Int × Int)) (p_culetref48_FromSlide : Int → Int → Bool → Bool) (a0_0 : Int) (a0_1 : Int) (a0_2 : Int) (a1 : Int) (a2 : Bool) (k : (Bool) → Option R) : Option R :=
  let t0 := p_settings_FromSlide a1 a0_2 a2
  bif t0 then
    let t1 := p_culetref48_FromSlide a1 a0_2 a2
    bif t1 then
      let t2 := f_settings_Slide a0_0 a0_1 a0_2
      let t3 := f_culetref48_Slide a0_0 a0_1 a0_2
      bif t2.fst != t3.fst then
        k (false)
      else
        bif !t2.snd.fst == t3.snd.fst then
          k (false)
        else
          bif t2.snd.snd != t3.snd.snd then
            k (false)
          else
            let t4 := f_settings_FromSlide a1 a0_2 a2
            let t5 := f_culetref48_FromSlide a1 a0_2 a2
            bif !(t4.fst == t5.fst && (t4.snd.fst == t5.snd.fst && t4.snd.snd.fst == t5.snd.snd.fst)) then
              k (false)
            else
              bif t4.snd.snd.snd != t5.snd.snd.snd then
                k (false)
              else
                bif t4.snd.snd.snd != 0 then
                  k (true)
                else
                  let t6 := f_settings_Slide t4.fst t4.snd.fst t4.snd.snd.fst
                  bif t6.snd.snd == 0 then
                    bif t6.snd.fst then
                      bif t6.fst == a1 then
                        k (decide (t4.snd.fst > 0) == a2)
                      else
                        k (false)
                    else
                      k (false)
                  else
                    k (false)
    else
      none
  else
    none
set_option maxRecDepth 100000 in
theorem culetlaw48_SettingsSlide.run (f_settings_Slide : Int → Int → Int → (Int × Bool × Int)) (f_culetref48_Slide : Int → Int → Int → (Int × Bool × Int)) (f_settings_FromSlide : Int → Int → Bool → (Int × Int × Int × Int)) (p_settings_FromSlide : Int → Int → Bool → Bool) (f_culetref48_FromSlide : Int → Int → Bool → (Int × Int × Int × Int)) (p_culetref48_FromSlide : Int → Int → Bool → Bool) (a0_0 : Int) (a0_1 : Int) (a0_2 : Int) (a1 : Int) (a2 : Bool) : xfn Tryd.prog ⟨[(10, culetlaw48_awake.sp), (18, settings_Slide.sp f_settings_Slide), (21, culetref48_Slide.sp f_culetref48_Slide), (22, settings_FromSlide.sp f_settings_FromSlide p_settings_FromSlide), (23, culetref48_FromSlide.sp f_culetref48_FromSlide p_culetref48_FromSlide)], []⟩ [] 40 Tryd.f7 [.agg ⟨[.int .i64 a0_0, .int .i64 a0_1, .int .i64 a0_2]⟩, .int .i64 a1, .bool a2] [] = culetlaw48_SettingsSlide.K f_settings_Slide f_culetref48_Slide f_settings_FromSlide p_settings_FromSlide f_culetref48_FromSlide p_culetref48_FromSlide a0_0 a0_1 a0_2 a1 a2 (fun r => some (.bool r, [])) := by kernel_rfl
def culetlaw48_SettingsSlide.o (a0_0 : Int) (a0_1 : Int) (a0_2 : Int) (a1 : Int) (a2 : Bool) : Option (Bool) := culetlaw48_SettingsSlide.K settings_Slide culetref48_Slide settings_FromSlide settings_FromSlide.pre culetref48_FromSlide culetref48_FromSlide.pre a0_0 a0_1 a0_2 a1 a2 some
def culetlaw48_SettingsSlide.pre (a0_0 : Int) (a0_1 : Int) (a0_2 : Int) (a1 : Int) (a2 : Bool) : Bool := (culetlaw48_SettingsSlide.o a0_0 a0_1 a0_2 a1 a2).isSome
def culetlaw48_SettingsSlide (a0_0 : Int) (a0_1 : Int) (a0_2 : Int) (a1 : Int) (a2 : Bool) : Bool := (culetlaw48_SettingsSlide.o a0_0 a0_1 a0_2 a1 a2).getD default
theorem culetlaw48_SettingsSlide.nat {R : Type} (f_settings_Slide : Int → Int → Int → (Int × Bool × Int)) (f_culetref48_Slide : Int → Int → Int → (Int × Bool × Int)) (f_settings_FromSlide : Int → Int → Bool → (Int × Int × Int × Int)) (p_settings_FromSlide : Int → Int → Bool → Bool) (f_culetref48_FromSlide : Int → Int → Bool → (Int × Int × Int × Int)) (p_culetref48_FromSlide : Int → Int → Bool → Bool) (a0_0 : Int) (a0_1 : Int) (a0_2 : Int) (a1 : Int) (a2 : Bool) (k : (Bool) → Option R) : culetlaw48_SettingsSlide.K f_settings_Slide f_culetref48_Slide f_settings_FromSlide p_settings_FromSlide f_culetref48_FromSlide p_culetref48_FromSlide a0_0 a0_1 a0_2 a1 a2 k = (culetlaw48_SettingsSlide.K f_settings_Slide f_culetref48_Slide f_settings_FromSlide p_settings_FromSlide f_culetref48_FromSlide p_culetref48_FromSlide a0_0 a0_1 a0_2 a1 a2 some).bind k := by
  simp only [culetlaw48_SettingsSlide.K, bcond, Option.bind_some, Option.bind_none]
theorem SettingsSlide.law (h v i n : Int) (up : Bool) : culetlaw48_SettingsSlide.o h v i n up = some true := by
  obtain ⟨p1, e1⟩ := settings_FromSlide.at n i up
  obtain ⟨p2, e2⟩ := culetref48_FromSlide.at n i up
  simp only [culetlaw48_SettingsSlide.o, culetlaw48_SettingsSlide.K, settings_Slide.eq, culetref48_Slide.eq, p1, e1, p2, e2, bne_self_eq_false, beq_self_eq_true, Bool.and_self, Bool.not_true, cond_true, cond_false]
  by_cases he : (frs n i up).2.2.2 = 0
  · have er : frs n i up = ((frs n i up).1, (frs n i up).2.1, (frs n i up).2.2.1, 0) := by rw [← he]
    have hn : ¬ (n < 0 ∨ n > 1000000) := fun hn => by rw [frs, if_pos hn] at he; exact absurd he (by decide)
    have er2 := er
    rw [show frs n i up = red n (bif up then 1000 else -1000) i by rw [frs, if_neg hn]] at er2
    obtain ⟨s1, s2⟩ := slide_law (by omega) (by cases up; exact Or.inr rfl; exact Or.inl rfl) er2
    rw [← show frs n i up = red n (bif up then 1000 else -1000) i by rw [frs, if_neg hn]] at s1 s2
    rw [s1, he]
    cases up
    · have : ¬ (0 < (frs n i false).2.1) := fun h => absurd (s2.1 h) (by decide)
      simp [this]
    · have : 0 < (frs n i true).2.1 := s2.2 rfl
      simp [this]
  · rw [bne_of he]; rfl
theorem culetlaw48_SettingsSlide.calls (a0_0 : Int) (a0_1 : Int) (a0_2 : Int) (a1 : Int) (a2 : Bool) (h : culetlaw48_SettingsSlide.o a0_0 a0_1 a0_2 a1 a2 = some true) (w : World) (ht : TabOk w) : Calls Tryd.prog 7 ⟨[.agg ⟨[.int .i64 a0_0, .int .i64 a0_1, .int .i64 a0_2]⟩, .int .i64 a1, .bool a2]⟩ w fun e w' => e = .returned (.bool true) ∧ Below w.heap.size w w' := by
  refine calls_run (E := ⟨[(10, culetlaw48_awake.sp), (18, settings_Slide.sp settings_Slide), (21, culetref48_Slide.sp culetref48_Slide), (22, settings_FromSlide.sp settings_FromSlide settings_FromSlide.pre), (23, culetref48_FromSlide.sp culetref48_FromSlide culetref48_FromSlide.pre)], []⟩) (L := []) ⟨(specs_cons culetlaw48_awake.ok (specs_cons settings_Slide.ok (specs_cons culetref48_Slide.ok (specs_cons settings_FromSlide.ok (specs_cons culetref48_FromSlide.ok specs_nil))))), inl_nil, mixed_ok⟩ 40 Tryd.func7 (by decide) rfl no_loops (vs := [.agg ⟨[.int .i64 a0_0, .int .i64 a0_1, .int .i64 a0_2]⟩, .int .i64 a1, .bool a2]) (v := .bool true) ?_ (by simp [okV, Nat.blt]) (clo_spec 8 _ rfl) w ht
  refine (culetlaw48_SettingsSlide.run settings_Slide culetref48_Slide settings_FromSlide settings_FromSlide.pre culetref48_FromSlide culetref48_FromSlide.pre a0_0 a0_1 a0_2 a1 a2).trans ?_
  rw [culetlaw48_SettingsSlide.nat]
  have h4 : culetlaw48_SettingsSlide.K settings_Slide culetref48_Slide settings_FromSlide settings_FromSlide.pre culetref48_FromSlide culetref48_FromSlide.pre a0_0 a0_1 a0_2 a1 a2 some = some true := h
  rw [h4]
  rfl

/-! ### culet/settings.Side (26) -/
def settings_Side.K {R : Type} (f_settings_Valid : Int → Int → Int → (Bool)) (a0_0 : Int) (a0_1 : Int) (a0_2 : Int) (k : (Int) → R) : R :=
  let t0 := f_settings_Valid a0_0 a0_1 a0_2
  bif !t0 then
    k (0)
  else
    bif a0_0 == 0 then
      bif decide (a0_1 > 0) then
        k (1)
      else
        bif a0_0 == 0 then
          k (5)
        else
          bif a0_1 == 0 then
            k (3)
          else
            bif decide (a0_1 > 0) then
              k (2)
            else
              k (4)
    else
      bif a0_0 == 0 then
        k (5)
      else
        bif a0_1 == 0 then
          k (3)
        else
          bif decide (a0_1 > 0) then
            k (2)
          else
            k (4)
set_option maxRecDepth 100000 in
theorem settings_Side.run (f_settings_Valid : Int → Int → Int → (Bool)) (a0_0 : Int) (a0_1 : Int) (a0_2 : Int) : xfn Tryd.prog ⟨[(20, settings_Valid.sp f_settings_Valid)], []⟩ [] 40 Tryd.f26 [.agg ⟨[.int .i64 a0_0, .int .i64 a0_1, .int .i64 a0_2]⟩] [] = settings_Side.K f_settings_Valid a0_0 a0_1 a0_2 (fun r => some (.int .i64 r, [])) := by kernel_rfl
def settings_Side (a0_0 : Int) (a0_1 : Int) (a0_2 : Int) : Int := settings_Side.K settings_Valid a0_0 a0_1 a0_2 id
theorem settings_Side.nat {R : Type} (f_settings_Valid : Int → Int → Int → (Bool)) (a0_0 : Int) (a0_1 : Int) (a0_2 : Int) (k : (Int) → R) : settings_Side.K f_settings_Valid a0_0 a0_1 a0_2 k = k (settings_Side.K f_settings_Valid a0_0 a0_1 a0_2 id) := by
  simp only [settings_Side.K, acond k, id_eq]
def sid (h v i : Int) : Int := bif val h v i then (if h = 0 then (if v > 0 then 1 else 5) else if v = 0 then 3 else if v > 0 then 2 else 4) else 0
theorem settings_Side.eq (h v i : Int) : settings_Side h v i = sid h v i := by
  simp only [settings_Side, settings_Side.K, id_eq, settings_Valid.eq, sid]
  cases val h v i with
  | false => rfl
  | true =>
    by_cases h1 : h = 0
    · by_cases h2 : v > 0 <;> simp [h1, h2]
    · by_cases h3 : v = 0
      · subst h3; simp [beq_of h1, h1]
      · by_cases h2 : v > 0 <;> simp [beq_of h1, beq_of h3, h1, h2, h3]
theorem settings_Side.ok : SOK Tryd.prog 26 (settings_Side.sp settings_Side) := by
  refine sok_of (E := ⟨[(20, settings_Valid.sp settings_Valid)], []⟩) (L := []) ⟨(specs_cons settings_Valid.ok specs_nil), inl_nil, mixed_ok⟩ 40 Tryd.func26 (by decide) rfl no_loops fun vs bl v bl' h => ?_
  unfold settings_Side.sp at h
  split at h
  · rename_i a0_0 a0_1 a0_2
    simp only [Option.some.injEq, Prod.mk.injEq, true_and] at h
    obtain ⟨rfl, rfl⟩ := h
    refine ⟨?_, by simp [okV, Nat.blt], clo_spec 8 _ (by kernel_rfl), told_blk (by kernel_rfl)⟩
    refine (settings_Side.run settings_Valid a0_0 a0_1 a0_2).trans ?_
    refine (settings_Side.nat settings_Valid a0_0 a0_1 a0_2 _).trans ?_
    kernel_rfl
  · cases h

/-! ### culet/culetref48.Side (27) -/
def culetref48_Side.K {R : Type} (f_culetref48_Valid : Int → Int → Int → (Bool)) (a0_0 : Int) (a0_1 : Int) (a0_2 : Int) (k : (Int) → R) : R :=
  let t0 := f_culetref48_Valid a0_0 a0_1 a0_2
  bif !t0 then
    k (0)
  else
    bif a0_0 == 0 then
      bif decide (a0_1 > 0) then
        k (1)
      else
        bif a0_0 == 0 then
          k (5)
        else
          bif a0_1 == 0 then
            k (3)
          else
            bif decide (a0_1 > 0) then
              k (2)
            else
              k (4)
    else
      bif a0_0 == 0 then
        k (5)
      else
        bif a0_1 == 0 then
          k (3)
        else
          bif decide (a0_1 > 0) then
            k (2)
          else
            k (4)
set_option maxRecDepth 100000 in
theorem culetref48_Side.run (f_culetref48_Valid : Int → Int → Int → (Bool)) (a0_0 : Int) (a0_1 : Int) (a0_2 : Int) : xfn Tryd.prog ⟨[(25, culetref48_Valid.sp f_culetref48_Valid)], []⟩ [] 40 Tryd.f27 [.agg ⟨[.int .i64 a0_0, .int .i64 a0_1, .int .i64 a0_2]⟩] [] = culetref48_Side.K f_culetref48_Valid a0_0 a0_1 a0_2 (fun r => some (.int .i64 r, [])) := by kernel_rfl
def culetref48_Side (a0_0 : Int) (a0_1 : Int) (a0_2 : Int) : Int := culetref48_Side.K culetref48_Valid a0_0 a0_1 a0_2 id
theorem culetref48_Side.nat {R : Type} (f_culetref48_Valid : Int → Int → Int → (Bool)) (a0_0 : Int) (a0_1 : Int) (a0_2 : Int) (k : (Int) → R) : culetref48_Side.K f_culetref48_Valid a0_0 a0_1 a0_2 k = k (culetref48_Side.K f_culetref48_Valid a0_0 a0_1 a0_2 id) := by
  simp only [culetref48_Side.K, acond k, id_eq]
theorem culetref48_Side.eq (h v i : Int) : culetref48_Side h v i = sid h v i := by
  simp only [culetref48_Side, culetref48_Side.K, id_eq, culetref48_Valid.eq, sid]
  cases val h v i with
  | false => rfl
  | true =>
    by_cases h1 : h = 0
    · by_cases h2 : v > 0 <;> simp [h1, h2]
    · by_cases h3 : v = 0
      · subst h3; simp [beq_of h1, h1]
      · by_cases h2 : v > 0 <;> simp [beq_of h1, beq_of h3, h1, h2, h3]
theorem culetref48_Side.ok : SOK Tryd.prog 27 (culetref48_Side.sp culetref48_Side) := by
  refine sok_of (E := ⟨[(25, culetref48_Valid.sp culetref48_Valid)], []⟩) (L := []) ⟨(specs_cons culetref48_Valid.ok specs_nil), inl_nil, mixed_ok⟩ 40 Tryd.func27 (by decide) rfl no_loops fun vs bl v bl' h => ?_
  unfold culetref48_Side.sp at h
  split at h
  · rename_i a0_0 a0_1 a0_2
    simp only [Option.some.injEq, Prod.mk.injEq, true_and] at h
    obtain ⟨rfl, rfl⟩ := h
    refine ⟨?_, by simp [okV, Nat.blt], clo_spec 8 _ (by kernel_rfl), told_blk (by kernel_rfl)⟩
    refine (culetref48_Side.run culetref48_Valid a0_0 a0_1 a0_2).trans ?_
    refine (culetref48_Side.nat culetref48_Valid a0_0 a0_1 a0_2 _).trans ?_
    kernel_rfl
  · cases h

/-! ### culet/culetref48.Steeper (28) -/
def culetref48_Steeper.K {R : Type} (f_culetref48_Valid : Int → Int → Int → (Bool)) (f_culetref48_abs : Int → (Int)) (a0_0 : Int) (a0_1 : Int) (a0_2 : Int) (a1_0 : Int) (a1_1 : Int) (a1_2 : Int) (k : (Bool) → R) : R :=
  let t0 := f_culetref48_Valid a0_0 a0_1 a0_2
  bif t0 then
    let t1 := f_culetref48_Valid a1_0 a1_1 a1_2
    bif t1 then
      let t2 := f_culetref48_abs a1_1
      let t3 := f_culetref48_abs a0_1
      k (decide (IntKind.i64.wrap (a0_0 * t2) > IntKind.i64.wrap (a1_0 * t3)))
    else
      k (false)
  else
    k (false)
set_option maxRecDepth 100000 in
theorem culetref48_Steeper.run (f_culetref48_Valid : Int → Int → Int → (Bool)) (f_culetref48_abs : Int → (Int)) (a0_0 : Int) (a0_1 : Int) (a0_2 : Int) (a1_0 : Int) (a1_1 : Int) (a1_2 : Int) : xfn Tryd.prog ⟨[(25, culetref48_Valid.sp f_culetref48_Valid), (41, culetref48_abs.sp f_culetref48_abs)], []⟩ [] 40 Tryd.f28 [.agg ⟨[.int .i64 a0_0, .int .i64 a0_1, .int .i64 a0_2]⟩, .agg ⟨[.int .i64 a1_0, .int .i64 a1_1, .int .i64 a1_2]⟩] [] = culetref48_Steeper.K f_culetref48_Valid f_culetref48_abs a0_0 a0_1 a0_2 a1_0 a1_1 a1_2 (fun r => some (.bool r, [])) := by kernel_rfl
def culetref48_Steeper (a0_0 : Int) (a0_1 : Int) (a0_2 : Int) (a1_0 : Int) (a1_1 : Int) (a1_2 : Int) : Bool := culetref48_Steeper.K culetref48_Valid culetref48_abs a0_0 a0_1 a0_2 a1_0 a1_1 a1_2 id
theorem culetref48_Steeper.nat {R : Type} (f_culetref48_Valid : Int → Int → Int → (Bool)) (f_culetref48_abs : Int → (Int)) (a0_0 : Int) (a0_1 : Int) (a0_2 : Int) (a1_0 : Int) (a1_1 : Int) (a1_2 : Int) (k : (Bool) → R) : culetref48_Steeper.K f_culetref48_Valid f_culetref48_abs a0_0 a0_1 a0_2 a1_0 a1_1 a1_2 k = k (culetref48_Steeper.K f_culetref48_Valid f_culetref48_abs a0_0 a0_1 a0_2 a1_0 a1_1 a1_2 id) := by
  simp only [culetref48_Steeper.K, acond k, id_eq]
theorem culetref48_Steeper.eq (h v i h' v' i' : Int) : culetref48_Steeper h v i h' v' i' = stp h v i h' v' i' := by
  simp only [culetref48_Steeper, culetref48_Steeper.K, id_eq, culetref48_Valid.eq, stp]
  cases s : val h v i with
  | false => rfl
  | true => cases t : val h' v' i' with
    | false => rfl
    | true =>
      have sv := val_iff.1 s
      have tv := val_iff.1 t
      have r1 := hab_range (h := h) (v := v') (by omega) (by omega) (by omega) (by omega)
      have r2 := hab_range (h := h') (v := v) (by omega) (by omega) (by omega) (by omega)
      simp only [cond_true, culetref48_abs.eq (v := v') (by omega) (by omega), culetref48_abs.eq (v := v) (by omega) (by omega), Bool.true_and]
      rw [w64 (by omega) (by omega), w64 (by omega) (by omega)]
theorem culetref48_Steeper.ok : SOK Tryd.prog 28 (culetref48_Steeper.sp culetref48_Steeper) := by
  refine sok_of (E := ⟨[(25, culetref48_Valid.sp culetref48_Valid), (41, culetref48_abs.sp culetref48_abs)], []⟩) (L := []) ⟨(specs_cons culetref48_Valid.ok (specs_cons culetref48_abs.ok specs_nil)), inl_nil, mixed_ok⟩ 40 Tryd.func28 (by decide) rfl no_loops fun vs bl v bl' h => ?_
  unfold culetref48_Steeper.sp at h
  split at h
  · rename_i a0_0 a0_1 a0_2 a1_0 a1_1 a1_2
    simp only [Option.some.injEq, Prod.mk.injEq, true_and] at h
    obtain ⟨rfl, rfl⟩ := h
    refine ⟨?_, by simp [okV, Nat.blt], clo_spec 8 _ (by kernel_rfl), told_blk (by kernel_rfl)⟩
    refine (culetref48_Steeper.run culetref48_Valid culetref48_abs a0_0 a0_1 a0_2 a1_0 a1_1 a1_2).trans ?_
    refine (culetref48_Steeper.nat culetref48_Valid culetref48_abs a0_0 a0_1 a0_2 a1_0 a1_1 a1_2 _).trans ?_
    kernel_rfl
  · cases h

end Go.Proofs.YtgfjidlckocflaaDoor.G
