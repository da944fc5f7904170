/- The functions, their runs and their contracts. WRITTEN BY gen.py of this repo. -/
import Derived.Test.YtgfjidlckocflaaDoorS
import Derived.Test.YtgfjidlckocflaaDoorM
import Derived.Test.YtgfjidlckocflaaDoorIv
import Derived.Test.YtgfjidlckocflaaDoorSt
import Derived.Test.YtgfjidlckocflaaDoorF0
import Derived.Test.YtgfjidlckocflaaDoorClo
import Derived.Test.YtgfjidlckocflaaDoorGcd48
namespace Go.Proofs.YtgfjidlckocflaaDoor.G
open Go Go.Proofs Go.RowKit RX
set_option linter.unusedVariables false
set_option linter.unusedSimpArgs false
/-! ### culet/culetlaw48.SettingsForms (8) -/
def culetlaw48_SettingsForms.K {R : Type} (f_settings_Steeper : Int → Int → Int → Int → Int → Int → (Bool)) (f_settings_Reduce : Int → Int → Int → (Int × Int × Int × Int)) (p_settings_Reduce : Int → Int → Int → Bool) (f_settings_Valid : Int → Int → Int → (Bool)) (f_culetref48_Reduce : Int → Int → Int → (Int × Int × Int × Int)) (p_culetref48_Reduce : Int → Int → Int → Bool) (f_culetref48_Valid : Int → Int → Int → (Bool)) (f_settings_Side : Int → Int → Int → (Int)) (f_culetref48_Side : Int → Int → Int → (Int)) (f_culetref48_Steeper : Int → Int → Int → Int → Int → Int → (Bool)) (a0_0 : Int) (a0_1 : Int) (a0_2 : Int) (a1_0 : Int) (a1_1 : Int) (a1_2 : Int) (k : (Bool) → Option R) : Option R :=
  let t0 := p_settings_Reduce a0_0 a0_1 a0_2
  bif t0 then
    let t1 := p_culetref48_Reduce a0_0 a0_1 a0_2
    bif t1 then
      let t2 := f_settings_Valid a0_0 a0_1 a0_2
      let t3 := f_culetref48_Valid a0_0 a0_1 a0_2
      bif t2 == t3 then
        let t4 := f_settings_Side a0_0 a0_1 a0_2
        let t5 := f_culetref48_Side a0_0 a0_1 a0_2
        bif t4 == t5 then
          let t6 := f_settings_Steeper a0_0 a0_1 a0_2 a1_0 a1_1 a1_2
          let t7 := f_culetref48_Steeper a0_0 a0_1 a0_2 a1_0 a1_1 a1_2
          bif t6 == t7 then
            let t8 := f_settings_Reduce a0_0 a0_1 a0_2
            let t9 := f_culetref48_Reduce a0_0 a0_1 a0_2
            bif t8.fst == t9.fst && (t8.snd.fst == t9.snd.fst && t8.snd.snd.fst == t9.snd.snd.fst) then
              k (t8.snd.snd.snd == t9.snd.snd.snd)
            else
              k (false)
          else
            k (false)
        else
          k (false)
      else
        k (false)
    else
      none
  else
    none
set_option maxRecDepth 100000 in
theorem culetlaw48_SettingsForms.run (f_settings_Steeper : Int → Int → Int → Int → Int → Int → (Bool)) (f_settings_Reduce : Int → Int → Int → (Int × Int × Int × Int)) (p_settings_Reduce : Int → Int → Int → Bool) (f_settings_Valid : Int → Int → Int → (Bool)) (f_culetref48_Reduce : Int → Int → Int → (Int × Int × Int × Int)) (p_culetref48_Reduce : Int → Int → Int → Bool) (f_culetref48_Valid : Int → Int → Int → (Bool)) (f_settings_Side : Int → Int → Int → (Int)) (f_culetref48_Side : Int → Int → Int → (Int)) (f_culetref48_Steeper : Int → Int → Int → Int → Int → Int → (Bool)) (a0_0 : Int) (a0_1 : Int) (a0_2 : Int) (a1_0 : Int) (a1_1 : Int) (a1_2 : Int) : xfn Tryd.prog ⟨[(10, culetlaw48_awake.sp), (17, settings_Steeper.sp f_settings_Steeper), (19, settings_Reduce.sp f_settings_Reduce p_settings_Reduce), (20, settings_Valid.sp f_settings_Valid), (24, culetref48_Reduce.sp f_culetref48_Reduce p_culetref48_Reduce), (25, culetref48_Valid.sp f_culetref48_Valid), (26, settings_Side.sp f_settings_Side), (27, culetref48_Side.sp f_culetref48_Side), (28, culetref48_Steeper.sp f_culetref48_Steeper)], []⟩ [] 40 Tryd.f8 [.agg ⟨[.int .i64 a0_0, .int .i64 a0_1, .int .i64 a0_2]⟩, .agg ⟨[.int .i64 a1_0, .int .i64 a1_1, .int .i64 a1_2]⟩] [] = culetlaw48_SettingsForms.K f_settings_Steeper f_settings_Reduce p_settings_Reduce f_settings_Valid f_culetref48_Reduce p_culetref48_Reduce f_culetref48_Valid f_settings_Side f_culetref48_Side f_culetref48_Steeper a0_0 a0_1 a0_2 a1_0 a1_1 a1_2 (fun r => some (.bool r, [])) := by kernel_rfl
def culetlaw48_SettingsForms.o (a0_0 : Int) (a0_1 : Int) (a0_2 : Int) (a1_0 : Int) (a1_1 : Int) (a1_2 : Int) : Option (Bool) := culetlaw48_SettingsForms.K settings_Steeper settings_Reduce settings_Reduce.pre settings_Valid culetref48_Reduce culetref48_Reduce.pre culetref48_Valid settings_Side culetref48_Side culetref48_Steeper a0_0 a0_1 a0_2 a1_0 a1_1 a1_2 some
def culetlaw48_SettingsForms.pre (a0_0 : Int) (a0_1 : Int) (a0_2 : Int) (a1_0 : Int) (a1_1 : Int) (a1_2 : Int) : Bool := (culetlaw48_SettingsForms.o a0_0 a0_1 a0_2 a1_0 a1_1 a1_2).isSome
def culetlaw48_SettingsForms (a0_0 : Int) (a0_1 : Int) (a0_2 : Int) (a1_0 : Int) (a1_1 : Int) (a1_2 : Int) : Bool := (culetlaw48_SettingsForms.o a0_0 a0_1 a0_2 a1_0 a1_1 a1_2).getD default
theorem culetlaw48_SettingsForms.nat {R : Type} (f_settings_Steeper : Int → Int → Int → Int → Int → Int → (Bool)) (f_settings_Reduce : Int → Int → Int → (Int × Int × Int × Int)) (p_settings_Reduce : Int → Int → Int → Bool) (f_settings_Valid : Int → Int → Int → (Bool)) (f_culetref48_Reduce : Int → Int → Int → (Int × Int × Int × Int)) (p_culetref48_Reduce : Int → Int → Int → Bool) (f_culetref48_Valid : Int → Int → Int → (Bool)) (f_settings_Side : Int → Int → Int → (Int)) (f_culetref48_Side : Int → Int → Int → (Int)) (f_culetref48_Steeper : Int → Int → Int → Int → Int → Int → (Bool)) (a0_0 : Int) (a0_1 : Int) (a0_2 : Int) (a1_0 : Int) (a1_1 : Int) (a1_2 : Int) (k : (Bool) → Option R) : culetlaw48_SettingsForms.K f_settings_Steeper f_settings_Reduce p_settings_Reduce f_settings_Valid f_culetref48_Reduce p_culetref48_Reduce f_culetref48_Valid f_settings_Side f_culetref48_Side f_culetref48_Steeper a0_0 a0_1 a0_2 a1_0 a1_1 a1_2 k = (culetlaw48_SettingsForms.K f_settings_Steeper f_settings_Reduce p_settings_Reduce f_settings_Valid f_culetref48_Reduce p_culetref48_Reduce f_culetref48_Valid f_settings_Side f_culetref48_Side f_culetref48_Steeper a0_0 a0_1 a0_2 a1_0 a1_1 a1_2 some).bind k := by
  simp only [culetlaw48_SettingsForms.K, bcond, Option.bind_some, Option.bind_none]
theorem SettingsForms.law {h v i : Int} (hh : -9223372036854775808 ≤ h ∧ h ≤ 9223372036854775807) (hv : -9223372036854775808 ≤ v ∧ v ≤ 9223372036854775807) (h' v' i' : Int) : culetlaw48_SettingsForms.o h v i h' v' i' = some true := by
  obtain ⟨p1, e1⟩ := settings_Reduce.at (i := i) hh.2 hv.1 hv.2
  obtain ⟨p2, e2⟩ := culetref48_Reduce.at (i := i) hh.2 hv.1 hv.2
  simp only [culetlaw48_SettingsForms.o, culetlaw48_SettingsForms.K, settings_Valid.eq, culetref48_Valid.eq, settings_Side.eq, culetref48_Side.eq, settings_Steeper.eq, culetref48_Steeper.eq, p1, e1, p2, e2, beq_self_eq_true, Bool.and_self, cond_true]
theorem culetlaw48_SettingsForms.calls (a0_0 : Int) (a0_1 : Int) (a0_2 : Int) (a1_0 : Int) (a1_1 : Int) (a1_2 : Int) (h : culetlaw48_SettingsForms.o a0_0 a0_1 a0_2 a1_0 a1_1 a1_2 = some true) (w : World) (ht : TabOk w) : Calls Tryd.prog 8 ⟨[.agg ⟨[.int .i64 a0_0, .int .i64 a0_1, .int .i64 a0_2]⟩, .agg ⟨[.int .i64 a1_0, .int .i64 a1_1, .int .i64 a1_2]⟩]⟩ w fun e w' => e = .returned (.bool true) ∧ Below w.heap.size w w' := by
  refine calls_run (E := ⟨[(10, culetlaw48_awake.sp), (17, settings_Steeper.sp settings_Steeper), (19, settings_Reduce.sp settings_Reduce settings_Reduce.pre), (20, settings_Valid.sp settings_Valid), (24, culetref48_Reduce.sp culetref48_Reduce culetref48_Reduce.pre), (25, culetref48_Valid.sp culetref48_Valid), (26, settings_Side.sp settings_Side), (27, culetref48_Side.sp culetref48_Side), (28, culetref48_Steeper.sp culetref48_Steeper)], []⟩) (L := []) ⟨(specs_cons culetlaw48_awake.ok (specs_cons settings_Steeper.ok (specs_cons settings_Reduce.ok (specs_cons settings_Valid.ok (specs_cons culetref48_Reduce.ok (specs_cons culetref48_Valid.ok (specs_cons settings_Side.ok (specs_cons culetref48_Side.ok (specs_cons culetref48_Steeper.ok specs_nil))))))))), inl_nil, mixed_ok⟩ 40 Tryd.func8 (by decide) rfl no_loops (vs := [.agg ⟨[.int .i64 a0_0, .int .i64 a0_1, .int .i64 a0_2]⟩, .agg ⟨[.int .i64 a1_0, .int .i64 a1_1, .int .i64 a1_2]⟩]) (v := .bool true) ?_ (by simp [okV, Nat.blt]) (clo_spec 8 _ rfl) w ht
  refine (culetlaw48_SettingsForms.run settings_Steeper settings_Reduce settings_Reduce.pre settings_Valid culetref48_Reduce culetref48_Reduce.pre culetref48_Valid settings_Side culetref48_Side culetref48_Steeper a0_0 a0_1 a0_2 a1_0 a1_1 a1_2).trans ?_
  rw [culetlaw48_SettingsForms.nat]
  have h4 : culetlaw48_SettingsForms.K settings_Steeper settings_Reduce settings_Reduce.pre settings_Valid culetref48_Reduce culetref48_Reduce.pre culetref48_Valid settings_Side culetref48_Side culetref48_Steeper a0_0 a0_1 a0_2 a1_0 a1_1 a1_2 some = some true := h
  rw [h4]
  rfl

end Go.Proofs.YtgfjidlckocflaaDoor.G
