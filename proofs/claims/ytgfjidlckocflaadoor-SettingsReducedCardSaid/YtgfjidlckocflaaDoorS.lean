/- The forms of the functions' contracts. WRITTEN BY gen.py of this repo. -/
import Derived.Test.YtgfjidlckocflaaDoorProg
import Derived.Test.YtgfjidlckocflaaDoorRX9
namespace Go.Proofs.YtgfjidlckocflaaDoor.G
open Go Go.Proofs Go.RowKit RX
set_option linter.unusedVariables false
set_option linter.unusedSimpArgs false
theorem mixed_ok : Tryd.prog.follows .mixedOrders = true := by kernel_rfl
def settings_wheelRight.sp (f : Int → (Bool)) : HSpec
  | [.int .i64 a0], [] => some (true, .bool (f a0), [])
  | _, _ => none

def wheel_Mod.sp (f : Int → (Int)) : HSpec
  | [.int .i64 a0], [] => some (true, .int .i64 (f a0), [])
  | _, _ => none

def settings_Tooth.sp (f : Int → Int → (Int × Int × Int)) : HSpec
  | [.int .i64 a0, .int .i64 a1], [] => some (true, .tuple ⟨[.int .i64 (f a0 a1).1, .int .i64 (f a0 a1).2.1, .int .i64 (f a0 a1).2.2]⟩, [])
  | _, _ => none

def settings_Fits.sp (f : Int → (Bool)) : HSpec
  | [.int .i64 a0], [] => some (true, .bool (f a0), [])
  | _, _ => none

def culetlaw48_SettingsTurned.sp (f : Int → Int → Int → (Bool)) : HSpec
  | [.int .i16 a0, .int .i16 a1, .int .u8 a2], [] => some (true, .bool (f a0 a1 a2), [])
  | _, _ => none

def plane_ValidSetting.sp (f : Int → Int → Int → (Bool)) : HSpec
  | [.agg ⟨[.int .i64 a0_0, .int .i64 a0_1, .int .i64 a0_2]⟩], [] => some (true, .bool (f a0_0 a0_1 a0_2), [])
  | _, _ => none

def settings_Valid.sp (f : Int → Int → Int → (Bool)) : HSpec
  | [.agg ⟨[.int .i64 a0_0, .int .i64 a0_1, .int .i64 a0_2]⟩], [] => some (true, .bool (f a0_0 a0_1 a0_2), [])
  | _, _ => none

def settings_size.sp (f : Int → (Int)) : HSpec
  | [.int .i64 a0], [] => some (true, .int .i64 (f a0), [])
  | _, _ => none

def settings_steeper.sp (f : Int → Int → Int → Int → Int → Int → (Bool)) : HSpec
  | [.agg ⟨[.int .i64 a0_0, .int .i64 a0_1, .int .i64 a0_2]⟩, .agg ⟨[.int .i64 a1_0, .int .i64 a1_1, .int .i64 a1_2]⟩], [] => some (true, .bool (f a0_0 a0_1 a0_2 a1_0 a1_1 a1_2), [])
  | _, _ => none

def settings_Steeper.sp (f : Int → Int → Int → Int → Int → Int → (Bool)) : HSpec
  | [.agg ⟨[.int .i64 a0_0, .int .i64 a0_1, .int .i64 a0_2]⟩, .agg ⟨[.int .i64 a1_0, .int .i64 a1_1, .int .i64 a1_2]⟩], [] => some (true, .bool (f a0_0 a0_1 a0_2 a1_0 a1_1 a1_2), [])
  | _, _ => none

def settings_Slide.sp (f : Int → Int → Int → (Int × Bool × Int)) : HSpec
  | [.agg ⟨[.int .i64 a0_0, .int .i64 a0_1, .int .i64 a0_2]⟩], [] => some (true, .tuple ⟨[.int .i64 (f a0_0 a0_1 a0_2).1, .bool (f a0_0 a0_1 a0_2).2.1, .int .i64 (f a0_0 a0_1 a0_2).2.2]⟩, [])
  | _, _ => none

def culetlaw48_SettingsOrder.sp (f : Int → Int → Int → Int → Int → Int → Int → Int → Int → (Bool)) : HSpec
  | [.agg ⟨[.int .i64 a0_0, .int .i64 a0_1, .int .i64 a0_2]⟩, .agg ⟨[.int .i64 a1_0, .int .i64 a1_1, .int .i64 a1_2]⟩, .agg ⟨[.int .i64 a2_0, .int .i64 a2_1, .int .i64 a2_2]⟩], [] => some (true, .bool (f a0_0 a0_1 a0_2 a1_0 a1_1 a1_2 a2_0 a2_1 a2_2), [])
  | _, _ => none

def settings_Reduce.sp (f : Int → Int → Int → (Int × Int × Int × Int)) (p : Int → Int → Int → Bool) : HSpec
  | [.int .i64 a0, .int .i64 a1, .int .i64 a2], [] => some (p a0 a1 a2, .tuple ⟨[.agg ⟨[.int .i64 (f a0 a1 a2).1, .int .i64 (f a0 a1 a2).2.1, .int .i64 (f a0 a1 a2).2.2.1]⟩, .int .i64 (f a0 a1 a2).2.2.2]⟩, [])
  | _, _ => none

def culetlaw48_SettingsReduced.sp (f : Int → Int → Int → (Bool)) : HSpec
  | [.int .i64 a0, .int .i64 a1, .int .u16 a2], [] => some (true, .bool (f a0 a1 a2), [])
  | _, _ => none

def culetref48_abs.sp (f : Int → (Int)) : HSpec
  | [.int .i64 a0], [] => some (true, .int .i64 (f a0), [])
  | _, _ => none

def culetref48_Valid.sp (f : Int → Int → Int → (Bool)) : HSpec
  | [.agg ⟨[.int .i64 a0_0, .int .i64 a0_1, .int .i64 a0_2]⟩], [] => some (true, .bool (f a0_0 a0_1 a0_2), [])
  | _, _ => none

def culetref48_Slide.sp (f : Int → Int → Int → (Int × Bool × Int)) : HSpec
  | [.agg ⟨[.int .i64 a0_0, .int .i64 a0_1, .int .i64 a0_2]⟩], [] => some (true, .tuple ⟨[.int .i64 (f a0_0 a0_1 a0_2).1, .bool (f a0_0 a0_1 a0_2).2.1, .int .i64 (f a0_0 a0_1 a0_2).2.2]⟩, [])
  | _, _ => none

def settings_FromSlide.sp (f : Int → Int → Bool → (Int × Int × Int × Int)) (p : Int → Int → Bool → Bool) : HSpec
  | [.int .i64 a0, .int .i64 a1, .bool a2], [] => some (p a0 a1 a2, .tuple ⟨[.agg ⟨[.int .i64 (f a0 a1 a2).1, .int .i64 (f a0 a1 a2).2.1, .int .i64 (f a0 a1 a2).2.2.1]⟩, .int .i64 (f a0 a1 a2).2.2.2]⟩, [])
  | _, _ => none

def culetref48_mod.sp (f : Int → (Int)) : HSpec
  | [.int .i64 a0], [] => some (true, .int .i64 (f a0), [])
  | _, _ => none

def culetref48_Reduce.sp (f : Int → Int → Int → (Int × Int × Int × Int)) (p : Int → Int → Int → Bool) : HSpec
  | [.int .i64 a0, .int .i64 a1, .int .i64 a2], [] => some (p a0 a1 a2, .tuple ⟨[.agg ⟨[.int .i64 (f a0 a1 a2).1, .int .i64 (f a0 a1 a2).2.1, .int .i64 (f a0 a1 a2).2.2.1]⟩, .int .i64 (f a0 a1 a2).2.2.2]⟩, [])
  | _, _ => none

def culetref48_FromSlide.sp (f : Int → Int → Bool → (Int × Int × Int × Int)) (p : Int → Int → Bool → Bool) : HSpec
  | [.int .i64 a0, .int .i64 a1, .bool a2], [] => some (p a0 a1 a2, .tuple ⟨[.agg ⟨[.int .i64 (f a0 a1 a2).1, .int .i64 (f a0 a1 a2).2.1, .int .i64 (f a0 a1 a2).2.2.1]⟩, .int .i64 (f a0 a1 a2).2.2.2]⟩, [])
  | _, _ => none

def culetlaw48_SettingsSlide.sp (f : Int → Int → Int → Int → Bool → (Bool)) : HSpec
  | [.agg ⟨[.int .i64 a0_0, .int .i64 a0_1, .int .i64 a0_2]⟩, .int .i64 a1, .bool a2], [] => some (true, .bool (f a0_0 a0_1 a0_2 a1 a2), [])
  | _, _ => none

def settings_Side.sp (f : Int → Int → Int → (Int)) : HSpec
  | [.agg ⟨[.int .i64 a0_0, .int .i64 a0_1, .int .i64 a0_2]⟩], [] => some (true, .int .i64 (f a0_0 a0_1 a0_2), [])
  | _, _ => none

def culetref48_Side.sp (f : Int → Int → Int → (Int)) : HSpec
  | [.agg ⟨[.int .i64 a0_0, .int .i64 a0_1, .int .i64 a0_2]⟩], [] => some (true, .int .i64 (f a0_0 a0_1 a0_2), [])
  | _, _ => none

def culetref48_Steeper.sp (f : Int → Int → Int → Int → Int → Int → (Bool)) : HSpec
  | [.agg ⟨[.int .i64 a0_0, .int .i64 a0_1, .int .i64 a0_2]⟩, .agg ⟨[.int .i64 a1_0, .int .i64 a1_1, .int .i64 a1_2]⟩], [] => some (true, .bool (f a0_0 a0_1 a0_2 a1_0 a1_1 a1_2), [])
  | _, _ => none

def culetlaw48_SettingsForms.sp (f : Int → Int → Int → Int → Int → Int → (Bool)) : HSpec
  | [.agg ⟨[.int .i64 a0_0, .int .i64 a0_1, .int .i64 a0_2]⟩, .agg ⟨[.int .i64 a1_0, .int .i64 a1_1, .int .i64 a1_2]⟩], [] => some (true, .bool (f a0_0 a0_1 a0_2 a1_0 a1_1 a1_2), [])
  | _, _ => none

end Go.Proofs.YtgfjidlckocflaaDoor.G
