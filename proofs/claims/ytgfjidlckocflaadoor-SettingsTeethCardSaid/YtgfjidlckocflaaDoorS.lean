/- The forms of the functions' contracts. WRITTEN BY gen.py of this repo. -/
import Derived.Test.YtgfjidlckocflaaDoorProg
import Derived.Test.YtgfjidlckocflaaDoorRX9
namespace Go.Proofs.YtgfjidlckocflaaDoor.G
open Go Go.Proofs Go.RowKit RX
set_option linter.unusedVariables false
set_option linter.unusedSimpArgs false
theorem mixed_ok : Tryd.prog.follows .mixedOrders = true := by kernel_rfl
def settings_wheelRight.sp (f : Int → (Bool)) : HSpec
  | [.int .i64 a0], [] => some (true, .bool (f a0), [])
  | _, _ => none

def wheel_Mod.sp (f : Int → (Int)) : HSpec
  | [.int .i64 a0], [] => some (true, .int .i64 (f a0), [])
  | _, _ => none

def settings_Tooth.sp (f : Int → Int → (Int × Int × Int)) : HSpec
  | [.int .i64 a0, .int .i64 a1], [] => some (true, .tuple ⟨[.int .i64 (f a0 a1).1, .int .i64 (f a0 a1).2.1, .int .i64 (f a0 a1).2.2]⟩, [])
  | _, _ => none

def culetref48_mod.sp (f : Int → (Int)) : HSpec
  | [.int .i64 a0], [] => some (true, .int .i64 (f a0), [])
  | _, _ => none

def culetref48_Tooth.sp (f : Int → Int → (Int × Int × Int)) : HSpec
  | [.int .i64 a0, .int .i64 a1], [] => some (true, .tuple ⟨[.int .i64 (f a0 a1).1, .int .i64 (f a0 a1).2.1, .int .i64 (f a0 a1).2.2]⟩, [])
  | _, _ => none

def settings_Index.sp (f : Int → Int → Int → (Int × Int)) : HSpec
  | [.int .i64 a0, .int .i64 a1, .int .i64 a2], [] => some (true, .tuple ⟨[.int .i64 (f a0 a1 a2).1, .int .i64 (f a0 a1 a2).2]⟩, [])
  | _, _ => none

def culetref48_Index.sp (f : Int → Int → Int → (Int × Int)) : HSpec
  | [.int .i64 a0, .int .i64 a1, .int .i64 a2], [] => some (true, .tuple ⟨[.int .i64 (f a0 a1 a2).1, .int .i64 (f a0 a1 a2).2]⟩, [])
  | _, _ => none

def settings_Fits.sp (f : Int → (Bool)) : HSpec
  | [.int .i64 a0], [] => some (true, .bool (f a0), [])
  | _, _ => none

def culetref48_Fits.sp (f : Int → (Bool)) : HSpec
  | [.int .i64 a0], [] => some (true, .bool (f a0), [])
  | _, _ => none

def culetlaw48_SettingsTeeth.sp (f : Int → Int → Int → (Bool)) : HSpec
  | [.int .i64 a0, .int .i64 a1, .int .i64 a2], [] => some (true, .bool (f a0 a1 a2), [])
  | _, _ => none

end Go.Proofs.YtgfjidlckocflaaDoor.G
