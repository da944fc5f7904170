/- The forms of the functions' contracts. WRITTEN BY gen.py of this repo. -/
import Derived.Test.YtpghmdjjkpjnfaaDoorProg
import Derived.Test.YtpghmdjjkpjnfaaDoorRX9
namespace Go.Proofs.YtpghmdjjkpjnfaaDoor.G
open Go Go.Proofs Go.RowKit RX
set_option linter.unusedVariables false
set_option linter.unusedSimpArgs false
theorem mixed_ok : Tryd.prog.follows .mixedOrders = true := by kernel_rfl
def interval_Valid.sp (f : Int → Int → (Bool)) : HSpec
  | [.agg ⟨[.int .i64 a0_0, .int .i64 a0_1]⟩], [] => some (true, .bool (f a0_0 a0_1), [])
  | _, _ => none

def interval_made.sp (f : Int → Int → (Int × Int × Int)) : HSpec
  | [.int .i64 a0, .int .i64 a1], [] => some (true, .tuple ⟨[.agg ⟨[.int .i64 (f a0 a1).1, .int .i64 (f a0 a1).2.1]⟩, .int .i64 (f a0 a1).2.2]⟩, [])
  | _, _ => none

def interval_Add.sp (f : Int → Int → Int → Int → (Int × Int × Int)) : HSpec
  | [.agg ⟨[.int .i64 a0_0, .int .i64 a0_1]⟩, .agg ⟨[.int .i64 a1_0, .int .i64 a1_1]⟩], [] => some (true, .tuple ⟨[.agg ⟨[.int .i64 (f a0_0 a0_1 a1_0 a1_1).1, .int .i64 (f a0_0 a0_1 a1_0 a1_1).2.1]⟩, .int .i64 (f a0_0 a0_1 a1_0 a1_1).2.2]⟩, [])
  | _, _ => none

def interval_Sub.sp (f : Int → Int → Int → Int → (Int × Int × Int)) : HSpec
  | [.agg ⟨[.int .i64 a0_0, .int .i64 a0_1]⟩, .agg ⟨[.int .i64 a1_0, .int .i64 a1_1]⟩], [] => some (true, .tuple ⟨[.agg ⟨[.int .i64 (f a0_0 a0_1 a1_0 a1_1).1, .int .i64 (f a0_0 a0_1 a1_0 a1_1).2.1]⟩, .int .i64 (f a0_0 a0_1 a1_0 a1_1).2.2]⟩, [])
  | _, _ => none

def interval_floor.sp (f : Int → Int → (Int)) : HSpec
  | [.int .i64 a0, .int .i64 a1], [] => some (a1 != 0, .int .i64 (f a0 a1), [])
  | _, _ => none

def interval_ceil.sp (f : Int → Int → (Int)) : HSpec
  | [.int .i64 a0, .int .i64 a1], [] => some (a1 != 0, .int .i64 (f a0 a1), [])
  | _, _ => none

def interval_Mul.sp (f : Int → Int → Int → Int → (Int × Int × Int)) : HSpec
  | [.agg ⟨[.int .i64 a0_0, .int .i64 a0_1]⟩, .agg ⟨[.int .i64 a1_0, .int .i64 a1_1]⟩], [] => some (true, .tuple ⟨[.agg ⟨[.int .i64 (f a0_0 a0_1 a1_0 a1_1).1, .int .i64 (f a0_0 a0_1 a1_0 a1_1).2.1]⟩, .int .i64 (f a0_0 a0_1 a1_0 a1_1).2.2]⟩, [])
  | _, _ => none

def interval_Div.sp (f : Int → Int → Int → Int → (Int × Int × Int)) : HSpec
  | [.agg ⟨[.int .i64 a0_0, .int .i64 a0_1]⟩, .agg ⟨[.int .i64 a1_0, .int .i64 a1_1]⟩], [] => some (true, .tuple ⟨[.agg ⟨[.int .i64 (f a0_0 a0_1 a1_0 a1_1).1, .int .i64 (f a0_0 a0_1 a1_0 a1_1).2.1]⟩, .int .i64 (f a0_0 a0_1 a1_0 a1_1).2.2]⟩, [])
  | _, _ => none

def culetref27_Valid.sp (f : Int → Int → (Bool)) : HSpec
  | [.agg ⟨[.int .i64 a0_0, .int .i64 a0_1]⟩], [] => some (true, .bool (f a0_0 a0_1), [])
  | _, _ => none

def interval_Square.sp (f : Int → Int → (Int × Int × Int)) : HSpec
  | [.agg ⟨[.int .i64 a0_0, .int .i64 a0_1]⟩], [] => some (true, .tuple ⟨[.agg ⟨[.int .i64 (f a0_0 a0_1).1, .int .i64 (f a0_0 a0_1).2.1]⟩, .int .i64 (f a0_0 a0_1).2.2]⟩, [])
  | _, _ => none

def interval_Sqrt.sp (f : Int → Int → (Int × Int × Int)) : HSpec
  | [.agg ⟨[.int .i64 a0_0, .int .i64 a0_1]⟩], [] => some (true, .tuple ⟨[.agg ⟨[.int .i64 (f a0_0 a0_1).1, .int .i64 (f a0_0 a0_1).2.1]⟩, .int .i64 (f a0_0 a0_1).2.2]⟩, [])
  | _, _ => none

def culetlaw27_within.sp (f : Int → Int → Int → (Int)) (p : Int → Int → Int → Bool) : HSpec
  | [.agg ⟨[.int .i64 a0_0, .int .i64 a0_1]⟩, .int .u32 a1], [] => some (p a0_0 a0_1 a1, .int .i64 (f a0_0 a0_1 a1), [])
  | _, _ => none

def culetlaw27_IntervalEncloses.sp (f : Int → Int → Int → Int → Int → Int → (Bool)) : HSpec
  | [.agg ⟨[.int .i64 a0_0, .int .i64 a0_1]⟩, .agg ⟨[.int .i64 a1_0, .int .i64 a1_1]⟩, .agg ⟨[.int .u32 a2_0, .int .u32 a2_1]⟩], [] => some (true, .bool (f a0_0 a0_1 a1_0 a1_1 a2_0 a2_1), [])
  | _, _ => none

end Go.Proofs.YtpghmdjjkpjnfaaDoor.G
