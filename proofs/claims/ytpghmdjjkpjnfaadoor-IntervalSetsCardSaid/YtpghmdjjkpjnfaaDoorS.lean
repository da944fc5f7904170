/- The forms of the functions' contracts. WRITTEN BY gen.py of this repo. -/
import Derived.Test.YtpghmdjjkpjnfaaDoorProg
import Derived.Test.YtpghmdjjkpjnfaaDoorRX9
namespace Go.Proofs.YtpghmdjjkpjnfaaDoor.G
open Go Go.Proofs Go.RowKit RX
set_option linter.unusedVariables false
set_option linter.unusedSimpArgs false
theorem mixed_ok : Tryd.prog.follows .mixedOrders = true := by kernel_rfl
def culetref27_Valid.sp (f : Int → Int → (Bool)) : HSpec
  | [.agg ⟨[.int .i64 a0_0, .int .i64 a0_1]⟩], [] => some (true, .bool (f a0_0 a0_1), [])
  | _, _ => none

def interval_floor.sp (f : Int → Int → (Int)) : HSpec
  | [.int .i64 a0, .int .i64 a1], [] => some (a1 != 0, .int .i64 (f a0 a1), [])
  | _, _ => none

def interval_Valid.sp (f : Int → Int → (Bool)) : HSpec
  | [.agg ⟨[.int .i64 a0_0, .int .i64 a0_1]⟩], [] => some (true, .bool (f a0_0 a0_1), [])
  | _, _ => none

def interval_Split.sp (f : Int → Int → (Int × Int × Int × Int × Int)) : HSpec
  | [.agg ⟨[.int .i64 a0_0, .int .i64 a0_1]⟩], [] => some (true, .tuple ⟨[.agg ⟨[.int .i64 (f a0_0 a0_1).1, .int .i64 (f a0_0 a0_1).2.1]⟩, .agg ⟨[.int .i64 (f a0_0 a0_1).2.2.1, .int .i64 (f a0_0 a0_1).2.2.2.1]⟩, .int .i64 (f a0_0 a0_1).2.2.2.2]⟩, [])
  | _, _ => none

def interval_Inside.sp (f : Int → Int → Int → Int → (Bool)) : HSpec
  | [.agg ⟨[.int .i64 a0_0, .int .i64 a0_1]⟩, .agg ⟨[.int .i64 a1_0, .int .i64 a1_1]⟩], [] => some (true, .bool (f a0_0 a0_1 a1_0 a1_1), [])
  | _, _ => none

def interval_Hull.sp (f : Int → Int → Int → Int → (Int × Int × Int)) : HSpec
  | [.agg ⟨[.int .i64 a0_0, .int .i64 a0_1]⟩, .agg ⟨[.int .i64 a1_0, .int .i64 a1_1]⟩], [] => some (true, .tuple ⟨[.agg ⟨[.int .i64 (f a0_0 a0_1 a1_0 a1_1).1, .int .i64 (f a0_0 a0_1 a1_0 a1_1).2.1]⟩, .int .i64 (f a0_0 a0_1 a1_0 a1_1).2.2]⟩, [])
  | _, _ => none

def interval_Meet.sp (f : Int → Int → Int → Int → (Int × Int × Int)) : HSpec
  | [.agg ⟨[.int .i64 a0_0, .int .i64 a0_1]⟩, .agg ⟨[.int .i64 a1_0, .int .i64 a1_1]⟩], [] => some (true, .tuple ⟨[.agg ⟨[.int .i64 (f a0_0 a0_1 a1_0 a1_1).1, .int .i64 (f a0_0 a0_1 a1_0 a1_1).2.1]⟩, .int .i64 (f a0_0 a0_1 a1_0 a1_1).2.2]⟩, [])
  | _, _ => none

def culetlaw27_IntervalSets.sp (f : Int → Int → Int → Int → (Bool)) : HSpec
  | [.agg ⟨[.int .i64 a0_0, .int .i64 a0_1]⟩, .agg ⟨[.int .i64 a1_0, .int .i64 a1_1]⟩], [] => some (true, .bool (f a0_0 a0_1 a1_0 a1_1), [])
  | _, _ => none

end Go.Proofs.YtpghmdjjkpjnfaaDoor.G
