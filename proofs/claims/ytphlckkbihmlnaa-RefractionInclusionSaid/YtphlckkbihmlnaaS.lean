/- The forms of the functions' contracts. WRITTEN BY gen.py of this repo. -/
import Derived.Test.YtphlckkbihmlnaaProg
import Derived.Test.YtphlckkbihmlnaaRX9
namespace Go.Proofs.Ytphlckkbihmlnaa.G
open Go Go.Proofs Go.RowKit RX
set_option linter.unusedVariables false
set_option linter.unusedSimpArgs false
theorem mixed_ok : Try.prog.follows .mixedOrders = true := by kernel_rfl
def interval_Valid.sp (f : Int → Int → (Bool)) : HSpec
  | [.agg ⟨[.int .i64 a0_0, .int .i64 a0_1]⟩], [] => some (true, .bool (f a0_0 a0_1), [])
  | _, _ => none

def interval_made.sp (f : Int → Int → (Int × Int × Int)) : HSpec
  | [.int .i64 a0, .int .i64 a1], [] => some (true, .tuple ⟨[.agg ⟨[.int .i64 (f a0 a1).1, .int .i64 (f a0 a1).2.1]⟩, .int .i64 (f a0 a1).2.2]⟩, [])
  | _, _ => none

def interval_Sqrt.sp (f : Int → Int → (Int × Int × Int)) : HSpec
  | [.agg ⟨[.int .i64 a0_0, .int .i64 a0_1]⟩], [] => some (true, .tuple ⟨[.agg ⟨[.int .i64 (f a0_0 a0_1).1, .int .i64 (f a0_0 a0_1).2.1]⟩, .int .i64 (f a0_0 a0_1).2.2]⟩, [])
  | _, _ => none

def interval_Neg.sp (f : Int → Int → (Int × Int × Int)) : HSpec
  | [.agg ⟨[.int .i64 a0_0, .int .i64 a0_1]⟩], [] => some (true, .tuple ⟨[.agg ⟨[.int .i64 (f a0_0 a0_1).1, .int .i64 (f a0_0 a0_1).2.1]⟩, .int .i64 (f a0_0 a0_1).2.2]⟩, [])
  | _, _ => none

def interval_floor.sp (f : Int → Int → (Int)) : HSpec
  | [.int .i64 a0, .int .i64 a1], [] => some (a1 != 0, .int .i64 (f a0 a1), [])
  | _, _ => none

def interval_ceil.sp (f : Int → Int → (Int)) : HSpec
  | [.int .i64 a0, .int .i64 a1], [] => some (a1 != 0, .int .i64 (f a0 a1), [])
  | _, _ => none

def interval_Square.sp (f : Int → Int → (Int × Int × Int)) : HSpec
  | [.agg ⟨[.int .i64 a0_0, .int .i64 a0_1]⟩], [] => some (true, .tuple ⟨[.agg ⟨[.int .i64 (f a0_0 a0_1).1, .int .i64 (f a0_0 a0_1).2.1]⟩, .int .i64 (f a0_0 a0_1).2.2]⟩, [])
  | _, _ => none

def interval_Sub.sp (f : Int → Int → Int → Int → (Int × Int × Int)) : HSpec
  | [.agg ⟨[.int .i64 a0_0, .int .i64 a0_1]⟩, .agg ⟨[.int .i64 a1_0, .int .i64 a1_1]⟩], [] => some (true, .tuple ⟨[.agg ⟨[.int .i64 (f a0_0 a0_1 a1_0 a1_1).1, .int .i64 (f a0_0 a0_1 a1_0 a1_1).2.1]⟩, .int .i64 (f a0_0 a0_1 a1_0 a1_1).2.2]⟩, [])
  | _, _ => none

def interval_Mul.sp (f : Int → Int → Int → Int → (Int × Int × Int)) : HSpec
  | [.agg ⟨[.int .i64 a0_0, .int .i64 a0_1]⟩, .agg ⟨[.int .i64 a1_0, .int .i64 a1_1]⟩], [] => some (true, .tuple ⟨[.agg ⟨[.int .i64 (f a0_0 a0_1 a1_0 a1_1).1, .int .i64 (f a0_0 a0_1 a1_0 a1_1).2.1]⟩, .int .i64 (f a0_0 a0_1 a1_0 a1_1).2.2]⟩, [])
  | _, _ => none

def interval_Add.sp (f : Int → Int → Int → Int → (Int × Int × Int)) : HSpec
  | [.agg ⟨[.int .i64 a0_0, .int .i64 a0_1]⟩, .agg ⟨[.int .i64 a1_0, .int .i64 a1_1]⟩], [] => some (true, .tuple ⟨[.agg ⟨[.int .i64 (f a0_0 a0_1 a1_0 a1_1).1, .int .i64 (f a0_0 a0_1 a1_0 a1_1).2.1]⟩, .int .i64 (f a0_0 a0_1 a1_0 a1_1).2.2]⟩, [])
  | _, _ => none

def interval_Div.sp (f : Int → Int → Int → Int → (Int × Int × Int)) : HSpec
  | [.agg ⟨[.int .i64 a0_0, .int .i64 a0_1]⟩, .agg ⟨[.int .i64 a1_0, .int .i64 a1_1]⟩], [] => some (true, .tuple ⟨[.agg ⟨[.int .i64 (f a0_0 a0_1 a1_0 a1_1).1, .int .i64 (f a0_0 a0_1 a1_0 a1_1).2.1]⟩, .int .i64 (f a0_0 a0_1 a1_0 a1_1).2.2]⟩, [])
  | _, _ => none

def refraction_unit.sp (f : (Int × Int)) : HSpec
  | [], [] => some (true, .agg ⟨[.int .i64 (f ).1, .int .i64 (f ).2]⟩, [])
  | _, _ => none

def refraction_Radicand.sp (f : Int → Int → Int → Int → (Int × Int × Int)) : HSpec
  | [.agg ⟨[.int .i64 a0_0, .int .i64 a0_1]⟩, .agg ⟨[.int .i64 a1_0, .int .i64 a1_1]⟩], [] => some (true, .tuple ⟨[.agg ⟨[.int .i64 (f a0_0 a0_1 a1_0 a1_1).1, .int .i64 (f a0_0 a0_1 a1_0 a1_1).2.1]⟩, .int .i64 (f a0_0 a0_1 a1_0 a1_1).2.2]⟩, [])
  | _, _ => none

def refraction_Refract_1.sp (f : Int → (Int × Int × Int × Int × Int × Int × Int × Int × Int × Int × Int)) : HSpec
  | [.int .i64 a0], [] => some (true, .tuple ⟨[.agg ⟨[.int .i64 (f a0).1, .int .i64 (f a0).2.1, .int .i64 (f a0).2.2.1, .int .i64 (f a0).2.2.2.1, .int .i64 (f a0).2.2.2.2.1, .int .i64 (f a0).2.2.2.2.2.1]⟩, .agg ⟨[.int .i64 (f a0).2.2.2.2.2.2.1, .int .i64 (f a0).2.2.2.2.2.2.2.1]⟩, .agg ⟨[.int .i64 (f a0).2.2.2.2.2.2.2.2.1, .int .i64 (f a0).2.2.2.2.2.2.2.2.2.1]⟩, .int .i64 (f a0).2.2.2.2.2.2.2.2.2.2]⟩, [])
  | _, _ => none

def direction_Valid.sp (f : Int → Int → Int → Int → Int → Int → (Bool)) : HSpec
  | [.agg ⟨[.int .i64 a0_0, .int .i64 a0_1, .int .i64 a0_2, .int .i64 a0_3, .int .i64 a0_4, .int .i64 a0_5]⟩], [] => some (true, .bool (f a0_0 a0_1 a0_2 a0_3 a0_4 a0_5), [])
  | _, _ => none

def refraction_valid.sp (f : Int → Int → Int → Int → Int → Int → Int → Int → Int → Int → Int → Int → Int → Int → (Bool)) : HSpec
  | [.agg ⟨[.int .i64 a0_0, .int .i64 a0_1, .int .i64 a0_2, .int .i64 a0_3, .int .i64 a0_4, .int .i64 a0_5]⟩, .agg ⟨[.int .i64 a1_0, .int .i64 a1_1, .int .i64 a1_2, .int .i64 a1_3, .int .i64 a1_4, .int .i64 a1_5]⟩, .agg ⟨[.int .i64 a2_0, .int .i64 a2_1]⟩], [] => some (true, .bool (f a0_0 a0_1 a0_2 a0_3 a0_4 a0_5 a1_0 a1_1 a1_2 a1_3 a1_4 a1_5 a2_0 a2_1), [])
  | _, _ => none

def direction_calc_keep.sp (f : Int → Int → Int → Int → (Int × Int × Int)) : HSpec
  | [.pointer (some ⟨0, 0, none⟩), .agg ⟨[.int .i64 a1_0, .int .i64 a1_1]⟩, .int .i64 a2], [.cs [.int .i64 s0_0] 79] => some (true, .agg ⟨[.int .i64 (f s0_0 a1_0 a1_1 a2).1, .int .i64 (f s0_0 a1_0 a1_1 a2).2.1]⟩, [.cs [.int .i64 (f s0_0 a1_0 a1_1 a2).2.2] 79])
  | _, _ => none

def direction_calc_mul.sp (f : Int → Int → Int → Int → Int → (Int × Int × Int)) : HSpec
  | [.pointer (some ⟨0, 0, none⟩), .agg ⟨[.int .i64 a1_0, .int .i64 a1_1]⟩, .agg ⟨[.int .i64 a2_0, .int .i64 a2_1]⟩], [.cs [.int .i64 s0_0] 79] => some (true, .agg ⟨[.int .i64 (f s0_0 a1_0 a1_1 a2_0 a2_1).1, .int .i64 (f s0_0 a1_0 a1_1 a2_0 a2_1).2.1]⟩, [.cs [.int .i64 (f s0_0 a1_0 a1_1 a2_0 a2_1).2.2] 79])
  | _, _ => none

def direction_calc_result.sp (f : Int → Int → Int → (Int × Int × Int × Int)) : HSpec
  | [.pointer (some ⟨0, 0, none⟩), .agg ⟨[.int .i64 a1_0, .int .i64 a1_1]⟩], [.cs [.int .i64 s0_0] 79] => some (true, .tuple ⟨[.agg ⟨[.int .i64 (f s0_0 a1_0 a1_1).1, .int .i64 (f s0_0 a1_0 a1_1).2.1]⟩, .int .i64 (f s0_0 a1_0 a1_1).2.2.1]⟩, [.cs [.int .i64 (f s0_0 a1_0 a1_1).2.2.2] 79])
  | _, _ => none

def direction_calc_add.sp (f : Int → Int → Int → Int → Int → (Int × Int × Int)) : HSpec
  | [.pointer (some ⟨0, 0, none⟩), .agg ⟨[.int .i64 a1_0, .int .i64 a1_1]⟩, .agg ⟨[.int .i64 a2_0, .int .i64 a2_1]⟩], [.cs [.int .i64 s0_0] 79] => some (true, .agg ⟨[.int .i64 (f s0_0 a1_0 a1_1 a2_0 a2_1).1, .int .i64 (f s0_0 a1_0 a1_1 a2_0 a2_1).2.1]⟩, [.cs [.int .i64 (f s0_0 a1_0 a1_1 a2_0 a2_1).2.2] 79])
  | _, _ => none

def direction_Dot.sp (f : Int → Int → Int → Int → Int → Int → Int → Int → Int → Int → Int → Int → (Int × Int × Int)) : HSpec
  | [.agg ⟨[.int .i64 a0_0, .int .i64 a0_1, .int .i64 a0_2, .int .i64 a0_3, .int .i64 a0_4, .int .i64 a0_5]⟩, .agg ⟨[.int .i64 a1_0, .int .i64 a1_1, .int .i64 a1_2, .int .i64 a1_3, .int .i64 a1_4, .int .i64 a1_5]⟩], [] => some (true, .tuple ⟨[.agg ⟨[.int .i64 (f a0_0 a0_1 a0_2 a0_3 a0_4 a0_5 a1_0 a1_1 a1_2 a1_3 a1_4 a1_5).1, .int .i64 (f a0_0 a0_1 a0_2 a0_3 a0_4 a0_5 a1_0 a1_1 a1_2 a1_3 a1_4 a1_5).2.1]⟩, .int .i64 (f a0_0 a0_1 a0_2 a0_3 a0_4 a0_5 a1_0 a1_1 a1_2 a1_3 a1_4 a1_5).2.2]⟩, [])
  | _, _ => none

def interval_Sign.sp (f : Int → Int → (Int)) : HSpec
  | [.agg ⟨[.int .i64 a0_0, .int .i64 a0_1]⟩], [] => some (true, .int .i64 (f a0_0 a0_1), [])
  | _, _ => none

def direction_calc_box.sp (f : Int → Int → Int → Int → Int → Int → Int → (Int × Int × Int × Int × Int × Int × Int × Int)) : HSpec
  | [.pointer (some ⟨0, 0, none⟩), .agg ⟨[.int .i64 a1_0, .int .i64 a1_1, .int .i64 a1_2, .int .i64 a1_3, .int .i64 a1_4, .int .i64 a1_5]⟩], [.cs [.int .i64 s0_0] 79] => some (true, .tuple ⟨[.agg ⟨[.int .i64 (f s0_0 a1_0 a1_1 a1_2 a1_3 a1_4 a1_5).1, .int .i64 (f s0_0 a1_0 a1_1 a1_2 a1_3 a1_4 a1_5).2.1, .int .i64 (f s0_0 a1_0 a1_1 a1_2 a1_3 a1_4 a1_5).2.2.1, .int .i64 (f s0_0 a1_0 a1_1 a1_2 a1_3 a1_4 a1_5).2.2.2.1, .int .i64 (f s0_0 a1_0 a1_1 a1_2 a1_3 a1_4 a1_5).2.2.2.2.1, .int .i64 (f s0_0 a1_0 a1_1 a1_2 a1_3 a1_4 a1_5).2.2.2.2.2.1]⟩, .int .i64 (f s0_0 a1_0 a1_1 a1_2 a1_3 a1_4 a1_5).2.2.2.2.2.2.1]⟩, [.cs [.int .i64 (f s0_0 a1_0 a1_1 a1_2 a1_3 a1_4 a1_5).2.2.2.2.2.2.2] 79])
  | _, _ => none

def direction_Scale.sp (f : Int → Int → Int → Int → Int → Int → Int → Int → (Int × Int × Int × Int × Int × Int × Int)) : HSpec
  | [.agg ⟨[.int .i64 a0_0, .int .i64 a0_1, .int .i64 a0_2, .int .i64 a0_3, .int .i64 a0_4, .int .i64 a0_5]⟩, .agg ⟨[.int .i64 a1_0, .int .i64 a1_1]⟩], [] => some (true, .tuple ⟨[.agg ⟨[.int .i64 (f a0_0 a0_1 a0_2 a0_3 a0_4 a0_5 a1_0 a1_1).1, .int .i64 (f a0_0 a0_1 a0_2 a0_3 a0_4 a0_5 a1_0 a1_1).2.1, .int .i64 (f a0_0 a0_1 a0_2 a0_3 a0_4 a0_5 a1_0 a1_1).2.2.1, .int .i64 (f a0_0 a0_1 a0_2 a0_3 a0_4 a0_5 a1_0 a1_1).2.2.2.1, .int .i64 (f a0_0 a0_1 a0_2 a0_3 a0_4 a0_5 a1_0 a1_1).2.2.2.2.1, .int .i64 (f a0_0 a0_1 a0_2 a0_3 a0_4 a0_5 a1_0 a1_1).2.2.2.2.2.1]⟩, .int .i64 (f a0_0 a0_1 a0_2 a0_3 a0_4 a0_5 a1_0 a1_1).2.2.2.2.2.2]⟩, [])
  | _, _ => none

def refraction_calc_scale.sp (f : Int → Int → Int → Int → Int → Int → Int → Int → Int → (Int × Int × Int × Int × Int × Int × Int)) : HSpec
  | [.pointer (some ⟨0, 0, none⟩), .agg ⟨[.int .i64 a1_0, .int .i64 a1_1, .int .i64 a1_2, .int .i64 a1_3, .int .i64 a1_4, .int .i64 a1_5]⟩, .agg ⟨[.int .i64 a2_0, .int .i64 a2_1]⟩], [.cs [.int .i64 s0_0] 63] => some (true, .agg ⟨[.int .i64 (f s0_0 a1_0 a1_1 a1_2 a1_3 a1_4 a1_5 a2_0 a2_1).1, .int .i64 (f s0_0 a1_0 a1_1 a1_2 a1_3 a1_4 a1_5 a2_0 a2_1).2.1, .int .i64 (f s0_0 a1_0 a1_1 a1_2 a1_3 a1_4 a1_5 a2_0 a2_1).2.2.1, .int .i64 (f s0_0 a1_0 a1_1 a1_2 a1_3 a1_4 a1_5 a2_0 a2_1).2.2.2.1, .int .i64 (f s0_0 a1_0 a1_1 a1_2 a1_3 a1_4 a1_5 a2_0 a2_1).2.2.2.2.1, .int .i64 (f s0_0 a1_0 a1_1 a1_2 a1_3 a1_4 a1_5 a2_0 a2_1).2.2.2.2.2.1]⟩, [.cs [.int .i64 (f s0_0 a1_0 a1_1 a1_2 a1_3 a1_4 a1_5 a2_0 a2_1).2.2.2.2.2.2] 63])
  | _, _ => none

def direction_Add.sp (f : Int → Int → Int → Int → Int → Int → Int → Int → Int → Int → Int → Int → (Int × Int × Int × Int × Int × Int × Int)) : HSpec
  | [.agg ⟨[.int .i64 a0_0, .int .i64 a0_1, .int .i64 a0_2, .int .i64 a0_3, .int .i64 a0_4, .int .i64 a0_5]⟩, .agg ⟨[.int .i64 a1_0, .int .i64 a1_1, .int .i64 a1_2, .int .i64 a1_3, .int .i64 a1_4, .int .i64 a1_5]⟩], [] => some (true, .tuple ⟨[.agg ⟨[.int .i64 (f a0_0 a0_1 a0_2 a0_3 a0_4 a0_5 a1_0 a1_1 a1_2 a1_3 a1_4 a1_5).1, .int .i64 (f a0_0 a0_1 a0_2 a0_3 a0_4 a0_5 a1_0 a1_1 a1_2 a1_3 a1_4 a1_5).2.1, .int .i64 (f a0_0 a0_1 a0_2 a0_3 a0_4 a0_5 a1_0 a1_1 a1_2 a1_3 a1_4 a1_5).2.2.1, .int .i64 (f a0_0 a0_1 a0_2 a0_3 a0_4 a0_5 a1_0 a1_1 a1_2 a1_3 a1_4 a1_5).2.2.2.1, .int .i64 (f a0_0 a0_1 a0_2 a0_3 a0_4 a0_5 a1_0 a1_1 a1_2 a1_3 a1_4 a1_5).2.2.2.2.1, .int .i64 (f a0_0 a0_1 a0_2 a0_3 a0_4 a0_5 a1_0 a1_1 a1_2 a1_3 a1_4 a1_5).2.2.2.2.2.1]⟩, .int .i64 (f a0_0 a0_1 a0_2 a0_3 a0_4 a0_5 a1_0 a1_1 a1_2 a1_3 a1_4 a1_5).2.2.2.2.2.2]⟩, [])
  | _, _ => none

def refraction_calc_sum.sp (f : Int → Int → Int → Int → Int → Int → Int → Int → Int → Int → Int → Int → Int → (Int × Int × Int × Int × Int × Int × Int)) : HSpec
  | [.pointer (some ⟨0, 0, none⟩), .agg ⟨[.int .i64 a1_0, .int .i64 a1_1, .int .i64 a1_2, .int .i64 a1_3, .int .i64 a1_4, .int .i64 a1_5]⟩, .agg ⟨[.int .i64 a2_0, .int .i64 a2_1, .int .i64 a2_2, .int .i64 a2_3, .int .i64 a2_4, .int .i64 a2_5]⟩], [.cs [.int .i64 s0_0] 63] => some (true, .agg ⟨[.int .i64 (f s0_0 a1_0 a1_1 a1_2 a1_3 a1_4 a1_5 a2_0 a2_1 a2_2 a2_3 a2_4 a2_5).1, .int .i64 (f s0_0 a1_0 a1_1 a1_2 a1_3 a1_4 a1_5 a2_0 a2_1 a2_2 a2_3 a2_4 a2_5).2.1, .int .i64 (f s0_0 a1_0 a1_1 a1_2 a1_3 a1_4 a1_5 a2_0 a2_1 a2_2 a2_3 a2_4 a2_5).2.2.1, .int .i64 (f s0_0 a1_0 a1_1 a1_2 a1_3 a1_4 a1_5 a2_0 a2_1 a2_2 a2_3 a2_4 a2_5).2.2.2.1, .int .i64 (f s0_0 a1_0 a1_1 a1_2 a1_3 a1_4 a1_5 a2_0 a2_1 a2_2 a2_3 a2_4 a2_5).2.2.2.2.1, .int .i64 (f s0_0 a1_0 a1_1 a1_2 a1_3 a1_4 a1_5 a2_0 a2_1 a2_2 a2_3 a2_4 a2_5).2.2.2.2.2.1]⟩, [.cs [.int .i64 (f s0_0 a1_0 a1_1 a1_2 a1_3 a1_4 a1_5 a2_0 a2_1 a2_2 a2_3 a2_4 a2_5).2.2.2.2.2.2] 63])
  | _, _ => none

def refraction_Refract.sp (f : Int → Int → Int → Int → Int → Int → Int → Int → Int → Int → Int → Int → Int → Int → (Int × Int × Int × Int × Int × Int × Int × Int × Int × Int × Int)) : HSpec
  | [.agg ⟨[.int .i64 a0_0, .int .i64 a0_1, .int .i64 a0_2, .int .i64 a0_3, .int .i64 a0_4, .int .i64 a0_5]⟩, .agg ⟨[.int .i64 a1_0, .int .i64 a1_1, .int .i64 a1_2, .int .i64 a1_3, .int .i64 a1_4, .int .i64 a1_5]⟩, .agg ⟨[.int .i64 a2_0, .int .i64 a2_1]⟩], [] => some (true, .tuple ⟨[.agg ⟨[.int .i64 (f a0_0 a0_1 a0_2 a0_3 a0_4 a0_5 a1_0 a1_1 a1_2 a1_3 a1_4 a1_5 a2_0 a2_1).1, .int .i64 (f a0_0 a0_1 a0_2 a0_3 a0_4 a0_5 a1_0 a1_1 a1_2 a1_3 a1_4 a1_5 a2_0 a2_1).2.1, .int .i64 (f a0_0 a0_1 a0_2 a0_3 a0_4 a0_5 a1_0 a1_1 a1_2 a1_3 a1_4 a1_5 a2_0 a2_1).2.2.1, .int .i64 (f a0_0 a0_1 a0_2 a0_3 a0_4 a0_5 a1_0 a1_1 a1_2 a1_3 a1_4 a1_5 a2_0 a2_1).2.2.2.1, .int .i64 (f a0_0 a0_1 a0_2 a0_3 a0_4 a0_5 a1_0 a1_1 a1_2 a1_3 a1_4 a1_5 a2_0 a2_1).2.2.2.2.1, .int .i64 (f a0_0 a0_1 a0_2 a0_3 a0_4 a0_5 a1_0 a1_1 a1_2 a1_3 a1_4 a1_5 a2_0 a2_1).2.2.2.2.2.1]⟩, .agg ⟨[.int .i64 (f a0_0 a0_1 a0_2 a0_3 a0_4 a0_5 a1_0 a1_1 a1_2 a1_3 a1_4 a1_5 a2_0 a2_1).2.2.2.2.2.2.1, .int .i64 (f a0_0 a0_1 a0_2 a0_3 a0_4 a0_5 a1_0 a1_1 a1_2 a1_3 a1_4 a1_5 a2_0 a2_1).2.2.2.2.2.2.2.1]⟩, .agg ⟨[.int .i64 (f a0_0 a0_1 a0_2 a0_3 a0_4 a0_5 a1_0 a1_1 a1_2 a1_3 a1_4 a1_5 a2_0 a2_1).2.2.2.2.2.2.2.2.1, .int .i64 (f a0_0 a0_1 a0_2 a0_3 a0_4 a0_5 a1_0 a1_1 a1_2 a1_3 a1_4 a1_5 a2_0 a2_1).2.2.2.2.2.2.2.2.2.1]⟩, .int .i64 (f a0_0 a0_1 a0_2 a0_3 a0_4 a0_5 a1_0 a1_1 a1_2 a1_3 a1_4 a1_5 a2_0 a2_1).2.2.2.2.2.2.2.2.2.2]⟩, [])
  | _, _ => none

def refraction_Decide.sp (f : Int → Int → (Int)) : HSpec
  | [.agg ⟨[.int .i64 a0_0, .int .i64 a0_1]⟩], [] => some (true, .int .i64 (f a0_0 a0_1), [])
  | _, _ => none

def refraction_Hits.sp (f : Int → Int → Int → Int → Int → Int → Int → Int → Int → Int → Int → Int → Int → Int → (Int × Int)) : HSpec
  | [.agg ⟨[.int .i64 a0_0, .int .i64 a0_1, .int .i64 a0_2, .int .i64 a0_3, .int .i64 a0_4, .int .i64 a0_5]⟩, .agg ⟨[.int .i64 a1_0, .int .i64 a1_1, .int .i64 a1_2, .int .i64 a1_3, .int .i64 a1_4, .int .i64 a1_5]⟩, .agg ⟨[.int .i64 a2_0, .int .i64 a2_1]⟩], [] => some (true, .tuple ⟨[.int .i64 (f a0_0 a0_1 a0_2 a0_3 a0_4 a0_5 a1_0 a1_1 a1_2 a1_3 a1_4 a1_5 a2_0 a2_1).1, .int .i64 (f a0_0 a0_1 a0_2 a0_3 a0_4 a0_5 a1_0 a1_1 a1_2 a1_3 a1_4 a1_5 a2_0 a2_1).2]⟩, [])
  | _, _ => none

def refraction_Critical.sp (f : Int → Int → (Int × Int × Int)) : HSpec
  | [.agg ⟨[.int .i64 a0_0, .int .i64 a0_1]⟩], [] => some (true, .tuple ⟨[.agg ⟨[.int .i64 (f a0_0 a0_1).1, .int .i64 (f a0_0 a0_1).2.1]⟩, .int .i64 (f a0_0 a0_1).2.2]⟩, [])
  | _, _ => none

def culetref27_Of.sp (f : Int → (Int × Int × Int)) : HSpec
  | [.int .i64 a0], [] => some (true, .tuple ⟨[.agg ⟨[.int .i64 (f a0).1, .int .i64 (f a0).2.1]⟩, .int .i64 (f a0).2.2]⟩, [])
  | _, _ => none

def culetref28_One.sp (f : (Int × Int)) : HSpec
  | [], [] => some (true, .agg ⟨[.int .i64 (f ).1, .int .i64 (f ).2]⟩, [])
  | _, _ => none

def culetlaw29_up.sp (f : (Int × Int × Int × Int × Int × Int)) : HSpec
  | [], [] => some (true, .agg ⟨[.int .i64 (f ).1, .int .i64 (f ).2.1, .int .i64 (f ).2.2.1, .int .i64 (f ).2.2.2.1, .int .i64 (f ).2.2.2.2.1, .int .i64 (f ).2.2.2.2.2]⟩, [])
  | _, _ => none

def culetlaw29_awake.sp (f : (Bool)) : HSpec
  | [], [] => some (true, .bool (f ), [])
  | _, _ => none

def culetref27_Valid.sp (f : Int → Int → (Bool)) : HSpec
  | [.agg ⟨[.int .i64 a0_0, .int .i64 a0_1]⟩], [] => some (true, .bool (f a0_0 a0_1), [])
  | _, _ => none

def culetref28_Calc_kept.sp (f : Int → Int → Int → Int → (Int × Int × Int)) : HSpec
  | [.pointer (some ⟨0, 0, none⟩), .agg ⟨[.int .i64 a1_0, .int .i64 a1_1]⟩, .int .i64 a2], [.cs [.int .i64 s0_0] 71] => some (true, .agg ⟨[.int .i64 (f s0_0 a1_0 a1_1 a2).1, .int .i64 (f s0_0 a1_0 a1_1 a2).2.1]⟩, [.cs [.int .i64 (f s0_0 a1_0 a1_1 a2).2.2] 71])
  | _, _ => none

def culetref27_both.sp (f : Int → Int → Int → Int → (Bool)) : HSpec
  | [.agg ⟨[.int .i64 a0_0, .int .i64 a0_1]⟩, .agg ⟨[.int .i64 a1_0, .int .i64 a1_1]⟩], [] => some (true, .bool (f a0_0 a0_1 a1_0 a1_1), [])
  | _, _ => none

def culetref27_checked.sp (f : Int → Int → (Int × Int × Int)) : HSpec
  | [.int .i64 a0, .int .i64 a1], [] => some (true, .tuple ⟨[.agg ⟨[.int .i64 (f a0 a1).1, .int .i64 (f a0 a1).2.1]⟩, .int .i64 (f a0 a1).2.2]⟩, [])
  | _, _ => none

def culetref27_Sub.sp (f : Int → Int → Int → Int → (Int × Int × Int)) : HSpec
  | [.agg ⟨[.int .i64 a0_0, .int .i64 a0_1]⟩, .agg ⟨[.int .i64 a1_0, .int .i64 a1_1]⟩], [] => some (true, .tuple ⟨[.agg ⟨[.int .i64 (f a0_0 a0_1 a1_0 a1_1).1, .int .i64 (f a0_0 a0_1 a1_0 a1_1).2.1]⟩, .int .i64 (f a0_0 a0_1 a1_0 a1_1).2.2]⟩, [])
  | _, _ => none

def culetref28_Calc_Sub.sp (f : Int → Int → Int → Int → Int → (Int × Int × Int)) : HSpec
  | [.pointer (some ⟨0, 0, none⟩), .agg ⟨[.int .i64 a1_0, .int .i64 a1_1]⟩, .agg ⟨[.int .i64 a2_0, .int .i64 a2_1]⟩], [.cs [.int .i64 s0_0] 71] => some (true, .agg ⟨[.int .i64 (f s0_0 a1_0 a1_1 a2_0 a2_1).1, .int .i64 (f s0_0 a1_0 a1_1 a2_0 a2_1).2.1]⟩, [.cs [.int .i64 (f s0_0 a1_0 a1_1 a2_0 a2_1).2.2] 71])
  | _, _ => none

def culetref27_floor.sp (f : Int → Int → (Int)) : HSpec
  | [.int .i64 a0, .int .i64 a1], [] => some (bif decide (a1 < 0) then IntKind.i64.wrap (-a1) != 0 else a1 != 0, .int .i64 (f a0 a1), [])
  | _, _ => none

def culetref27_ceil.sp (f : Int → Int → (Int)) : HSpec
  | [.int .i64 a0, .int .i64 a1], [] => some (bif decide (a1 < 0) then IntKind.i64.wrap (-a1) != 0 else a1 != 0, .int .i64 (f a0 a1), [])
  | _, _ => none

def culetref27_Mul.sp (f : Int → Int → Int → Int → (Int × Int × Int)) : HSpec
  | [.agg ⟨[.int .i64 a0_0, .int .i64 a0_1]⟩, .agg ⟨[.int .i64 a1_0, .int .i64 a1_1]⟩], [] => some (true, .tuple ⟨[.agg ⟨[.int .i64 (f a0_0 a0_1 a1_0 a1_1).1, .int .i64 (f a0_0 a0_1 a1_0 a1_1).2.1]⟩, .int .i64 (f a0_0 a0_1 a1_0 a1_1).2.2]⟩, [])
  | _, _ => none

def culetref28_Calc_Mul.sp (f : Int → Int → Int → Int → Int → (Int × Int × Int)) : HSpec
  | [.pointer (some ⟨0, 0, none⟩), .agg ⟨[.int .i64 a1_0, .int .i64 a1_1]⟩, .agg ⟨[.int .i64 a2_0, .int .i64 a2_1]⟩], [.cs [.int .i64 s0_0] 71] => some (true, .agg ⟨[.int .i64 (f s0_0 a1_0 a1_1 a2_0 a2_1).1, .int .i64 (f s0_0 a1_0 a1_1 a2_0 a2_1).2.1]⟩, [.cs [.int .i64 (f s0_0 a1_0 a1_1 a2_0 a2_1).2.2] 71])
  | _, _ => none

def culetref27_Square.sp (f : Int → Int → (Int × Int × Int)) : HSpec
  | [.agg ⟨[.int .i64 a0_0, .int .i64 a0_1]⟩], [] => some (true, .tuple ⟨[.agg ⟨[.int .i64 (f a0_0 a0_1).1, .int .i64 (f a0_0 a0_1).2.1]⟩, .int .i64 (f a0_0 a0_1).2.2]⟩, [])
  | _, _ => none

def culetref28_Calc_Square.sp (f : Int → Int → Int → (Int × Int × Int)) : HSpec
  | [.pointer (some ⟨0, 0, none⟩), .agg ⟨[.int .i64 a1_0, .int .i64 a1_1]⟩], [.cs [.int .i64 s0_0] 71] => some (true, .agg ⟨[.int .i64 (f s0_0 a1_0 a1_1).1, .int .i64 (f s0_0 a1_0 a1_1).2.1]⟩, [.cs [.int .i64 (f s0_0 a1_0 a1_1).2.2] 71])
  | _, _ => none

def culetref29_Radicand.sp (f : Int → Int → Int → Int → (Int × Int × Int)) : HSpec
  | [.agg ⟨[.int .i64 a0_0, .int .i64 a0_1]⟩, .agg ⟨[.int .i64 a1_0, .int .i64 a1_1]⟩], [] => some (true, .tuple ⟨[.agg ⟨[.int .i64 (f a0_0 a0_1 a1_0 a1_1).1, .int .i64 (f a0_0 a0_1 a1_0 a1_1).2.1]⟩, .int .i64 (f a0_0 a0_1 a1_0 a1_1).2.2]⟩, [])
  | _, _ => none

def culetref28_Valid.sp (f : Int → Int → Int → Int → Int → Int → (Bool)) : HSpec
  | [.agg ⟨[.int .i64 a0_0, .int .i64 a0_1, .int .i64 a0_2, .int .i64 a0_3, .int .i64 a0_4, .int .i64 a0_5]⟩], [] => some (true, .bool (f a0_0 a0_1 a0_2 a0_3 a0_4 a0_5), [])
  | _, _ => none

def culetref28_Calc_only.sp (f : Int → Int → Int → (Int × Int × Int × Int)) : HSpec
  | [.pointer (some ⟨0, 0, none⟩), .agg ⟨[.int .i64 a1_0, .int .i64 a1_1]⟩], [.cs [.int .i64 s0_0] 71] => some (true, .tuple ⟨[.agg ⟨[.int .i64 (f s0_0 a1_0 a1_1).1, .int .i64 (f s0_0 a1_0 a1_1).2.1]⟩, .int .i64 (f s0_0 a1_0 a1_1).2.2.1]⟩, [.cs [.int .i64 (f s0_0 a1_0 a1_1).2.2.2] 71])
  | _, _ => none

def culetref27_Add.sp (f : Int → Int → Int → Int → (Int × Int × Int)) : HSpec
  | [.agg ⟨[.int .i64 a0_0, .int .i64 a0_1]⟩, .agg ⟨[.int .i64 a1_0, .int .i64 a1_1]⟩], [] => some (true, .tuple ⟨[.agg ⟨[.int .i64 (f a0_0 a0_1 a1_0 a1_1).1, .int .i64 (f a0_0 a0_1 a1_0 a1_1).2.1]⟩, .int .i64 (f a0_0 a0_1 a1_0 a1_1).2.2]⟩, [])
  | _, _ => none

def culetref28_Calc_Add.sp (f : Int → Int → Int → Int → Int → (Int × Int × Int)) : HSpec
  | [.pointer (some ⟨0, 0, none⟩), .agg ⟨[.int .i64 a1_0, .int .i64 a1_1]⟩, .agg ⟨[.int .i64 a2_0, .int .i64 a2_1]⟩], [.cs [.int .i64 s0_0] 71] => some (true, .agg ⟨[.int .i64 (f s0_0 a1_0 a1_1 a2_0 a2_1).1, .int .i64 (f s0_0 a1_0 a1_1 a2_0 a2_1).2.1]⟩, [.cs [.int .i64 (f s0_0 a1_0 a1_1 a2_0 a2_1).2.2] 71])
  | _, _ => none

def culetref28_Dot.sp (f : Int → Int → Int → Int → Int → Int → Int → Int → Int → Int → Int → Int → (Int × Int × Int)) : HSpec
  | [.agg ⟨[.int .i64 a0_0, .int .i64 a0_1, .int .i64 a0_2, .int .i64 a0_3, .int .i64 a0_4, .int .i64 a0_5]⟩, .agg ⟨[.int .i64 a1_0, .int .i64 a1_1, .int .i64 a1_2, .int .i64 a1_3, .int .i64 a1_4, .int .i64 a1_5]⟩], [] => some (true, .tuple ⟨[.agg ⟨[.int .i64 (f a0_0 a0_1 a0_2 a0_3 a0_4 a0_5 a1_0 a1_1 a1_2 a1_3 a1_4 a1_5).1, .int .i64 (f a0_0 a0_1 a0_2 a0_3 a0_4 a0_5 a1_0 a1_1 a1_2 a1_3 a1_4 a1_5).2.1]⟩, .int .i64 (f a0_0 a0_1 a0_2 a0_3 a0_4 a0_5 a1_0 a1_1 a1_2 a1_3 a1_4 a1_5).2.2]⟩, [])
  | _, _ => none

def culetref27_Sign.sp (f : Int → Int → (Int)) : HSpec
  | [.agg ⟨[.int .i64 a0_0, .int .i64 a0_1]⟩], [] => some (true, .int .i64 (f a0_0 a0_1), [])
  | _, _ => none

def culetref27_Sqrt.sp (f : Int → Int → (Int × Int × Int)) : HSpec
  | [.agg ⟨[.int .i64 a0_0, .int .i64 a0_1]⟩], [] => some (true, .tuple ⟨[.agg ⟨[.int .i64 (f a0_0 a0_1).1, .int .i64 (f a0_0 a0_1).2.1]⟩, .int .i64 (f a0_0 a0_1).2.2]⟩, [])
  | _, _ => none

def culetref28_Calc_Sqrt.sp (f : Int → Int → Int → (Int × Int × Int)) : HSpec
  | [.pointer (some ⟨0, 0, none⟩), .agg ⟨[.int .i64 a1_0, .int .i64 a1_1]⟩], [.cs [.int .i64 s0_0] 71] => some (true, .agg ⟨[.int .i64 (f s0_0 a1_0 a1_1).1, .int .i64 (f s0_0 a1_0 a1_1).2.1]⟩, [.cs [.int .i64 (f s0_0 a1_0 a1_1).2.2] 71])
  | _, _ => none

def culetref27_Neg.sp (f : Int → Int → (Int × Int × Int)) : HSpec
  | [.agg ⟨[.int .i64 a0_0, .int .i64 a0_1]⟩], [] => some (true, .tuple ⟨[.agg ⟨[.int .i64 (f a0_0 a0_1).1, .int .i64 (f a0_0 a0_1).2.1]⟩, .int .i64 (f a0_0 a0_1).2.2]⟩, [])
  | _, _ => none

def culetref28_Calc_Neg.sp (f : Int → Int → Int → (Int × Int × Int)) : HSpec
  | [.pointer (some ⟨0, 0, none⟩), .agg ⟨[.int .i64 a1_0, .int .i64 a1_1]⟩], [.cs [.int .i64 s0_0] 71] => some (true, .agg ⟨[.int .i64 (f s0_0 a1_0 a1_1).1, .int .i64 (f s0_0 a1_0 a1_1).2.1]⟩, [.cs [.int .i64 (f s0_0 a1_0 a1_1).2.2] 71])
  | _, _ => none

def culetref28_Calc_done.sp (f : Int → Int → Int → Int → Int → Int → Int → (Int × Int × Int × Int × Int × Int × Int × Int)) : HSpec
  | [.pointer (some ⟨0, 0, none⟩), .agg ⟨[.int .i64 a1_0, .int .i64 a1_1, .int .i64 a1_2, .int .i64 a1_3, .int .i64 a1_4, .int .i64 a1_5]⟩], [.cs [.int .i64 s0_0] 71] => some (true, .tuple ⟨[.agg ⟨[.int .i64 (f s0_0 a1_0 a1_1 a1_2 a1_3 a1_4 a1_5).1, .int .i64 (f s0_0 a1_0 a1_1 a1_2 a1_3 a1_4 a1_5).2.1, .int .i64 (f s0_0 a1_0 a1_1 a1_2 a1_3 a1_4 a1_5).2.2.1, .int .i64 (f s0_0 a1_0 a1_1 a1_2 a1_3 a1_4 a1_5).2.2.2.1, .int .i64 (f s0_0 a1_0 a1_1 a1_2 a1_3 a1_4 a1_5).2.2.2.2.1, .int .i64 (f s0_0 a1_0 a1_1 a1_2 a1_3 a1_4 a1_5).2.2.2.2.2.1]⟩, .int .i64 (f s0_0 a1_0 a1_1 a1_2 a1_3 a1_4 a1_5).2.2.2.2.2.2.1]⟩, [.cs [.int .i64 (f s0_0 a1_0 a1_1 a1_2 a1_3 a1_4 a1_5).2.2.2.2.2.2.2] 71])
  | _, _ => none

def culetref28_Scale.sp (f : Int → Int → Int → Int → Int → Int → Int → Int → (Int × Int × Int × Int × Int × Int × Int)) : HSpec
  | [.agg ⟨[.int .i64 a0_0, .int .i64 a0_1, .int .i64 a0_2, .int .i64 a0_3, .int .i64 a0_4, .int .i64 a0_5]⟩, .agg ⟨[.int .i64 a1_0, .int .i64 a1_1]⟩], [] => some (true, .tuple ⟨[.agg ⟨[.int .i64 (f a0_0 a0_1 a0_2 a0_3 a0_4 a0_5 a1_0 a1_1).1, .int .i64 (f a0_0 a0_1 a0_2 a0_3 a0_4 a0_5 a1_0 a1_1).2.1, .int .i64 (f a0_0 a0_1 a0_2 a0_3 a0_4 a0_5 a1_0 a1_1).2.2.1, .int .i64 (f a0_0 a0_1 a0_2 a0_3 a0_4 a0_5 a1_0 a1_1).2.2.2.1, .int .i64 (f a0_0 a0_1 a0_2 a0_3 a0_4 a0_5 a1_0 a1_1).2.2.2.2.1, .int .i64 (f a0_0 a0_1 a0_2 a0_3 a0_4 a0_5 a1_0 a1_1).2.2.2.2.2.1]⟩, .int .i64 (f a0_0 a0_1 a0_2 a0_3 a0_4 a0_5 a1_0 a1_1).2.2.2.2.2.2]⟩, [])
  | _, _ => none

def culetref28_Add.sp (f : Int → Int → Int → Int → Int → Int → Int → Int → Int → Int → Int → Int → (Int × Int × Int × Int × Int × Int × Int)) : HSpec
  | [.agg ⟨[.int .i64 a0_0, .int .i64 a0_1, .int .i64 a0_2, .int .i64 a0_3, .int .i64 a0_4, .int .i64 a0_5]⟩, .agg ⟨[.int .i64 a1_0, .int .i64 a1_1, .int .i64 a1_2, .int .i64 a1_3, .int .i64 a1_4, .int .i64 a1_5]⟩], [] => some (true, .tuple ⟨[.agg ⟨[.int .i64 (f a0_0 a0_1 a0_2 a0_3 a0_4 a0_5 a1_0 a1_1 a1_2 a1_3 a1_4 a1_5).1, .int .i64 (f a0_0 a0_1 a0_2 a0_3 a0_4 a0_5 a1_0 a1_1 a1_2 a1_3 a1_4 a1_5).2.1, .int .i64 (f a0_0 a0_1 a0_2 a0_3 a0_4 a0_5 a1_0 a1_1 a1_2 a1_3 a1_4 a1_5).2.2.1, .int .i64 (f a0_0 a0_1 a0_2 a0_3 a0_4 a0_5 a1_0 a1_1 a1_2 a1_3 a1_4 a1_5).2.2.2.1, .int .i64 (f a0_0 a0_1 a0_2 a0_3 a0_4 a0_5 a1_0 a1_1 a1_2 a1_3 a1_4 a1_5).2.2.2.2.1, .int .i64 (f a0_0 a0_1 a0_2 a0_3 a0_4 a0_5 a1_0 a1_1 a1_2 a1_3 a1_4 a1_5).2.2.2.2.2.1]⟩, .int .i64 (f a0_0 a0_1 a0_2 a0_3 a0_4 a0_5 a1_0 a1_1 a1_2 a1_3 a1_4 a1_5).2.2.2.2.2.2]⟩, [])
  | _, _ => none

def culetref29_Refract.sp (f : Int → Int → Int → Int → Int → Int → Int → Int → Int → Int → Int → Int → Int → Int → (Int × Int × Int × Int × Int × Int × Int × Int × Int × Int × Int)) : HSpec
  | [.agg ⟨[.int .i64 a0_0, .int .i64 a0_1, .int .i64 a0_2, .int .i64 a0_3, .int .i64 a0_4, .int .i64 a0_5]⟩, .agg ⟨[.int .i64 a1_0, .int .i64 a1_1, .int .i64 a1_2, .int .i64 a1_3, .int .i64 a1_4, .int .i64 a1_5]⟩, .agg ⟨[.int .i64 a2_0, .int .i64 a2_1]⟩], [] => some (true, .tuple ⟨[.agg ⟨[.int .i64 (f a0_0 a0_1 a0_2 a0_3 a0_4 a0_5 a1_0 a1_1 a1_2 a1_3 a1_4 a1_5 a2_0 a2_1).1, .int .i64 (f a0_0 a0_1 a0_2 a0_3 a0_4 a0_5 a1_0 a1_1 a1_2 a1_3 a1_4 a1_5 a2_0 a2_1).2.1, .int .i64 (f a0_0 a0_1 a0_2 a0_3 a0_4 a0_5 a1_0 a1_1 a1_2 a1_3 a1_4 a1_5 a2_0 a2_1).2.2.1, .int .i64 (f a0_0 a0_1 a0_2 a0_3 a0_4 a0_5 a1_0 a1_1 a1_2 a1_3 a1_4 a1_5 a2_0 a2_1).2.2.2.1, .int .i64 (f a0_0 a0_1 a0_2 a0_3 a0_4 a0_5 a1_0 a1_1 a1_2 a1_3 a1_4 a1_5 a2_0 a2_1).2.2.2.2.1, .int .i64 (f a0_0 a0_1 a0_2 a0_3 a0_4 a0_5 a1_0 a1_1 a1_2 a1_3 a1_4 a1_5 a2_0 a2_1).2.2.2.2.2.1]⟩, .agg ⟨[.int .i64 (f a0_0 a0_1 a0_2 a0_3 a0_4 a0_5 a1_0 a1_1 a1_2 a1_3 a1_4 a1_5 a2_0 a2_1).2.2.2.2.2.2.1, .int .i64 (f a0_0 a0_1 a0_2 a0_3 a0_4 a0_5 a1_0 a1_1 a1_2 a1_3 a1_4 a1_5 a2_0 a2_1).2.2.2.2.2.2.2.1]⟩, .agg ⟨[.int .i64 (f a0_0 a0_1 a0_2 a0_3 a0_4 a0_5 a1_0 a1_1 a1_2 a1_3 a1_4 a1_5 a2_0 a2_1).2.2.2.2.2.2.2.2.1, .int .i64 (f a0_0 a0_1 a0_2 a0_3 a0_4 a0_5 a1_0 a1_1 a1_2 a1_3 a1_4 a1_5 a2_0 a2_1).2.2.2.2.2.2.2.2.2.1]⟩, .int .i64 (f a0_0 a0_1 a0_2 a0_3 a0_4 a0_5 a1_0 a1_1 a1_2 a1_3 a1_4 a1_5 a2_0 a2_1).2.2.2.2.2.2.2.2.2.2]⟩, [])
  | _, _ => none

def culetlaw29_theirs.sp (f : Int → Int → Int → Int → Int → Int → (Int × Int × Int × Int × Int × Int)) : HSpec
  | [.agg ⟨[.int .i64 a0_0, .int .i64 a0_1, .int .i64 a0_2, .int .i64 a0_3, .int .i64 a0_4, .int .i64 a0_5]⟩], [] => some (true, .agg ⟨[.int .i64 (f a0_0 a0_1 a0_2 a0_3 a0_4 a0_5).1, .int .i64 (f a0_0 a0_1 a0_2 a0_3 a0_4 a0_5).2.1, .int .i64 (f a0_0 a0_1 a0_2 a0_3 a0_4 a0_5).2.2.1, .int .i64 (f a0_0 a0_1 a0_2 a0_3 a0_4 a0_5).2.2.2.1, .int .i64 (f a0_0 a0_1 a0_2 a0_3 a0_4 a0_5).2.2.2.2.1, .int .i64 (f a0_0 a0_1 a0_2 a0_3 a0_4 a0_5).2.2.2.2.2]⟩, [])
  | _, _ => none

def culetlaw29_RefractionRefract.sp (f : Int → Int → Int → Int → Int → Int → Int → Int → Int → Int → Int → Int → Int → Int → (Bool)) : HSpec
  | [.agg ⟨[.int .i64 a0_0, .int .i64 a0_1, .int .i64 a0_2, .int .i64 a0_3, .int .i64 a0_4, .int .i64 a0_5]⟩, .agg ⟨[.int .i64 a1_0, .int .i64 a1_1, .int .i64 a1_2, .int .i64 a1_3, .int .i64 a1_4, .int .i64 a1_5]⟩, .agg ⟨[.int .i64 a2_0, .int .i64 a2_1]⟩], [] => some (true, .bool (f a0_0 a0_1 a0_2 a0_3 a0_4 a0_5 a1_0 a1_1 a1_2 a1_3 a1_4 a1_5 a2_0 a2_1), [])
  | _, _ => none

def culetlaw29_RefractionTotal.sp (f : Int → Int → Int → Int → Int → Int → Int → Int → Int → Int → Int → Int → Int → Int → (Bool)) : HSpec
  | [.agg ⟨[.int .i64 a0_0, .int .i64 a0_1, .int .i64 a0_2, .int .i64 a0_3, .int .i64 a0_4, .int .i64 a0_5]⟩, .agg ⟨[.int .i64 a1_0, .int .i64 a1_1, .int .i64 a1_2, .int .i64 a1_3, .int .i64 a1_4, .int .i64 a1_5]⟩, .agg ⟨[.int .i64 a2_0, .int .i64 a2_1]⟩], [] => some (true, .bool (f a0_0 a0_1 a0_2 a0_3 a0_4 a0_5 a1_0 a1_1 a1_2 a1_3 a1_4 a1_5 a2_0 a2_1), [])
  | _, _ => none

def interval_Inside.sp (f : Int → Int → Int → Int → (Bool)) : HSpec
  | [.agg ⟨[.int .i64 a0_0, .int .i64 a0_1]⟩, .agg ⟨[.int .i64 a1_0, .int .i64 a1_1]⟩], [] => some (true, .bool (f a0_0 a0_1 a1_0 a1_1), [])
  | _, _ => none

def direction_Inside.sp (f : Int → Int → Int → Int → Int → Int → Int → Int → Int → Int → Int → Int → (Bool)) : HSpec
  | [.agg ⟨[.int .i64 a0_0, .int .i64 a0_1, .int .i64 a0_2, .int .i64 a0_3, .int .i64 a0_4, .int .i64 a0_5]⟩, .agg ⟨[.int .i64 a1_0, .int .i64 a1_1, .int .i64 a1_2, .int .i64 a1_3, .int .i64 a1_4, .int .i64 a1_5]⟩], [] => some (true, .bool (f a0_0 a0_1 a0_2 a0_3 a0_4 a0_5 a1_0 a1_1 a1_2 a1_3 a1_4 a1_5), [])
  | _, _ => none

def culetlaw29_meet.sp (f : Int → Int → Int → Int → (Bool)) : HSpec
  | [.agg ⟨[.int .i64 a0_0, .int .i64 a0_1]⟩, .agg ⟨[.int .i64 a1_0, .int .i64 a1_1]⟩], [] => some (true, .bool (f a0_0 a0_1 a1_0 a1_1), [])
  | _, _ => none

def culetlaw29_RefractionStraight.sp (f : Int → Int → Int → Int → Int → Int → Int → Int → Int → Int → Int → Int → (Bool)) : HSpec
  | [.agg ⟨[.int .i64 a0_0, .int .i64 a0_1, .int .i64 a0_2, .int .i64 a0_3, .int .i64 a0_4, .int .i64 a0_5]⟩, .agg ⟨[.int .i64 a1_0, .int .i64 a1_1, .int .i64 a1_2, .int .i64 a1_3, .int .i64 a1_4, .int .i64 a1_5]⟩], [] => some (true, .bool (f a0_0 a0_1 a0_2 a0_3 a0_4 a0_5 a1_0 a1_1 a1_2 a1_3 a1_4 a1_5), [])
  | _, _ => none

def direction_calc_sub.sp (f : Int → Int → Int → Int → Int → (Int × Int × Int)) : HSpec
  | [.pointer (some ⟨0, 0, none⟩), .agg ⟨[.int .i64 a1_0, .int .i64 a1_1]⟩, .agg ⟨[.int .i64 a2_0, .int .i64 a2_1]⟩], [.cs [.int .i64 s0_0] 79] => some (true, .agg ⟨[.int .i64 (f s0_0 a1_0 a1_1 a2_0 a2_1).1, .int .i64 (f s0_0 a1_0 a1_1 a2_0 a2_1).2.1]⟩, [.cs [.int .i64 (f s0_0 a1_0 a1_1 a2_0 a2_1).2.2] 79])
  | _, _ => none

def direction_Sub.sp (f : Int → Int → Int → Int → Int → Int → Int → Int → Int → Int → Int → Int → (Int × Int × Int × Int × Int × Int × Int)) : HSpec
  | [.agg ⟨[.int .i64 a0_0, .int .i64 a0_1, .int .i64 a0_2, .int .i64 a0_3, .int .i64 a0_4, .int .i64 a0_5]⟩, .agg ⟨[.int .i64 a1_0, .int .i64 a1_1, .int .i64 a1_2, .int .i64 a1_3, .int .i64 a1_4, .int .i64 a1_5]⟩], [] => some (true, .tuple ⟨[.agg ⟨[.int .i64 (f a0_0 a0_1 a0_2 a0_3 a0_4 a0_5 a1_0 a1_1 a1_2 a1_3 a1_4 a1_5).1, .int .i64 (f a0_0 a0_1 a0_2 a0_3 a0_4 a0_5 a1_0 a1_1 a1_2 a1_3 a1_4 a1_5).2.1, .int .i64 (f a0_0 a0_1 a0_2 a0_3 a0_4 a0_5 a1_0 a1_1 a1_2 a1_3 a1_4 a1_5).2.2.1, .int .i64 (f a0_0 a0_1 a0_2 a0_3 a0_4 a0_5 a1_0 a1_1 a1_2 a1_3 a1_4 a1_5).2.2.2.1, .int .i64 (f a0_0 a0_1 a0_2 a0_3 a0_4 a0_5 a1_0 a1_1 a1_2 a1_3 a1_4 a1_5).2.2.2.2.1, .int .i64 (f a0_0 a0_1 a0_2 a0_3 a0_4 a0_5 a1_0 a1_1 a1_2 a1_3 a1_4 a1_5).2.2.2.2.2.1]⟩, .int .i64 (f a0_0 a0_1 a0_2 a0_3 a0_4 a0_5 a1_0 a1_1 a1_2 a1_3 a1_4 a1_5).2.2.2.2.2.2]⟩, [])
  | _, _ => none

def refraction_calc_less.sp (f : Int → Int → Int → Int → Int → Int → Int → Int → Int → Int → Int → Int → Int → (Int × Int × Int × Int × Int × Int × Int)) : HSpec
  | [.pointer (some ⟨0, 0, none⟩), .agg ⟨[.int .i64 a1_0, .int .i64 a1_1, .int .i64 a1_2, .int .i64 a1_3, .int .i64 a1_4, .int .i64 a1_5]⟩, .agg ⟨[.int .i64 a2_0, .int .i64 a2_1, .int .i64 a2_2, .int .i64 a2_3, .int .i64 a2_4, .int .i64 a2_5]⟩], [.cs [.int .i64 s0_0] 63] => some (true, .agg ⟨[.int .i64 (f s0_0 a1_0 a1_1 a1_2 a1_3 a1_4 a1_5 a2_0 a2_1 a2_2 a2_3 a2_4 a2_5).1, .int .i64 (f s0_0 a1_0 a1_1 a1_2 a1_3 a1_4 a1_5 a2_0 a2_1 a2_2 a2_3 a2_4 a2_5).2.1, .int .i64 (f s0_0 a1_0 a1_1 a1_2 a1_3 a1_4 a1_5 a2_0 a2_1 a2_2 a2_3 a2_4 a2_5).2.2.1, .int .i64 (f s0_0 a1_0 a1_1 a1_2 a1_3 a1_4 a1_5 a2_0 a2_1 a2_2 a2_3 a2_4 a2_5).2.2.2.1, .int .i64 (f s0_0 a1_0 a1_1 a1_2 a1_3 a1_4 a1_5 a2_0 a2_1 a2_2 a2_3 a2_4 a2_5).2.2.2.2.1, .int .i64 (f s0_0 a1_0 a1_1 a1_2 a1_3 a1_4 a1_5 a2_0 a2_1 a2_2 a2_3 a2_4 a2_5).2.2.2.2.2.1]⟩, [.cs [.int .i64 (f s0_0 a1_0 a1_1 a1_2 a1_3 a1_4 a1_5 a2_0 a2_1 a2_2 a2_3 a2_4 a2_5).2.2.2.2.2.2] 63])
  | _, _ => none

def refraction_Reflect.sp (f : Int → Int → Int → Int → Int → Int → Int → Int → Int → Int → Int → Int → (Int × Int × Int × Int × Int × Int × Int)) : HSpec
  | [.agg ⟨[.int .i64 a0_0, .int .i64 a0_1, .int .i64 a0_2, .int .i64 a0_3, .int .i64 a0_4, .int .i64 a0_5]⟩, .agg ⟨[.int .i64 a1_0, .int .i64 a1_1, .int .i64 a1_2, .int .i64 a1_3, .int .i64 a1_4, .int .i64 a1_5]⟩], [] => some (true, .tuple ⟨[.agg ⟨[.int .i64 (f a0_0 a0_1 a0_2 a0_3 a0_4 a0_5 a1_0 a1_1 a1_2 a1_3 a1_4 a1_5).1, .int .i64 (f a0_0 a0_1 a0_2 a0_3 a0_4 a0_5 a1_0 a1_1 a1_2 a1_3 a1_4 a1_5).2.1, .int .i64 (f a0_0 a0_1 a0_2 a0_3 a0_4 a0_5 a1_0 a1_1 a1_2 a1_3 a1_4 a1_5).2.2.1, .int .i64 (f a0_0 a0_1 a0_2 a0_3 a0_4 a0_5 a1_0 a1_1 a1_2 a1_3 a1_4 a1_5).2.2.2.1, .int .i64 (f a0_0 a0_1 a0_2 a0_3 a0_4 a0_5 a1_0 a1_1 a1_2 a1_3 a1_4 a1_5).2.2.2.2.1, .int .i64 (f a0_0 a0_1 a0_2 a0_3 a0_4 a0_5 a1_0 a1_1 a1_2 a1_3 a1_4 a1_5).2.2.2.2.2.1]⟩, .int .i64 (f a0_0 a0_1 a0_2 a0_3 a0_4 a0_5 a1_0 a1_1 a1_2 a1_3 a1_4 a1_5).2.2.2.2.2.2]⟩, [])
  | _, _ => none

def culetref28_Sub.sp (f : Int → Int → Int → Int → Int → Int → Int → Int → Int → Int → Int → Int → (Int × Int × Int × Int × Int × Int × Int)) : HSpec
  | [.agg ⟨[.int .i64 a0_0, .int .i64 a0_1, .int .i64 a0_2, .int .i64 a0_3, .int .i64 a0_4, .int .i64 a0_5]⟩, .agg ⟨[.int .i64 a1_0, .int .i64 a1_1, .int .i64 a1_2, .int .i64 a1_3, .int .i64 a1_4, .int .i64 a1_5]⟩], [] => some (true, .tuple ⟨[.agg ⟨[.int .i64 (f a0_0 a0_1 a0_2 a0_3 a0_4 a0_5 a1_0 a1_1 a1_2 a1_3 a1_4 a1_5).1, .int .i64 (f a0_0 a0_1 a0_2 a0_3 a0_4 a0_5 a1_0 a1_1 a1_2 a1_3 a1_4 a1_5).2.1, .int .i64 (f a0_0 a0_1 a0_2 a0_3 a0_4 a0_5 a1_0 a1_1 a1_2 a1_3 a1_4 a1_5).2.2.1, .int .i64 (f a0_0 a0_1 a0_2 a0_3 a0_4 a0_5 a1_0 a1_1 a1_2 a1_3 a1_4 a1_5).2.2.2.1, .int .i64 (f a0_0 a0_1 a0_2 a0_3 a0_4 a0_5 a1_0 a1_1 a1_2 a1_3 a1_4 a1_5).2.2.2.2.1, .int .i64 (f a0_0 a0_1 a0_2 a0_3 a0_4 a0_5 a1_0 a1_1 a1_2 a1_3 a1_4 a1_5).2.2.2.2.2.1]⟩, .int .i64 (f a0_0 a0_1 a0_2 a0_3 a0_4 a0_5 a1_0 a1_1 a1_2 a1_3 a1_4 a1_5).2.2.2.2.2.2]⟩, [])
  | _, _ => none

def culetref29_Reflect.sp (f : Int → Int → Int → Int → Int → Int → Int → Int → Int → Int → Int → Int → (Int × Int × Int × Int × Int × Int × Int)) : HSpec
  | [.agg ⟨[.int .i64 a0_0, .int .i64 a0_1, .int .i64 a0_2, .int .i64 a0_3, .int .i64 a0_4, .int .i64 a0_5]⟩, .agg ⟨[.int .i64 a1_0, .int .i64 a1_1, .int .i64 a1_2, .int .i64 a1_3, .int .i64 a1_4, .int .i64 a1_5]⟩], [] => some (true, .tuple ⟨[.agg ⟨[.int .i64 (f a0_0 a0_1 a0_2 a0_3 a0_4 a0_5 a1_0 a1_1 a1_2 a1_3 a1_4 a1_5).1, .int .i64 (f a0_0 a0_1 a0_2 a0_3 a0_4 a0_5 a1_0 a1_1 a1_2 a1_3 a1_4 a1_5).2.1, .int .i64 (f a0_0 a0_1 a0_2 a0_3 a0_4 a0_5 a1_0 a1_1 a1_2 a1_3 a1_4 a1_5).2.2.1, .int .i64 (f a0_0 a0_1 a0_2 a0_3 a0_4 a0_5 a1_0 a1_1 a1_2 a1_3 a1_4 a1_5).2.2.2.1, .int .i64 (f a0_0 a0_1 a0_2 a0_3 a0_4 a0_5 a1_0 a1_1 a1_2 a1_3 a1_4 a1_5).2.2.2.2.1, .int .i64 (f a0_0 a0_1 a0_2 a0_3 a0_4 a0_5 a1_0 a1_1 a1_2 a1_3 a1_4 a1_5).2.2.2.2.2.1]⟩, .int .i64 (f a0_0 a0_1 a0_2 a0_3 a0_4 a0_5 a1_0 a1_1 a1_2 a1_3 a1_4 a1_5).2.2.2.2.2.2]⟩, [])
  | _, _ => none

def culetref29_Decide.sp (f : Int → Int → (Int)) : HSpec
  | [.agg ⟨[.int .i64 a0_0, .int .i64 a0_1]⟩], [] => some (true, .int .i64 (f a0_0 a0_1), [])
  | _, _ => none

def culetref29_Hits.sp (f : Int → Int → Int → Int → Int → Int → Int → Int → Int → Int → Int → Int → Int → Int → (Int × Int)) : HSpec
  | [.agg ⟨[.int .i64 a0_0, .int .i64 a0_1, .int .i64 a0_2, .int .i64 a0_3, .int .i64 a0_4, .int .i64 a0_5]⟩, .agg ⟨[.int .i64 a1_0, .int .i64 a1_1, .int .i64 a1_2, .int .i64 a1_3, .int .i64 a1_4, .int .i64 a1_5]⟩, .agg ⟨[.int .i64 a2_0, .int .i64 a2_1]⟩], [] => some (true, .tuple ⟨[.int .i64 (f a0_0 a0_1 a0_2 a0_3 a0_4 a0_5 a1_0 a1_1 a1_2 a1_3 a1_4 a1_5 a2_0 a2_1).1, .int .i64 (f a0_0 a0_1 a0_2 a0_3 a0_4 a0_5 a1_0 a1_1 a1_2 a1_3 a1_4 a1_5 a2_0 a2_1).2]⟩, [])
  | _, _ => none

def culetref27_Div.sp (f : Int → Int → Int → Int → (Int × Int × Int)) : HSpec
  | [.agg ⟨[.int .i64 a0_0, .int .i64 a0_1]⟩, .agg ⟨[.int .i64 a1_0, .int .i64 a1_1]⟩], [] => some (true, .tuple ⟨[.agg ⟨[.int .i64 (f a0_0 a0_1 a1_0 a1_1).1, .int .i64 (f a0_0 a0_1 a1_0 a1_1).2.1]⟩, .int .i64 (f a0_0 a0_1 a1_0 a1_1).2.2]⟩, [])
  | _, _ => none

def culetref28_Calc_Div.sp (f : Int → Int → Int → Int → Int → (Int × Int × Int)) : HSpec
  | [.pointer (some ⟨0, 0, none⟩), .agg ⟨[.int .i64 a1_0, .int .i64 a1_1]⟩, .agg ⟨[.int .i64 a2_0, .int .i64 a2_1]⟩], [.cs [.int .i64 s0_0] 71] => some (true, .agg ⟨[.int .i64 (f s0_0 a1_0 a1_1 a2_0 a2_1).1, .int .i64 (f s0_0 a1_0 a1_1 a2_0 a2_1).2.1]⟩, [.cs [.int .i64 (f s0_0 a1_0 a1_1 a2_0 a2_1).2.2] 71])
  | _, _ => none

def culetref29_Critical.sp (f : Int → Int → (Int × Int × Int)) : HSpec
  | [.agg ⟨[.int .i64 a0_0, .int .i64 a0_1]⟩], [] => some (true, .tuple ⟨[.agg ⟨[.int .i64 (f a0_0 a0_1).1, .int .i64 (f a0_0 a0_1).2.1]⟩, .int .i64 (f a0_0 a0_1).2.2]⟩, [])
  | _, _ => none

def culetlaw29_RefractionForms.sp (f : Int → Int → Int → Int → Int → Int → Int → Int → Int → Int → Int → Int → Int → Int → (Bool)) : HSpec
  | [.agg ⟨[.int .i64 a0_0, .int .i64 a0_1, .int .i64 a0_2, .int .i64 a0_3, .int .i64 a0_4, .int .i64 a0_5]⟩, .agg ⟨[.int .i64 a1_0, .int .i64 a1_1, .int .i64 a1_2, .int .i64 a1_3, .int .i64 a1_4, .int .i64 a1_5]⟩, .agg ⟨[.int .i64 a2_0, .int .i64 a2_1]⟩], [] => some (true, .bool (f a0_0 a0_1 a0_2 a0_3 a0_4 a0_5 a1_0 a1_1 a1_2 a1_3 a1_4 a1_5 a2_0 a2_1), [])
  | _, _ => none

def culetlaw28_within.sp (f : Int → Int → Int → Int → (Int × Int)) (p : Int → Int → Int → Int → Bool) : HSpec
  | [.agg ⟨[.int .i64 a0_0, .int .i64 a0_1]⟩, .int .u32 a1, .int .u32 a2], [] => some (p a0_0 a0_1 a1 a2, .agg ⟨[.int .i64 (f a0_0 a0_1 a1 a2).1, .int .i64 (f a0_0 a0_1 a1 a2).2]⟩, [])
  | _, _ => none

def culetlaw28_Part.sp (f : Int → Int → Int → Int → Int → Int → Int → Int → Int → Int → Int → Int → (Int × Int × Int × Int × Int × Int)) (p : Int → Int → Int → Int → Int → Int → Int → Int → Int → Int → Int → Int → Bool) : HSpec
  | [.agg ⟨[.int .i64 a0_0, .int .i64 a0_1, .int .i64 a0_2, .int .i64 a0_3, .int .i64 a0_4, .int .i64 a0_5]⟩, .agg ⟨[.int .u32 a1_0, .int .u32 a1_1, .int .u32 a1_2, .int .u32 a1_3, .int .u32 a1_4, .int .u32 a1_5]⟩], [] => some (p a0_0 a0_1 a0_2 a0_3 a0_4 a0_5 a1_0 a1_1 a1_2 a1_3 a1_4 a1_5, .agg ⟨[.int .i64 (f a0_0 a0_1 a0_2 a0_3 a0_4 a0_5 a1_0 a1_1 a1_2 a1_3 a1_4 a1_5).1, .int .i64 (f a0_0 a0_1 a0_2 a0_3 a0_4 a0_5 a1_0 a1_1 a1_2 a1_3 a1_4 a1_5).2.1, .int .i64 (f a0_0 a0_1 a0_2 a0_3 a0_4 a0_5 a1_0 a1_1 a1_2 a1_3 a1_4 a1_5).2.2.1, .int .i64 (f a0_0 a0_1 a0_2 a0_3 a0_4 a0_5 a1_0 a1_1 a1_2 a1_3 a1_4 a1_5).2.2.2.1, .int .i64 (f a0_0 a0_1 a0_2 a0_3 a0_4 a0_5 a1_0 a1_1 a1_2 a1_3 a1_4 a1_5).2.2.2.2.1, .int .i64 (f a0_0 a0_1 a0_2 a0_3 a0_4 a0_5 a1_0 a1_1 a1_2 a1_3 a1_4 a1_5).2.2.2.2.2]⟩, [])
  | _, _ => none

def culetref27_Inside.sp (f : Int → Int → Int → Int → (Bool)) : HSpec
  | [.agg ⟨[.int .i64 a0_0, .int .i64 a0_1]⟩, .agg ⟨[.int .i64 a1_0, .int .i64 a1_1]⟩], [] => some (true, .bool (f a0_0 a0_1 a1_0 a1_1), [])
  | _, _ => none

def culetlaw29_RefractionInclusion.sp (f : Int → Int → Int → Int → Int → Int → Int → Int → Int → Int → Int → Int → Int → Int → Int → Int → Int → Int → Int → Int → (Bool)) : HSpec
  | [.agg ⟨[.int .i64 a0_0, .int .i64 a0_1, .int .i64 a0_2, .int .i64 a0_3, .int .i64 a0_4, .int .i64 a0_5]⟩, .agg ⟨[.int .i64 a1_0, .int .i64 a1_1, .int .i64 a1_2, .int .i64 a1_3, .int .i64 a1_4, .int .i64 a1_5]⟩, .agg ⟨[.int .i64 a2_0, .int .i64 a2_1, .int .u32 a2_2, .int .u32 a2_3, .int .u32 a2_4, .int .u32 a2_5, .int .u32 a2_6, .int .u32 a2_7]⟩], [] => some (true, .bool (f a0_0 a0_1 a0_2 a0_3 a0_4 a0_5 a1_0 a1_1 a1_2 a1_3 a1_4 a1_5 a2_0 a2_1 a2_2 a2_3 a2_4 a2_5 a2_6 a2_7), [])
  | _, _ => none

def refraction_calc_one.sp (f_refraction_calc_one_interval_Square : Int → Int → Int → (Int × Int × Int)) (f_refraction_calc_one_interval_Sqrt : Int → Int → Int → (Int × Int × Int)) (f_refraction_calc_one_interval_Neg : Int → Int → Int → (Int × Int × Int)) : HSpec
  | [.pointer (some ⟨0, 0, none⟩), .func (.func 57) ⟨[]⟩ ⟨[]⟩, .agg ⟨[.int .i64 a2_0, .int .i64 a2_1]⟩], [.cs [.int .i64 s0_0] 63] => some (true, .agg ⟨[.int .i64 (f_refraction_calc_one_interval_Square s0_0 a2_0 a2_1).1, .int .i64 (f_refraction_calc_one_interval_Square s0_0 a2_0 a2_1).2.1]⟩, [.cs [.int .i64 (f_refraction_calc_one_interval_Square s0_0 a2_0 a2_1).2.2] 63])
  | [.pointer (some ⟨0, 0, none⟩), .func (.func 36) ⟨[]⟩ ⟨[]⟩, .agg ⟨[.int .i64 a2_0, .int .i64 a2_1]⟩], [.cs [.int .i64 s0_0] 63] => some (true, .agg ⟨[.int .i64 (f_refraction_calc_one_interval_Sqrt s0_0 a2_0 a2_1).1, .int .i64 (f_refraction_calc_one_interval_Sqrt s0_0 a2_0 a2_1).2.1]⟩, [.cs [.int .i64 (f_refraction_calc_one_interval_Sqrt s0_0 a2_0 a2_1).2.2] 63])
  | [.pointer (some ⟨0, 0, none⟩), .func (.func 37) ⟨[]⟩ ⟨[]⟩, .agg ⟨[.int .i64 a2_0, .int .i64 a2_1]⟩], [.cs [.int .i64 s0_0] 63] => some (true, .agg ⟨[.int .i64 (f_refraction_calc_one_interval_Neg s0_0 a2_0 a2_1).1, .int .i64 (f_refraction_calc_one_interval_Neg s0_0 a2_0 a2_1).2.1]⟩, [.cs [.int .i64 (f_refraction_calc_one_interval_Neg s0_0 a2_0 a2_1).2.2] 63])
  | _, _ => none

def refraction_calc_two.sp (f_refraction_calc_two_interval_Add : Int → Int → Int → Int → Int → (Int × Int × Int)) (f_refraction_calc_two_interval_Sub : Int → Int → Int → Int → Int → (Int × Int × Int)) (f_refraction_calc_two_interval_Mul : Int → Int → Int → Int → Int → (Int × Int × Int)) (f_refraction_calc_two_interval_Div : Int → Int → Int → Int → Int → (Int × Int × Int)) : HSpec
  | [.pointer (some ⟨0, 0, none⟩), .func (.func 53) ⟨[]⟩ ⟨[]⟩, .agg ⟨[.int .i64 a2_0, .int .i64 a2_1]⟩, .agg ⟨[.int .i64 a3_0, .int .i64 a3_1]⟩], [.cs [.int .i64 s0_0] 63] => some (true, .agg ⟨[.int .i64 (f_refraction_calc_two_interval_Add s0_0 a2_0 a2_1 a3_0 a3_1).1, .int .i64 (f_refraction_calc_two_interval_Add s0_0 a2_0 a2_1 a3_0 a3_1).2.1]⟩, [.cs [.int .i64 (f_refraction_calc_two_interval_Add s0_0 a2_0 a2_1 a3_0 a3_1).2.2] 63])
  | [.pointer (some ⟨0, 0, none⟩), .func (.func 40) ⟨[]⟩ ⟨[]⟩, .agg ⟨[.int .i64 a2_0, .int .i64 a2_1]⟩, .agg ⟨[.int .i64 a3_0, .int .i64 a3_1]⟩], [.cs [.int .i64 s0_0] 63] => some (true, .agg ⟨[.int .i64 (f_refraction_calc_two_interval_Sub s0_0 a2_0 a2_1 a3_0 a3_1).1, .int .i64 (f_refraction_calc_two_interval_Sub s0_0 a2_0 a2_1 a3_0 a3_1).2.1]⟩, [.cs [.int .i64 (f_refraction_calc_two_interval_Sub s0_0 a2_0 a2_1 a3_0 a3_1).2.2] 63])
  | [.pointer (some ⟨0, 0, none⟩), .func (.func 41) ⟨[]⟩ ⟨[]⟩, .agg ⟨[.int .i64 a2_0, .int .i64 a2_1]⟩, .agg ⟨[.int .i64 a3_0, .int .i64 a3_1]⟩], [.cs [.int .i64 s0_0] 63] => some (true, .agg ⟨[.int .i64 (f_refraction_calc_two_interval_Mul s0_0 a2_0 a2_1 a3_0 a3_1).1, .int .i64 (f_refraction_calc_two_interval_Mul s0_0 a2_0 a2_1 a3_0 a3_1).2.1]⟩, [.cs [.int .i64 (f_refraction_calc_two_interval_Mul s0_0 a2_0 a2_1 a3_0 a3_1).2.2] 63])
  | [.pointer (some ⟨0, 0, none⟩), .func (.func 60) ⟨[]⟩ ⟨[]⟩, .agg ⟨[.int .i64 a2_0, .int .i64 a2_1]⟩, .agg ⟨[.int .i64 a3_0, .int .i64 a3_1]⟩], [.cs [.int .i64 s0_0] 63] => some (true, .agg ⟨[.int .i64 (f_refraction_calc_two_interval_Div s0_0 a2_0 a2_1 a3_0 a3_1).1, .int .i64 (f_refraction_calc_two_interval_Div s0_0 a2_0 a2_1 a3_0 a3_1).2.1]⟩, [.cs [.int .i64 (f_refraction_calc_two_interval_Div s0_0 a2_0 a2_1 a3_0 a3_1).2.2] 63])
  | _, _ => none

end Go.Proofs.Ytphlckkbihmlnaa.G
