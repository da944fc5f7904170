/- The forms of the functions' contracts. WRITTEN BY gen.py of this repo. -/
import Derived.Test.YtommeheenogjgaaProg
import Derived.Test.YtommeheenogjgaaRX9
namespace Go.Proofs.Ytommeheenogjgaa.G
open Go Go.Proofs Go.RowKit RX
set_option linter.unusedVariables false
set_option linter.unusedSimpArgs false
theorem mixed_ok : Try.prog.follows .mixedOrders = true := by kernel_rfl
def interval_Valid.sp (f : Int → Int → (Bool)) : HSpec
  | [.agg ⟨[.int .i64 a0_0, .int .i64 a0_1]⟩], [] => some (true, .bool (f a0_0 a0_1), [])
  | _, _ => none

def fresnel_within.sp (f : Int → Int → Int → Int → (Bool)) : HSpec
  | [.agg ⟨[.int .i64 a0_0, .int .i64 a0_1]⟩, .int .i64 a1, .int .i64 a2], [] => some (true, .bool (f a0_0 a0_1 a1 a2), [])
  | _, _ => none

def interval_made.sp (f : Int → Int → (Int × Int × Int)) : HSpec
  | [.int .i64 a0, .int .i64 a1], [] => some (true, .tuple ⟨[.agg ⟨[.int .i64 (f a0 a1).1, .int .i64 (f a0 a1).2.1]⟩, .int .i64 (f a0 a1).2.2]⟩, [])
  | _, _ => none

def interval_Add.sp (f : Int → Int → Int → Int → (Int × Int × Int)) : HSpec
  | [.agg ⟨[.int .i64 a0_0, .int .i64 a0_1]⟩, .agg ⟨[.int .i64 a1_0, .int .i64 a1_1]⟩], [] => some (true, .tuple ⟨[.agg ⟨[.int .i64 (f a0_0 a0_1 a1_0 a1_1).1, .int .i64 (f a0_0 a0_1 a1_0 a1_1).2.1]⟩, .int .i64 (f a0_0 a0_1 a1_0 a1_1).2.2]⟩, [])
  | _, _ => none

def fresnel_cut.sp (f : Int → Int → (Int × Int)) : HSpec
  | [.agg ⟨[.int .i64 a0_0, .int .i64 a0_1]⟩], [] => some (true, .agg ⟨[.int .i64 (f a0_0 a0_1).1, .int .i64 (f a0_0 a0_1).2]⟩, [])
  | _, _ => none

def interval_Sub.sp (f : Int → Int → Int → Int → (Int × Int × Int)) : HSpec
  | [.agg ⟨[.int .i64 a0_0, .int .i64 a0_1]⟩, .agg ⟨[.int .i64 a1_0, .int .i64 a1_1]⟩], [] => some (true, .tuple ⟨[.agg ⟨[.int .i64 (f a0_0 a0_1 a1_0 a1_1).1, .int .i64 (f a0_0 a0_1 a1_0 a1_1).2.1]⟩, .int .i64 (f a0_0 a0_1 a1_0 a1_1).2.2]⟩, [])
  | _, _ => none

def interval_floor.sp (f : Int → Int → (Int)) : HSpec
  | [.int .i64 a0, .int .i64 a1], [] => some (a1 != 0, .int .i64 (f a0 a1), [])
  | _, _ => none

def interval_ceil.sp (f : Int → Int → (Int)) : HSpec
  | [.int .i64 a0, .int .i64 a1], [] => some (a1 != 0, .int .i64 (f a0 a1), [])
  | _, _ => none

def interval_Div.sp (f : Int → Int → Int → Int → (Int × Int × Int)) : HSpec
  | [.agg ⟨[.int .i64 a0_0, .int .i64 a0_1]⟩, .agg ⟨[.int .i64 a1_0, .int .i64 a1_1]⟩], [] => some (true, .tuple ⟨[.agg ⟨[.int .i64 (f a0_0 a0_1 a1_0 a1_1).1, .int .i64 (f a0_0 a0_1 a1_0 a1_1).2.1]⟩, .int .i64 (f a0_0 a0_1 a1_0 a1_1).2.2]⟩, [])
  | _, _ => none

def interval_Square.sp (f : Int → Int → (Int × Int × Int)) : HSpec
  | [.agg ⟨[.int .i64 a0_0, .int .i64 a0_1]⟩], [] => some (true, .tuple ⟨[.agg ⟨[.int .i64 (f a0_0 a0_1).1, .int .i64 (f a0_0 a0_1).2.1]⟩, .int .i64 (f a0_0 a0_1).2.2]⟩, [])
  | _, _ => none

def fresnel_share.sp (f : Int → Int → Int → Int → (Int × Int × Int)) : HSpec
  | [.agg ⟨[.int .i64 a0_0, .int .i64 a0_1]⟩, .agg ⟨[.int .i64 a1_0, .int .i64 a1_1]⟩], [] => some (true, .tuple ⟨[.agg ⟨[.int .i64 (f a0_0 a0_1 a1_0 a1_1).1, .int .i64 (f a0_0 a0_1 a1_0 a1_1).2.1]⟩, .int .i64 (f a0_0 a0_1 a1_0 a1_1).2.2]⟩, [])
  | _, _ => none

def fresnel_Straight.sp (f : Int → Int → Int → Int → (Int × Int × Int)) : HSpec
  | [.agg ⟨[.int .i64 a0_0, .int .i64 a0_1]⟩, .agg ⟨[.int .i64 a1_0, .int .i64 a1_1]⟩], [] => some (true, .tuple ⟨[.agg ⟨[.int .i64 (f a0_0 a0_1 a1_0 a1_1).1, .int .i64 (f a0_0 a0_1 a1_0 a1_1).2.1]⟩, .int .i64 (f a0_0 a0_1 a1_0 a1_1).2.2]⟩, [])
  | _, _ => none

def culetref28_One.sp (f : (Int × Int)) : HSpec
  | [], [] => some (true, .agg ⟨[.int .i64 (f ).1, .int .i64 (f ).2]⟩, [])
  | _, _ => none

def fresnel_Valid.sp (f : Int → Int → Int → Int → Int → Int → Int → Int → (Bool)) : HSpec
  | [.agg ⟨[.int .i64 a0_0, .int .i64 a0_1, .int .i64 a0_2, .int .i64 a0_3, .int .i64 a0_4, .int .i64 a0_5, .int .i64 a0_6, .int .i64 a0_7]⟩], [] => some (true, .bool (f a0_0 a0_1 a0_2 a0_3 a0_4 a0_5 a0_6 a0_7), [])
  | _, _ => none

def interval_Mul.sp (f : Int → Int → Int → Int → (Int × Int × Int)) : HSpec
  | [.agg ⟨[.int .i64 a0_0, .int .i64 a0_1]⟩, .agg ⟨[.int .i64 a1_0, .int .i64 a1_1]⟩], [] => some (true, .tuple ⟨[.agg ⟨[.int .i64 (f a0_0 a0_1 a1_0 a1_1).1, .int .i64 (f a0_0 a0_1 a1_0 a1_1).2.1]⟩, .int .i64 (f a0_0 a0_1 a1_0 a1_1).2.2]⟩, [])
  | _, _ => none

def fresnel_polarized.sp (f : Int → Int → Int → Int → Int → Int → Int → Int → Int → Int → Int → Int → (Int × Int × Int)) : HSpec
  | [.agg ⟨[.int .i64 a0_0, .int .i64 a0_1, .int .i64 a0_2, .int .i64 a0_3, .int .i64 a0_4, .int .i64 a0_5, .int .i64 a0_6, .int .i64 a0_7]⟩, .agg ⟨[.int .i64 a1_0, .int .i64 a1_1]⟩, .agg ⟨[.int .i64 a2_0, .int .i64 a2_1]⟩], [] => some (true, .tuple ⟨[.agg ⟨[.int .i64 (f a0_0 a0_1 a0_2 a0_3 a0_4 a0_5 a0_6 a0_7 a1_0 a1_1 a2_0 a2_1).1, .int .i64 (f a0_0 a0_1 a0_2 a0_3 a0_4 a0_5 a0_6 a0_7 a1_0 a1_1 a2_0 a2_1).2.1]⟩, .int .i64 (f a0_0 a0_1 a0_2 a0_3 a0_4 a0_5 a0_6 a0_7 a1_0 a1_1 a2_0 a2_1).2.2]⟩, [])
  | _, _ => none

def fresnel_Perpendicular.sp (f : Int → Int → Int → Int → Int → Int → Int → Int → (Int × Int × Int)) : HSpec
  | [.agg ⟨[.int .i64 a0_0, .int .i64 a0_1, .int .i64 a0_2, .int .i64 a0_3, .int .i64 a0_4, .int .i64 a0_5, .int .i64 a0_6, .int .i64 a0_7]⟩], [] => some (true, .tuple ⟨[.agg ⟨[.int .i64 (f a0_0 a0_1 a0_2 a0_3 a0_4 a0_5 a0_6 a0_7).1, .int .i64 (f a0_0 a0_1 a0_2 a0_3 a0_4 a0_5 a0_6 a0_7).2.1]⟩, .int .i64 (f a0_0 a0_1 a0_2 a0_3 a0_4 a0_5 a0_6 a0_7).2.2]⟩, [])
  | _, _ => none

def fresnel_Parallel.sp (f : Int → Int → Int → Int → Int → Int → Int → Int → (Int × Int × Int)) : HSpec
  | [.agg ⟨[.int .i64 a0_0, .int .i64 a0_1, .int .i64 a0_2, .int .i64 a0_3, .int .i64 a0_4, .int .i64 a0_5, .int .i64 a0_6, .int .i64 a0_7]⟩], [] => some (true, .tuple ⟨[.agg ⟨[.int .i64 (f a0_0 a0_1 a0_2 a0_3 a0_4 a0_5 a0_6 a0_7).1, .int .i64 (f a0_0 a0_1 a0_2 a0_3 a0_4 a0_5 a0_6 a0_7).2.1]⟩, .int .i64 (f a0_0 a0_1 a0_2 a0_3 a0_4 a0_5 a0_6 a0_7).2.2]⟩, [])
  | _, _ => none

def fresnel_Reflectance.sp (f : Int → Int → Int → Int → Int → Int → Int → Int → (Int × Int × Int)) : HSpec
  | [.agg ⟨[.int .i64 a0_0, .int .i64 a0_1, .int .i64 a0_2, .int .i64 a0_3, .int .i64 a0_4, .int .i64 a0_5, .int .i64 a0_6, .int .i64 a0_7]⟩], [] => some (true, .tuple ⟨[.agg ⟨[.int .i64 (f a0_0 a0_1 a0_2 a0_3 a0_4 a0_5 a0_6 a0_7).1, .int .i64 (f a0_0 a0_1 a0_2 a0_3 a0_4 a0_5 a0_6 a0_7).2.1]⟩, .int .i64 (f a0_0 a0_1 a0_2 a0_3 a0_4 a0_5 a0_6 a0_7).2.2]⟩, [])
  | _, _ => none

def culetref27_Of.sp (f : Int → (Int × Int × Int)) : HSpec
  | [.int .i64 a0], [] => some (true, .tuple ⟨[.agg ⟨[.int .i64 (f a0).1, .int .i64 (f a0).2.1]⟩, .int .i64 (f a0).2.2]⟩, [])
  | _, _ => none

def culetlaw30_awake.sp (f : (Bool)) : HSpec
  | [], [] => some (true, .bool (f ), [])
  | _, _ => none

def culetref27_Valid.sp (f : Int → Int → (Bool)) : HSpec
  | [.agg ⟨[.int .i64 a0_0, .int .i64 a0_1]⟩], [] => some (true, .bool (f a0_0 a0_1), [])
  | _, _ => none

def culetref30_between.sp (f : Int → Int → Int → Int → (Bool)) : HSpec
  | [.agg ⟨[.int .i64 a0_0, .int .i64 a0_1]⟩, .int .i64 a1, .int .i64 a2], [] => some (true, .bool (f a0_0 a0_1 a1 a2), [])
  | _, _ => none

def culetref28_Calc_kept.sp (f : Int → Int → Int → Int → (Int × Int × Int)) : HSpec
  | [.pointer (some ⟨0, 0, none⟩), .agg ⟨[.int .i64 a1_0, .int .i64 a1_1]⟩, .int .i64 a2], [.cs [.int .i64 s0_0] 48] => some (true, .agg ⟨[.int .i64 (f s0_0 a1_0 a1_1 a2).1, .int .i64 (f s0_0 a1_0 a1_1 a2).2.1]⟩, [.cs [.int .i64 (f s0_0 a1_0 a1_1 a2).2.2] 48])
  | _, _ => none

def culetref27_both.sp (f : Int → Int → Int → Int → (Bool)) : HSpec
  | [.agg ⟨[.int .i64 a0_0, .int .i64 a0_1]⟩, .agg ⟨[.int .i64 a1_0, .int .i64 a1_1]⟩], [] => some (true, .bool (f a0_0 a0_1 a1_0 a1_1), [])
  | _, _ => none

def culetref27_checked.sp (f : Int → Int → (Int × Int × Int)) : HSpec
  | [.int .i64 a0, .int .i64 a1], [] => some (true, .tuple ⟨[.agg ⟨[.int .i64 (f a0 a1).1, .int .i64 (f a0 a1).2.1]⟩, .int .i64 (f a0 a1).2.2]⟩, [])
  | _, _ => none

def culetref27_Add.sp (f : Int → Int → Int → Int → (Int × Int × Int)) : HSpec
  | [.agg ⟨[.int .i64 a0_0, .int .i64 a0_1]⟩, .agg ⟨[.int .i64 a1_0, .int .i64 a1_1]⟩], [] => some (true, .tuple ⟨[.agg ⟨[.int .i64 (f a0_0 a0_1 a1_0 a1_1).1, .int .i64 (f a0_0 a0_1 a1_0 a1_1).2.1]⟩, .int .i64 (f a0_0 a0_1 a1_0 a1_1).2.2]⟩, [])
  | _, _ => none

def culetref28_Calc_Add.sp (f : Int → Int → Int → Int → Int → (Int × Int × Int)) : HSpec
  | [.pointer (some ⟨0, 0, none⟩), .agg ⟨[.int .i64 a1_0, .int .i64 a1_1]⟩, .agg ⟨[.int .i64 a2_0, .int .i64 a2_1]⟩], [.cs [.int .i64 s0_0] 48] => some (true, .agg ⟨[.int .i64 (f s0_0 a1_0 a1_1 a2_0 a2_1).1, .int .i64 (f s0_0 a1_0 a1_1 a2_0 a2_1).2.1]⟩, [.cs [.int .i64 (f s0_0 a1_0 a1_1 a2_0 a2_1).2.2] 48])
  | _, _ => none

def culetref30_Cut.sp (f : Int → Int → (Int × Int)) : HSpec
  | [.agg ⟨[.int .i64 a0_0, .int .i64 a0_1]⟩], [] => some (true, .agg ⟨[.int .i64 (f a0_0 a0_1).1, .int .i64 (f a0_0 a0_1).2]⟩, [])
  | _, _ => none

def culetref27_Sub.sp (f : Int → Int → Int → Int → (Int × Int × Int)) : HSpec
  | [.agg ⟨[.int .i64 a0_0, .int .i64 a0_1]⟩, .agg ⟨[.int .i64 a1_0, .int .i64 a1_1]⟩], [] => some (true, .tuple ⟨[.agg ⟨[.int .i64 (f a0_0 a0_1 a1_0 a1_1).1, .int .i64 (f a0_0 a0_1 a1_0 a1_1).2.1]⟩, .int .i64 (f a0_0 a0_1 a1_0 a1_1).2.2]⟩, [])
  | _, _ => none

def culetref28_Calc_Sub.sp (f : Int → Int → Int → Int → Int → (Int × Int × Int)) : HSpec
  | [.pointer (some ⟨0, 0, none⟩), .agg ⟨[.int .i64 a1_0, .int .i64 a1_1]⟩, .agg ⟨[.int .i64 a2_0, .int .i64 a2_1]⟩], [.cs [.int .i64 s0_0] 48] => some (true, .agg ⟨[.int .i64 (f s0_0 a1_0 a1_1 a2_0 a2_1).1, .int .i64 (f s0_0 a1_0 a1_1 a2_0 a2_1).2.1]⟩, [.cs [.int .i64 (f s0_0 a1_0 a1_1 a2_0 a2_1).2.2] 48])
  | _, _ => none

def culetref27_floor.sp (f : Int → Int → (Int)) : HSpec
  | [.int .i64 a0, .int .i64 a1], [] => some (bif decide (a1 < 0) then IntKind.i64.wrap (-a1) != 0 else a1 != 0, .int .i64 (f a0 a1), [])
  | _, _ => none

def culetref27_ceil.sp (f : Int → Int → (Int)) : HSpec
  | [.int .i64 a0, .int .i64 a1], [] => some (bif decide (a1 < 0) then IntKind.i64.wrap (-a1) != 0 else a1 != 0, .int .i64 (f a0 a1), [])
  | _, _ => none

def culetref27_Square.sp (f : Int → Int → (Int × Int × Int)) : HSpec
  | [.agg ⟨[.int .i64 a0_0, .int .i64 a0_1]⟩], [] => some (true, .tuple ⟨[.agg ⟨[.int .i64 (f a0_0 a0_1).1, .int .i64 (f a0_0 a0_1).2.1]⟩, .int .i64 (f a0_0 a0_1).2.2]⟩, [])
  | _, _ => none

def culetref28_Calc_Square.sp (f : Int → Int → Int → (Int × Int × Int)) : HSpec
  | [.pointer (some ⟨0, 0, none⟩), .agg ⟨[.int .i64 a1_0, .int .i64 a1_1]⟩], [.cs [.int .i64 s0_0] 48] => some (true, .agg ⟨[.int .i64 (f s0_0 a1_0 a1_1).1, .int .i64 (f s0_0 a1_0 a1_1).2.1]⟩, [.cs [.int .i64 (f s0_0 a1_0 a1_1).2.2] 48])
  | _, _ => none

def culetref27_Div.sp (f : Int → Int → Int → Int → (Int × Int × Int)) : HSpec
  | [.agg ⟨[.int .i64 a0_0, .int .i64 a0_1]⟩, .agg ⟨[.int .i64 a1_0, .int .i64 a1_1]⟩], [] => some (true, .tuple ⟨[.agg ⟨[.int .i64 (f a0_0 a0_1 a1_0 a1_1).1, .int .i64 (f a0_0 a0_1 a1_0 a1_1).2.1]⟩, .int .i64 (f a0_0 a0_1 a1_0 a1_1).2.2]⟩, [])
  | _, _ => none

def culetref28_Calc_Div.sp (f : Int → Int → Int → Int → Int → (Int × Int × Int)) : HSpec
  | [.pointer (some ⟨0, 0, none⟩), .agg ⟨[.int .i64 a1_0, .int .i64 a1_1]⟩, .agg ⟨[.int .i64 a2_0, .int .i64 a2_1]⟩], [.cs [.int .i64 s0_0] 48] => some (true, .agg ⟨[.int .i64 (f s0_0 a1_0 a1_1 a2_0 a2_1).1, .int .i64 (f s0_0 a1_0 a1_1 a2_0 a2_1).2.1]⟩, [.cs [.int .i64 (f s0_0 a1_0 a1_1 a2_0 a2_1).2.2] 48])
  | _, _ => none

def culetref30_share.sp (f : Int → Int → Int → Int → Int → (Int × Int × Int × Int)) : HSpec
  | [.pointer (some ⟨0, 0, none⟩), .agg ⟨[.int .i64 a1_0, .int .i64 a1_1]⟩, .agg ⟨[.int .i64 a2_0, .int .i64 a2_1]⟩], [.cs [.int .i64 s0_0] 48] => some (true, .tuple ⟨[.agg ⟨[.int .i64 (f s0_0 a1_0 a1_1 a2_0 a2_1).1, .int .i64 (f s0_0 a1_0 a1_1 a2_0 a2_1).2.1]⟩, .int .i64 (f s0_0 a1_0 a1_1 a2_0 a2_1).2.2.1]⟩, [.cs [.int .i64 (f s0_0 a1_0 a1_1 a2_0 a2_1).2.2.2] 48])
  | _, _ => none

def culetref30_Straight.sp (f : Int → Int → Int → Int → (Int × Int × Int)) : HSpec
  | [.agg ⟨[.int .i64 a0_0, .int .i64 a0_1]⟩, .agg ⟨[.int .i64 a1_0, .int .i64 a1_1]⟩], [] => some (true, .tuple ⟨[.agg ⟨[.int .i64 (f a0_0 a0_1 a1_0 a1_1).1, .int .i64 (f a0_0 a0_1 a1_0 a1_1).2.1]⟩, .int .i64 (f a0_0 a0_1 a1_0 a1_1).2.2]⟩, [])
  | _, _ => none

def culetlaw30_FresnelStraight.sp (f : Int → Int → Int → Int → (Bool)) : HSpec
  | [.agg ⟨[.int .i64 a0_0, .int .i64 a0_1]⟩, .agg ⟨[.int .i64 a1_0, .int .i64 a1_1]⟩], [] => some (true, .bool (f a0_0 a0_1 a1_0 a1_1), [])
  | _, _ => none

def culetlaw30_FresnelGrazing.sp (f : Int → Int → Int → Int → Int → Int → Int → Int → (Bool)) : HSpec
  | [.agg ⟨[.int .i64 a0_0, .int .i64 a0_1, .int .i64 a0_2, .int .i64 a0_3, .int .i64 a0_4, .int .i64 a0_5, .int .i64 a0_6, .int .i64 a0_7]⟩], [] => some (true, .bool (f a0_0 a0_1 a0_2 a0_3 a0_4 a0_5 a0_6 a0_7), [])
  | _, _ => none

def fresnel_Turn.sp (f : Int → Int → Int → Int → Int → Int → Int → Int → (Int × Int × Int × Int × Int × Int × Int × Int)) : HSpec
  | [.agg ⟨[.int .i64 a0_0, .int .i64 a0_1, .int .i64 a0_2, .int .i64 a0_3, .int .i64 a0_4, .int .i64 a0_5, .int .i64 a0_6, .int .i64 a0_7]⟩], [] => some (true, .agg ⟨[.int .i64 (f a0_0 a0_1 a0_2 a0_3 a0_4 a0_5 a0_6 a0_7).1, .int .i64 (f a0_0 a0_1 a0_2 a0_3 a0_4 a0_5 a0_6 a0_7).2.1, .int .i64 (f a0_0 a0_1 a0_2 a0_3 a0_4 a0_5 a0_6 a0_7).2.2.1, .int .i64 (f a0_0 a0_1 a0_2 a0_3 a0_4 a0_5 a0_6 a0_7).2.2.2.1, .int .i64 (f a0_0 a0_1 a0_2 a0_3 a0_4 a0_5 a0_6 a0_7).2.2.2.2.1, .int .i64 (f a0_0 a0_1 a0_2 a0_3 a0_4 a0_5 a0_6 a0_7).2.2.2.2.2.1, .int .i64 (f a0_0 a0_1 a0_2 a0_3 a0_4 a0_5 a0_6 a0_7).2.2.2.2.2.2.1, .int .i64 (f a0_0 a0_1 a0_2 a0_3 a0_4 a0_5 a0_6 a0_7).2.2.2.2.2.2.2]⟩, [])
  | _, _ => none

def culetlaw30_FresnelTurned.sp (f : Int → Int → Int → Int → Int → Int → Int → Int → (Bool)) : HSpec
  | [.agg ⟨[.int .i64 a0_0, .int .i64 a0_1, .int .i64 a0_2, .int .i64 a0_3, .int .i64 a0_4, .int .i64 a0_5, .int .i64 a0_6, .int .i64 a0_7]⟩], [] => some (true, .bool (f a0_0 a0_1 a0_2 a0_3 a0_4 a0_5 a0_6 a0_7), [])
  | _, _ => none

def culetref30_Valid.sp (f : Int → Int → Int → Int → Int → Int → Int → Int → (Bool)) : HSpec
  | [.agg ⟨[.int .i64 a0_0, .int .i64 a0_1, .int .i64 a0_2, .int .i64 a0_3, .int .i64 a0_4, .int .i64 a0_5, .int .i64 a0_6, .int .i64 a0_7]⟩], [] => some (true, .bool (f a0_0 a0_1 a0_2 a0_3 a0_4 a0_5 a0_6 a0_7), [])
  | _, _ => none

def culetref27_Mul.sp (f : Int → Int → Int → Int → (Int × Int × Int)) : HSpec
  | [.agg ⟨[.int .i64 a0_0, .int .i64 a0_1]⟩, .agg ⟨[.int .i64 a1_0, .int .i64 a1_1]⟩], [] => some (true, .tuple ⟨[.agg ⟨[.int .i64 (f a0_0 a0_1 a1_0 a1_1).1, .int .i64 (f a0_0 a0_1 a1_0 a1_1).2.1]⟩, .int .i64 (f a0_0 a0_1 a1_0 a1_1).2.2]⟩, [])
  | _, _ => none

def culetref28_Calc_Mul.sp (f : Int → Int → Int → Int → Int → (Int × Int × Int)) : HSpec
  | [.pointer (some ⟨0, 0, none⟩), .agg ⟨[.int .i64 a1_0, .int .i64 a1_1]⟩, .agg ⟨[.int .i64 a2_0, .int .i64 a2_1]⟩], [.cs [.int .i64 s0_0] 48] => some (true, .agg ⟨[.int .i64 (f s0_0 a1_0 a1_1 a2_0 a2_1).1, .int .i64 (f s0_0 a1_0 a1_1 a2_0 a2_1).2.1]⟩, [.cs [.int .i64 (f s0_0 a1_0 a1_1 a2_0 a2_1).2.2] 48])
  | _, _ => none

def culetref30_Perpendicular.sp (f : Int → Int → Int → Int → Int → Int → Int → Int → (Int × Int × Int)) : HSpec
  | [.agg ⟨[.int .i64 a0_0, .int .i64 a0_1, .int .i64 a0_2, .int .i64 a0_3, .int .i64 a0_4, .int .i64 a0_5, .int .i64 a0_6, .int .i64 a0_7]⟩], [] => some (true, .tuple ⟨[.agg ⟨[.int .i64 (f a0_0 a0_1 a0_2 a0_3 a0_4 a0_5 a0_6 a0_7).1, .int .i64 (f a0_0 a0_1 a0_2 a0_3 a0_4 a0_5 a0_6 a0_7).2.1]⟩, .int .i64 (f a0_0 a0_1 a0_2 a0_3 a0_4 a0_5 a0_6 a0_7).2.2]⟩, [])
  | _, _ => none

def culetref30_Parallel.sp (f : Int → Int → Int → Int → Int → Int → Int → Int → (Int × Int × Int)) : HSpec
  | [.agg ⟨[.int .i64 a0_0, .int .i64 a0_1, .int .i64 a0_2, .int .i64 a0_3, .int .i64 a0_4, .int .i64 a0_5, .int .i64 a0_6, .int .i64 a0_7]⟩], [] => some (true, .tuple ⟨[.agg ⟨[.int .i64 (f a0_0 a0_1 a0_2 a0_3 a0_4 a0_5 a0_6 a0_7).1, .int .i64 (f a0_0 a0_1 a0_2 a0_3 a0_4 a0_5 a0_6 a0_7).2.1]⟩, .int .i64 (f a0_0 a0_1 a0_2 a0_3 a0_4 a0_5 a0_6 a0_7).2.2]⟩, [])
  | _, _ => none

def culetref30_Reflectance.sp (f : Int → Int → Int → Int → Int → Int → Int → Int → (Int × Int × Int)) : HSpec
  | [.agg ⟨[.int .i64 a0_0, .int .i64 a0_1, .int .i64 a0_2, .int .i64 a0_3, .int .i64 a0_4, .int .i64 a0_5, .int .i64 a0_6, .int .i64 a0_7]⟩], [] => some (true, .tuple ⟨[.agg ⟨[.int .i64 (f a0_0 a0_1 a0_2 a0_3 a0_4 a0_5 a0_6 a0_7).1, .int .i64 (f a0_0 a0_1 a0_2 a0_3 a0_4 a0_5 a0_6 a0_7).2.1]⟩, .int .i64 (f a0_0 a0_1 a0_2 a0_3 a0_4 a0_5 a0_6 a0_7).2.2]⟩, [])
  | _, _ => none

def fresnel_Transmittance.sp (f : Int → Int → Int → Int → Int → Int → Int → Int → (Int × Int × Int)) : HSpec
  | [.agg ⟨[.int .i64 a0_0, .int .i64 a0_1, .int .i64 a0_2, .int .i64 a0_3, .int .i64 a0_4, .int .i64 a0_5, .int .i64 a0_6, .int .i64 a0_7]⟩], [] => some (true, .tuple ⟨[.agg ⟨[.int .i64 (f a0_0 a0_1 a0_2 a0_3 a0_4 a0_5 a0_6 a0_7).1, .int .i64 (f a0_0 a0_1 a0_2 a0_3 a0_4 a0_5 a0_6 a0_7).2.1]⟩, .int .i64 (f a0_0 a0_1 a0_2 a0_3 a0_4 a0_5 a0_6 a0_7).2.2]⟩, [])
  | _, _ => none

def culetref30_Transmittance.sp (f : Int → Int → Int → Int → Int → Int → Int → Int → (Int × Int × Int)) : HSpec
  | [.agg ⟨[.int .i64 a0_0, .int .i64 a0_1, .int .i64 a0_2, .int .i64 a0_3, .int .i64 a0_4, .int .i64 a0_5, .int .i64 a0_6, .int .i64 a0_7]⟩], [] => some (true, .tuple ⟨[.agg ⟨[.int .i64 (f a0_0 a0_1 a0_2 a0_3 a0_4 a0_5 a0_6 a0_7).1, .int .i64 (f a0_0 a0_1 a0_2 a0_3 a0_4 a0_5 a0_6 a0_7).2.1]⟩, .int .i64 (f a0_0 a0_1 a0_2 a0_3 a0_4 a0_5 a0_6 a0_7).2.2]⟩, [])
  | _, _ => none

def culetlaw30_FresnelForms.sp (f : Int → Int → Int → Int → Int → Int → Int → Int → (Bool)) : HSpec
  | [.agg ⟨[.int .i64 a0_0, .int .i64 a0_1, .int .i64 a0_2, .int .i64 a0_3, .int .i64 a0_4, .int .i64 a0_5, .int .i64 a0_6, .int .i64 a0_7]⟩], [] => some (true, .bool (f a0_0 a0_1 a0_2 a0_3 a0_4 a0_5 a0_6 a0_7), [])
  | _, _ => none

def culetlaw30_inside.sp (f : Int → Int → (Bool)) : HSpec
  | [.agg ⟨[.int .i64 a0_0, .int .i64 a0_1]⟩], [] => some (true, .bool (f a0_0 a0_1), [])
  | _, _ => none

def culetlaw30_FresnelConserves.sp (f : Int → Int → Int → Int → Int → Int → Int → Int → (Bool)) : HSpec
  | [.agg ⟨[.int .i64 a0_0, .int .i64 a0_1, .int .i64 a0_2, .int .i64 a0_3, .int .i64 a0_4, .int .i64 a0_5, .int .i64 a0_6, .int .i64 a0_7]⟩], [] => some (true, .bool (f a0_0 a0_1 a0_2 a0_3 a0_4 a0_5 a0_6 a0_7), [])
  | _, _ => none

def culetlaw30_within.sp (f : Int → Int → Int → Int → (Int × Int)) (p : Int → Int → Int → Int → Bool) : HSpec
  | [.agg ⟨[.int .i64 a0_0, .int .i64 a0_1]⟩, .int .u32 a1, .int .u32 a2], [] => some (p a0_0 a0_1 a1 a2, .agg ⟨[.int .i64 (f a0_0 a0_1 a1 a2).1, .int .i64 (f a0_0 a0_1 a1 a2).2]⟩, [])
  | _, _ => none

def culetref27_Inside.sp (f : Int → Int → Int → Int → (Bool)) : HSpec
  | [.agg ⟨[.int .i64 a0_0, .int .i64 a0_1]⟩, .agg ⟨[.int .i64 a1_0, .int .i64 a1_1]⟩], [] => some (true, .bool (f a0_0 a0_1 a1_0 a1_1), [])
  | _, _ => none

def culetlaw30_FresnelInclusion.sp (f : Int → Int → Int → Int → Int → Int → Int → Int → Int → Int → Int → Int → Int → Int → Int → Int → (Bool)) : HSpec
  | [.agg ⟨[.int .i64 a0_0, .int .i64 a0_1, .int .i64 a0_2, .int .i64 a0_3, .int .i64 a0_4, .int .i64 a0_5, .int .i64 a0_6, .int .i64 a0_7]⟩, .agg ⟨[.int .u32 a1_0, .int .u32 a1_1, .int .u32 a1_2, .int .u32 a1_3, .int .u32 a1_4, .int .u32 a1_5, .int .u32 a1_6, .int .u32 a1_7]⟩], [] => some (true, .bool (f a0_0 a0_1 a0_2 a0_3 a0_4 a0_5 a0_6 a0_7 a1_0 a1_1 a1_2 a1_3 a1_4 a1_5 a1_6 a1_7), [])
  | _, _ => none

end Go.Proofs.Ytommeheenogjgaa.G
