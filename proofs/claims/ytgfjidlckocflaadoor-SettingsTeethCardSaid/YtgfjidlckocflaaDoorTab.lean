/- The powers of ten that the runs read: what the row's condition gives. WRITTEN BY mktab.py of this repo. -/
import Derived.Test.YtgfjidlckocflaaDoorRows
import Derived.Test.YtgfjidlckocflaaDoorRXL
import Derived.ProofKit
import Derived.LaidMore
import Derived.OpenShut
import Derived.Stop.Joined
namespace Go.Proofs.YtgfjidlckocflaaDoor.G
open Go Go.ChangeShapes Go.WideShapes Go.ChangeAt Go.RowKit
def powZ : List Int := (List.range 20).map fun i => ((10 ^ i : Nat) : Int)
theorem pow_cell {W : World} (h : laidMetH Tryd.prog Rows.settingsTeethRow.laid W) (r : Nat) (hr : r < 20) : W.cell? ⟨0, r, none⟩ = some (.int .u64 (powZ.getD r 0)) := by
  rw [MakeChecks.laidMetH_plain _ _ _ (by kernel_rfl)] at h
  obtain ⟨ps, ⟨_, _, _, _, _, _, _, _, _, _, ⟨_, _, _, _, _, _, _, _, _, _, ⟨g, t, cs, fuel, p, q, hg, ht, hv, hd, _, _⟩, _⟩, _⟩, _, _⟩ := h
  obtain rfl := Option.some.inj ((show Tryd.prog.globalNamed "internal/strconv.uint64pow10" = some 0 by kernel_rfl).symm.trans hg)
  obtain rfl := Option.some.inj ((show (Tryd.prog.globals[0]?).map (·.type) = some 74 by kernel_rfl).symm.trans ht)
  obtain ⟨xs, m, _, ex, _, hl, hel⟩ := DataW.trod_array Tryd.underlying74 hd
  have c5 : Tryd.prog.cellsOf 55 = 1 := by kernel_rfl
  have hE := hel r hr
  rw [c5, Nat.mul_one, List.getElem?_eq_getElem (by omega)] at hE
  obtain ⟨z, e1, e2, _⟩ := DataW.trod_int Tryd.underlying55 hE
  have hlen : powZ.length = 20 := by kernel_rfl
  have e3 : (xs.map (·.1)) = powZ.map fun n => .lit (.int .u64 n) := (DataW.agg.inj (Prod.mk.inj ex).1).symm
  have e4 : (xs.map (·.1))[r]? = (powZ.map fun n => (DataW.lit (.int .u64 n) : DataW Unit))[r]? := by rw [e3]
  rw [List.getElem?_map, List.getElem?_map, List.getElem?_eq_getElem (by omega : r < xs.length), List.getElem?_eq_getElem (by omega : r < powZ.length), e2] at e4
  have hz : z = powZ.getD r 0 := by
    simp only [Option.map_some, Option.some.injEq, DataW.lit.injEq, Lit.int.injEq, true_and] at e4
    rw [e4, List.getD, List.getElem?_eq_getElem (by omega : r < powZ.length)]; rfl
  rw [World.var?_cell hg hv r, ← hz]
  have : cs.toList[r]? = some (.int .u64 z) := by
    have h0 : ((cs.toList.drop r).take 1)[0]? = some (.int .u64 z) := by rw [e1]; rfl
    simpa using h0
  simpa using this
theorem tab_list : RX.TB = [(0, powZ.map (Value.int .u64))] := by kernel_rfl
theorem tabok {W : World} (h : laidMetH Tryd.prog Rows.settingsTeethRow.laid W) : RX.TabOk W := by
  intro x hx
  rw [tab_list, List.mem_singleton] at hx
  subst hx
  have e : powZ.map (Value.int .u64) = .int .u64 1 :: (powZ.map (Value.int .u64)).tail := by kernel_rfl
  rw [e]
  refine RX.tabObj_of fun i v hv => ?_
  rw [← e, List.getElem?_map] at hv
  have hlen : powZ.length = 20 := by kernel_rfl
  cases hz : powZ[i]? with
  | none => rw [hz] at hv; cases hv
  | some z =>
    have hi : i < 20 := by rw [← hlen]; exact (List.getElem?_eq_some_iff.1 hz).1
    rw [hz] at hv
    injection hv with hv
    rw [pow_cell h i hi, ← hv, List.getD, hz]
    rfl
end Go.Proofs.YtgfjidlckocflaaDoor.G
