/- RX, the laws' rows: arguments that are structs or arrays of plain cells. -/
import Derived.Test.YtgfjidlckocflaaDoorRX9
import Derived.WalkKit
import Derived.ProofKit
import Derived.OpenShut
import Derived.ShutString
import Derived.ChangeOld
import Derived.Below
import Derived.SizedLaws
namespace RX
open Go Go.RowKit
theorem okWide_agg {P : Program} {w : World} {r : Reach} {b : Nat} {t : TypeId} {v : Value} {ts : List TypeId} (hu : (match P.underlying t with | some (.struct _) => true | some (.array _ _) => true | _ => false) = true) (hc : P.cellTypes P.depth t = some ts) (hn : P.cellsOf t = ts.length) (h : Value.okWide P w r b t v) :
    ∃ l : List Value, v = .agg ⟨l⟩ ∧ l.length = ts.length ∧ ∀ (i : Nat) (x : Value) (u : TypeId), l[i]? = some x → ts[i]? = some u → Cell.okWide P w r b u x := by
  have key : ∃ cs, v = .agg cs ∧ cs.size = P.cellsOf t ∧ Row.okWide P w r b t cs := by
    unfold Value.okWide at h
    split at h
    · exact h
    · exact h
    · rename_i h1 h2
      split at hu
      · rename_i hs; exact absurd hs (h1 _)
      · rename_i hs; exact absurd hs (h2 _ _)
      · cases hu
  obtain ⟨cs, rfl, hsz, ts', hts, _, hcell⟩ := key
  rw [hc] at hts
  injection hts with hts
  subst hts
  refine ⟨cs.toList, rfl, by simp [hsz, hn], fun i x u hx hu' => ?_⟩
  have hx' : cs[i]? = some x := by simpa using hx
  obtain ⟨u', e, hk⟩ := hcell i x hx'
  have hlt : i < ts.length := (List.getElem?_eq_some_iff.1 hu').1
  rw [Nat.mod_eq_of_lt hlt, hu'] at e
  injection e with e
  subst e
  exact hk
theorem len_succ {α : Type} {l : List α} {n : Nat} (h : l.length = n + 1) : ∃ x l', l = x :: l' ∧ l'.length = n := by
  cases l with
  | nil => simp at h
  | cons x l' => exact ⟨x, l', rfl, by simpa using h⟩
theorem len_zero {α : Type} {l : List α} (h : l.length = 0) : l = [] := List.length_eq_zero_iff.1 h
theorem cell_int {P : Program} {w : World} {r : Reach} {b : Nat} {u : TypeId} {k : IntKind} {x : Value} (hu : P.underlying u = some (.int k)) (h : Cell.okWide P w r b u x) : ∃ n, x = .int k n ∧ k.has n := by
  unfold Cell.okWide at h
  rw [hu] at h
  cases x <;> simp [Cell.ok, hu] at h
  obtain ⟨rfl, h⟩ := h
  exact ⟨_, rfl, h⟩
theorem cell_bool {P : Program} {w : World} {r : Reach} {b : Nat} {u : TypeId} {x : Value} (hu : P.underlying u = some .bool) (h : Cell.okWide P w r b u x) : ∃ n, x = .bool n := by
  unfold Cell.okWide at h
  rw [hu] at h
  cases x <;> simp [Cell.ok, hu] at h
  exact ⟨_, rfl⟩
theorem trod_lt {H : Type} {enc : TypeId × Value → H} {P : Program} {w : World} {spare : Nat → Bool} {held : Bool} {t : TypeId} {v : Value} {d : DataW H} {ps : List MemPlace} (h : DataW.Trod enc P w 0 spare held t v d ps) : ∀ x ∈ ps, x.block < w.heap.size := by
  obtain ⟨m, hm⟩ := h
  exact DataW.trod_lt m _ _ _ hm
/-- A variable's block out of its cells. -/
theorem tabObj_of {W : World} {b : Nat} {v0 : Value} {l : List Value} (h : ∀ (i : Nat) (v : Value), (v0 :: l)[i]? = some v → W.cell? ⟨b, i, none⟩ = some v) : ∃ o, W.heap[b]? = some o ∧ TabObj o (v0 :: l) := by
  have h0 := h 0 v0 rfl
  unfold World.cell? at h0
  cases hb : W.heap[b]? with
  | none => simp [hb] at h0
  | some o =>
    refine ⟨o, rfl, ?_⟩
    cases o with
    | cells C ty fr =>
      obtain ⟨C⟩ := C
      refine ⟨C, ty, fr, rfl, fun i v hv => ?_⟩
      have := h i v hv
      simpa [World.cell?, hb] using this
    | _ => simp [hb] at h0
theorem wf_has {k : IntKind} {n : Int} (h : (Lit.int k n).wf = true) : k.has n := by
  simp only [Lit.wf, Bool.and_eq_true, decide_eq_true_eq] at h
  exact h
end RX
