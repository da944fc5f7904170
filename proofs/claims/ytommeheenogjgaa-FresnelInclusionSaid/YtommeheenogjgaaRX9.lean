/- RX, part 9: contracts out of runs of the evaluator. -/
import Derived.Test.YtommeheenogjgaaRX8
import Derived.KernelRfl
namespace RX
open Go Go.RowKit
set_option linter.unusedVariables false

def enum : List Blk → Nat → Heap
  | [], _ => []
  | b :: r, n => (n, b) :: enum r (n + 1)
theorem look_enum : ∀ (l : List Blk) (n m : Nat), look (enum l n) m = if m < n then none else l[m - n]?
  | [], n, m => by simp [enum, look]
  | b :: r, n, m => by
    simp only [enum, look]
    cases h : Nat.beq n m with
    | true =>
      have := Nat.eq_of_beq_eq_true h
      subst this
      simp
    | false =>
      have hne : n ≠ m := fun e => by subst e; simp at h
      simp only [cond_false, look_enum r (n + 1) m]
      by_cases hlt : m < n
      · simp [hlt, show m < n + 1 from by omega]
      · have : ¬ m < n + 1 := by omega
        simp only [hlt, this, if_false]
        rw [show m - n = (m - (n + 1)) + 1 from by omega, List.getElem?_cons_succ]

/-- The blocks named 0, 1, .., as they are now. -/
def firstB (H : Heap) : Nat → Nat → Option (List Blk)
  | _, 0 => some []
  | i, n + 1 => match look H i, firstB H (i + 1) n with
    | some b, some l => some (b :: l)
    | _, _ => none
theorem firstB_get {H : Heap} : ∀ {n i : Nat} {l : List Blk}, firstB H i n = some l → l.length = n ∧ ∀ (j : Nat) (b : Blk), l[j]? = some b → look H (i + j) = some b
  | 0, i, l, h => by simp [firstB] at h; subst h; simp
  | n + 1, i, l, h => by
    simp only [firstB] at h
    split at h
    · rename_i b r hb hr
      injection h with h; subst h
      obtain ⟨h1, h2⟩ := firstB_get hr
      refine ⟨by simp [h1], fun j c hj => ?_⟩
      cases j with
      | zero => simp at hj; subst hj; exact hb
      | succ j =>
        have := h2 j c (by simpa using hj)
        rwa [show i + 1 + j = i + (j + 1) from by omega] at this
    · simp at h

/-- What a function comes to: the result and the blocks that its arguments lead to. -/
def xfn (P : Program) (E : Env) (n : Nat) (fn : Func) (vs : List Value) (bl : List Blk) : Option (Value × List Blk) :=
  execFn P E (hs P E n).lf (hs P E n).cf fn vs (enum bl 0) bl.length fun v H _ => match firstB H 0 bl.length with | some l => some (v, l) | none => none

structure Told (P : Program) (E : Env) (n : Nat) (fn : Func) (vs : List Value) (bl : List Blk) (v : Value) (bl' : List Blk) : Prop where
  run : xfn P E n fn vs bl = some (v, bl')
  args : ∀ u ∈ vs, okV (fun m => Nat.blt m bl.length) 8 u = true
  clo : Clo v
  blk : ∀ b ∈ bl', ∀ c ∈ b.cells, Clo c

theorem sok_of {P : Program} {E : Env} (hE : EnvOk P E) (n : Nat) {f : FuncId} {fn : Func} (hf : P.funcs[f]? = some fn) (hn : fn.name ≠ "runtime.NumGoroutine") (hb : fn.body.isSome = true) {s : HSpec}
    (h : ∀ vs bl v bl', s vs bl = some (true, v, bl') → Told P E n fn vs bl v bl') : SOK P f s := by
  refine ⟨⟨fn, hf, hn, hb⟩, fun vs bl v bl' hs hcl g w hmem hinj => ?_⟩
  obtain ⟨hrun, hargs, hcv, hcb⟩ := h vs bl v bl' hs
  have bnd : ∀ u ∈ vs, Bnd bl.length u := fun u hu g g' e => okV_spec (fun m hm => e m (by simpa [Nat.blt_eq] using hm)) 8 u (hargs u hu)
  have lk : ∀ m b, look (enum bl 0) m = some b → bl[m]? = some b := fun m b h => by
    rw [look_enum] at h
    simpa using h
  have hr : HRel w (fun k => ∃ i, i < bl.length ∧ k = g i) g (enum bl 0) bl.length w := by
    refine ⟨fun m b hm => ?_, fun m b hm => ?_, fun m b hm => ?_, fun m k b c hm hk e => ?_, fun m b hm => ?_, Keep.refl w _⟩
    · exact (List.getElem?_eq_some_iff.1 (lk m b hm)).1
    · exact fun c hc => (hcl b (List.mem_of_getElem? (lk m b hm)) c hc).bnd _
    · rw [hmem m b (lk m b hm), map_clo (hcl b (List.mem_of_getElem? (lk m b hm)))]
    · exact hinj m k (List.getElem?_eq_some_iff.1 (lk m b hm)).1 (List.getElem?_eq_some_iff.1 (lk k c hk)).1 e
    · exact .inr ⟨m, (List.getElem?_eq_some_iff.1 (lk m b hm)).1, rfl⟩
  refine (execFn_sound hE (hs_lf hE n) (hs_cf hE n) hf hrun hr bnd).mono fun e w' ⟨v', g', H', nx', he, hk, hag, hle, hr', hbv⟩ => ?_
  split at hk
  · rename_i l hl
    simp only [Option.some.injEq, Prod.mk.injEq] at hk
    obtain ⟨rfl, rfl⟩ := hk
    obtain ⟨h1, h2⟩ := firstB_get hl
    refine ⟨by rw [he, hcv g'], fun i b hi => ?_, hr'.keep⟩
    have := hr'.mem i b (by have := h2 i b hi; rwa [Nat.zero_add] at this)
    have hlt : i < bl.length := by rw [← h1]; exact (List.getElem?_eq_some_iff.1 hi).1
    rw [hag i hlt, map_clo (hcb b (List.mem_of_getElem? hi))] at this
    exact this
  · simp at hk

theorem calls_of {P : Program} {f : FuncId} {s : HSpec} (h : SOK P f s) {vs : List Value} {v : Value} (hs : s vs [] = some (true, v, [])) (hv : ∀ u ∈ vs, Clo u) (w : World) :
    Calls P f ⟨vs⟩ w fun e w' => e = .returned v ∧ Below w.heap.size w w' := by
  have := h.run vs [] v [] hs (by simp) (fun n => n) w (by simp) (by simp)
  rw [map_clo hv] at this
  refine this.mono fun e w' ⟨he, _, hk⟩ => ⟨he, ⟨hk.os, hk.tape, hk.output, hk.size, fun k hk' => hk.block k hk' (by simp)⟩⟩

theorem specs_nil {P : Program} : ∀ (f : Nat) (s : HSpec), look ([] : List (Nat × HSpec)) f = some s → SOK P f s := fun f s h => by simp [look] at h
theorem specs_cons {P : Program} {n : Nat} {s : HSpec} {l : List (Nat × HSpec)} (h : SOK P n s) (r : ∀ f s, look l f = some s → SOK P f s) : ∀ (f : Nat) (s' : HSpec), look ((n, s) :: l) f = some s' → SOK P f s' := fun f s' h' => by
  simp only [look] at h'
  cases hb : Nat.beq n f with
  | true =>
    have := Nat.eq_of_beq_eq_true hb
    subst this
    rw [hb] at h'
    simp only [cond_true, Option.some.injEq] at h'
    subst h'
    exact h
  | false =>
    rw [hb] at h'
    exact r f s' h'
def FnOk (P : Program) (f : Nat) (fn : Func) : Prop := P.funcs[f]? = some fn ∧ fn.name ≠ "runtime.NumGoroutine" ∧ fn.body.isSome = true
theorem inl_nil {P : Program} : ∀ (f : Nat) (fn : Func), look ([] : List (Nat × Func)) f = some fn → FnOk P f fn := fun f s h => by simp [look] at h
theorem inl_cons {P : Program} {n : Nat} {s : Func} {l : List (Nat × Func)} (h : FnOk P n s) (r : ∀ f s, look l f = some s → FnOk P f s) : ∀ (f : Nat) (s' : Func), look ((n, s) :: l) f = some s' → FnOk P f s' := fun f s' h' => by
  simp only [look] at h'
  cases hb : Nat.beq n f with
  | true =>
    have := Nat.eq_of_beq_eq_true hb
    subst this
    rw [hb] at h'
    simp only [cond_true, Option.some.injEq] at h'
    subst h'
    exact h
  | false =>
    rw [hb] at h'
    exact r f s' h'

theorem acond {α β : Type} (k : α → β) (b : Bool) (x y : α) : k (bif b then x else y) = bif b then k x else k y := by cases b <;> rfl
theorem bcond {α β : Type} (k : α → Option β) (b : Bool) (x y : Option α) : (bif b then x else y).bind k = bif b then x.bind k else y.bind k := by cases b <;> rfl
theorem told_blk {l : List Blk} (h : l.all Blk.clo = true) : ∀ b ∈ l, ∀ c ∈ b.cells, Clo c := fun b hb => Blk.clo_spec (by rw [List.all_eq_true] at h; exact h b hb)

/-- A law's call out of its run. -/
theorem calls_run {P : Program} {E : Env} (hE : EnvOk P E) (n : Nat) {f : FuncId} {fn : Func} (hf : P.funcs[f]? = some fn) (hn : fn.name ≠ "runtime.NumGoroutine") (hb : fn.body.isSome = true) {vs : List Value} {v : Value} (h : xfn P E n fn vs [] = some (v, []))
    (ha : ∀ u ∈ vs, okV (fun m => Nat.blt m 0) 8 u = true) (hv : Clo v) (w : World) : Calls P f ⟨vs⟩ w fun e w' => e = .returned v ∧ Below w.heap.size w w' := by
  have hs : SOK P f (fun us bl => match bl with | [] => (match Classical.propDecidable (us = vs) with | .isTrue _ => some (true, v, []) | .isFalse _ => none) | _ => none) := by
    refine sok_of hE n hf hn hb fun us bl u bl' hh => ?_
    split at hh
    · split at hh
      · rename_i e _
        subst e
        simp only [Option.some.injEq, Prod.mk.injEq, true_and] at hh
        obtain ⟨rfl, rfl⟩ := hh
        exact ⟨h, by simpa using ha, hv, by simp⟩
      · cases hh
    · cases hh
  refine calls_of hs (vs := vs) (v := v) ?_ (fun u hu => ?_) w
  · simp only
    split
    · rfl
    · rename_i e _
      exact absurd rfl e
  · intro g
    have := okV_spec (p := fun m => Nat.blt m 0) (g := g) (g' := fun n => n) (fun n hn => by simp [Nat.blt] at hn) 8 u (ha u hu)
    rw [this]
    have key : ∀ (k : Nat) (x : Value), okV (fun m => Nat.blt m 0) k x = true → ren (fun n => n) x = x := by
      intro k
      induction k with
      | zero => intro x hx; simp [okV] at hx
      | succ k ih =>
        have hl : ∀ l : List Value, l.all (okV (fun m => Nat.blt m 0) k) = true → l.map (ren fun n => n) = l := fun l hl => by
          rw [List.all_eq_true] at hl
          calc l.map (ren fun n => n) = l.map id := List.map_congr_left fun x hx => ih x (hl x hx)
            _ = l := by simp
        intro x hx
        unfold okV at hx
        split at hx
        any_goals simp [ren]
        any_goals rw [renL_map]
        any_goals exact hl _ hx
        · simp only [Bool.and_eq_true] at hx
          rw [renL_map]
          exact ⟨hl _ hx.1, hl _ hx.2⟩
        · exact ih _ hx
        · simp at hx
    exact key 8 u (ha u hu)
end RX
