/- RX, part 9: contracts out of runs of the evaluator. -/
import Derived.Test.YtgfjidlckocflaaDoorRX8
import Derived.KernelRfl
namespace RX
open Go Go.RowKit
set_option linter.unusedVariables false

def enum : List Blk → Nat → Heap
  | [], _ => []
  | b :: r, n => (n, b) :: enum r (n + 1)
theorem look_enum : ∀ (l : List Blk) (n m : Nat), look (enum l n) m = if m < n then none else l[m - n]?
  | [], n, m => by simp [enum, look]
  | b :: r, n, m => by
    simp only [enum, look]
    cases h : Nat.beq n m with
    | true =>
      have := Nat.eq_of_beq_eq_true h
      subst this
      simp
    | false =>
      have hne : n ≠ m := fun e => by subst e; simp at h
      simp only [cond_false, look_enum r (n + 1) m]
      by_cases hlt : m < n
      · simp [hlt, show m < n + 1 from by omega]
      · have : ¬ m < n + 1 := by omega
        simp only [hlt, this, if_false]
        rw [show m - n = (m - (n + 1)) + 1 from by omega, List.getElem?_cons_succ]

/-- The blocks named 0, 1, .., as they are now. -/
def firstB (H : Heap) : Nat → Nat → Option (List Blk)
  | _, 0 => some []
  | i, n + 1 => match look H i, firstB H (i + 1) n with
    | some b, some l => some (b :: l)
    | _, _ => none
theorem firstB_get {H : Heap} : ∀ {n i : Nat} {l : List Blk}, firstB H i n = some l → l.length = n ∧ ∀ (j : Nat) (b : Blk), l[j]? = some b → look H (i + j) = some b
  | 0, i, l, h => by simp [firstB] at h; subst h; simp
  | n + 1, i, l, h => by
    simp only [firstB] at h
    split at h
    · rename_i b r hb hr
      injection h with h; subst h
      obtain ⟨h1, h2⟩ := firstB_get hr
      refine ⟨by simp [h1], fun j c hj => ?_⟩
      cases j with
      | zero => simp at hj; subst hj; exact hb
      | succ j =>
        have := h2 j c (by simpa using hj)
        rwa [show i + 1 + j = i + (j + 1) from by omega] at this
    · simp at h

/-- What a function comes to: the result and the blocks that its arguments lead to. -/
def xfn (P : Program) (E : Env) (L : List (Nat × LSpec)) (n : Nat) (fn : Func) (vs : List Value) (bl : List Blk) : Option (Value × List Blk) :=
  execFn P E L (hs P E n).lf (hs P E n).cf fn vs (enum bl 0) bl.length fun v H _ => match firstB H 0 bl.length with | some l => some (v, l) | none => none

structure Told (P : Program) (E : Env) (L : List (Nat × LSpec)) (n : Nat) (fn : Func) (vs : List Value) (bl : List Blk) (v : Value) (bl' : List Blk) : Prop where
  run : xfn P E L n fn vs bl = some (v, bl')
  args : ∀ u ∈ vs, okV (fun m => Nat.blt m bl.length) 8 u = true
  clo : Clo v
  blk : ∀ b ∈ bl', ∀ c ∈ b.cells, Clo c

theorem sok_of {P : Program} {E : Env} {L : List (Nat × LSpec)} (hE : EnvOk P E) (n : Nat) {f : FuncId} {fn : Func} (hf : P.funcs[f]? = some fn) (hn : fn.name ≠ "runtime.NumGoroutine") (hb : fn.body.isSome = true) (hL : ∀ c, fn.body = some c → LsOk P L c) {s : HSpec}
    (h : ∀ vs bl v bl', s vs bl = some (true, v, bl') → Told P E L n fn vs bl v bl') : SOK P f s := by
  refine ⟨⟨fn, hf, hn, hb⟩, fun vs bl v bl' hs hcl g w hmem hinj htab hnt => ?_⟩
  obtain ⟨hrun, hargs, hcv, hcb⟩ := h vs bl v bl' hs
  have bnd : ∀ u ∈ vs, Bnd bl.length u := fun u hu g g' e => okV_spec (fun m hm => e m (by simpa [Nat.blt_eq] using hm)) 8 u (hargs u hu)
  have lk : ∀ m b, look (enum bl 0) m = some b → bl[m]? = some b := fun m b h => by
    rw [look_enum] at h
    simpa using h
  have hr : HRel w (fun k => ∃ i, i < bl.length ∧ k = g i) g (enum bl 0) bl.length w := by
    refine ⟨fun m b hm => ?_, fun m b hm => ?_, fun m b hm => ?_, fun m k b c hm hk e => ?_, fun m b hm => ?_, Keep.refl w _, htab, fun m b hm => hnt m (List.getElem?_eq_some_iff.1 (lk m b hm)).1⟩
    · exact (List.getElem?_eq_some_iff.1 (lk m b hm)).1
    · exact fun c hc => (hcl b (List.mem_of_getElem? (lk m b hm)) c hc).bnd _
    · rw [hmem m b (lk m b hm), map_clo (hcl b (List.mem_of_getElem? (lk m b hm)))]
    · exact hinj m k (List.getElem?_eq_some_iff.1 (lk m b hm)).1 (List.getElem?_eq_some_iff.1 (lk k c hk)).1 e
    · exact .inr ⟨m, (List.getElem?_eq_some_iff.1 (lk m b hm)).1, rfl⟩
  refine (execFn_sound hE (hs_lf hE n) (hs_cf hE n) hf hL hrun hr bnd).mono fun e w' ⟨v', g', H', nx', he, hk, hag, hle, hr', hbv⟩ => ?_
  split at hk
  · rename_i l hl
    simp only [Option.some.injEq, Prod.mk.injEq] at hk
    obtain ⟨rfl, rfl⟩ := hk
    obtain ⟨h1, h2⟩ := firstB_get hl
    have hlen : l.length = bl.length := h1
    refine ⟨g, fun _ _ => rfl, by rw [he, hcv g', hcv g], fun i b hi => ?_, fun i h3 h4 => by omega, fun i j h3 h4 => by omega, hr'.keep⟩
    have := hr'.mem i b (by have := h2 i b hi; rwa [Nat.zero_add] at this)
    have hlt : i < bl.length := by rw [← h1]; exact (List.getElem?_eq_some_iff.1 hi).1
    rw [hag i hlt, map_clo (hcb b (List.mem_of_getElem? hi))] at this
    exact this
  · simp at hk

/-! ### contracts of functions that make new blocks -/
/-- The run with the blocks named 0, 1, .. and those of 'rn'. -/
def xfnN (P : Program) (E : Env) (L : List (Nat × LSpec)) (n : Nat) (fn : Func) (vs : List Value) (bl : List Blk) (rn : List Nat) : Option (Value × List Blk) :=
  execFn P E L (hs P E n).lf (hs P E n).cf fn vs (enum bl 0) bl.length fun v H _ => match firstB H 0 bl.length, getB H rn with | some l, some l2 => some (v, l ++ l2) | _, _ => none
def rho (m : Nat) (rn : List Nat) (i : Nat) : Nat := if i < m then i else rn.getD (i - m) 0
structure ToldN (P : Program) (E : Env) (L : List (Nat × LSpec)) (n : Nat) (fn : Func) (vs : List Value) (bl : List Blk) (v : Value) (bl' : List Blk) (rn : List Nat) : Prop where
  run : xfnN P E L n fn vs bl rn = some (ren (rho bl.length rn) v, bl')
  args : ∀ u ∈ vs, okV (fun m => Nat.blt m bl.length) 8 u = true
  ok : okN bl'.length 8 v = true
  blk : ∀ b ∈ bl', ∀ c ∈ b.cells, Clo c
  nod : rn.Nodup
  big : ∀ x ∈ rn, bl.length ≤ x
theorem sok_ofN {P : Program} {E : Env} {L : List (Nat × LSpec)} (hE : EnvOk P E) (n : Nat) {f : FuncId} {fn : Func} (hf : P.funcs[f]? = some fn) (hn : fn.name ≠ "runtime.NumGoroutine") (hb : fn.body.isSome = true) (hL : ∀ c, fn.body = some c → LsOk P L c) {s : HSpec}
    (h : ∀ vs bl v bl', s vs bl = some (true, v, bl') → ∃ rn, ToldN P E L n fn vs bl v bl' rn) : SOK P f s := by
  refine ⟨⟨fn, hf, hn, hb⟩, fun vs bl v bl' hs hcl g w hmem hinj htab hnt => ?_⟩
  obtain ⟨rn, hrun, hargs, hok, hcb, hnod, hbig⟩ := h vs bl v bl' hs
  have bnd : ∀ u ∈ vs, Bnd bl.length u := fun u hu g g' e => okV_spec (fun m hm => e m (by simpa [Nat.blt_eq] using hm)) 8 u (hargs u hu)
  have lk : ∀ m b, look (enum bl 0) m = some b → bl[m]? = some b := fun m b h => by
    rw [look_enum] at h
    simpa using h
  have hr : HRel w (fun k => ∃ i, i < bl.length ∧ k = g i) g (enum bl 0) bl.length w := by
    refine ⟨fun m b hm => ?_, fun m b hm => ?_, fun m b hm => ?_, fun m k b c hm hk e => ?_, fun m b hm => ?_, Keep.refl w _, htab, fun m b hm => hnt m (List.getElem?_eq_some_iff.1 (lk m b hm)).1⟩
    · exact (List.getElem?_eq_some_iff.1 (lk m b hm)).1
    · exact fun c hc => (hcl b (List.mem_of_getElem? (lk m b hm)) c hc).bnd _
    · rw [hmem m b (lk m b hm), map_clo (hcl b (List.mem_of_getElem? (lk m b hm)))]
    · exact hinj m k (List.getElem?_eq_some_iff.1 (lk m b hm)).1 (List.getElem?_eq_some_iff.1 (lk k c hk)).1 e
    · exact .inr ⟨m, (List.getElem?_eq_some_iff.1 (lk m b hm)).1, rfl⟩
  refine (execFn_sound hE (hs_lf hE n) (hs_cf hE n) hf hL hrun hr bnd).mono fun e w' ⟨v', g', H', nx', he, hk, hag, hle, hr', hbv⟩ => ?_
  split at hk
  · rename_i l l2 hl hl2
    simp only [Option.some.injEq, Prod.mk.injEq] at hk
    obtain ⟨rfl, rfl⟩ := hk
    obtain ⟨h1, h2⟩ := firstB_get hl
    obtain ⟨h3, h4⟩ := getB_get hl2
    have hlook : ∀ i, bl.length ≤ i → i < (l ++ l2).length → ∃ x b, rn[i - bl.length]? = some x ∧ l2[i - bl.length]? = some b ∧ look H' x = some b ∧ rho bl.length rn i = x := fun i hi hi2 => by
      have hi3 : i - bl.length < l2.length := by simp only [List.length_append] at hi2; omega
      obtain ⟨x, hx1, hx2⟩ := h4 _ _ (List.getElem?_eq_getElem hi3)
      refine ⟨x, _, hx1, List.getElem?_eq_getElem hi3, hx2, ?_⟩
      unfold rho
      rw [if_neg (by omega), List.getD_eq_getElem?_getD, hx1]
      rfl
    refine ⟨fun i => g' (rho bl.length rn i), fun i hi => ?_, ?_, fun i b hi => ?_, fun i hi hi2 => ?_, fun i j hi hi2 hj hj2 e => ?_, hr'.keep⟩
    · show g' (rho bl.length rn i) = g i
      unfold rho
      rw [if_pos hi, hag i hi]
    · rw [he, okN_comp (g := g') (h := rho bl.length rn) (k := fun i => g' (rho bl.length rn i)) (fun i _ => rfl) 8 v hok]
    · have hb0 := hcb b (List.mem_of_getElem? hi)
      show w'.heap[g' (rho bl.length rn i)]? = _
      by_cases hlt : i < bl.length
      · rw [List.getElem?_append_left (by omega)] at hi
        have := hr'.mem i b (by have := h2 i b hi; rwa [Nat.zero_add] at this)
        unfold rho
        rw [if_pos hlt, this, map_clo hb0]
      · obtain ⟨x, b', hx1, hx2, hx3, hx4⟩ := hlook i (by omega) (List.getElem?_eq_some_iff.1 hi).1
        rw [List.getElem?_append_right (by omega), h1, hx2] at hi
        injection hi with hi
        subst hi
        rw [hx4, hr'.mem x _ hx3, map_clo hb0]
    · obtain ⟨x, b', hx1, hx2, hx3, hx4⟩ := hlook i hi hi2
      show w.heap.size ≤ g' (rho bl.length rn i)
      rw [hx4]
      rcases hr'.own x b' hx3 with ho | ⟨j, hj, ho⟩
      · exact ho
      · exfalso
        have hlj : ∃ b, look H' j = some b := ⟨l[j]'(by omega), by have := h2 j _ (List.getElem?_eq_getElem (by omega)); rwa [Nat.zero_add] at this⟩
        obtain ⟨b2, hb2⟩ := hlj
        have := hr'.inj x j b' b2 hx3 hb2 (by rw [ho, hag j hj])
        have := hbig x (List.mem_of_getElem? hx1)
        omega
    · obtain ⟨x, b1, hx1, hx2, hx3, hx4⟩ := hlook i hi hi2
      obtain ⟨y, b2, hy1, hy2, hy3, hy4⟩ := hlook j hj hj2
      simp only [hx4, hy4] at e
      have := hr'.inj x y b1 b2 hx3 hy3 e
      subst this
      obtain ⟨p1, q1⟩ := List.getElem?_eq_some_iff.1 hx1
      obtain ⟨p2, q2⟩ := List.getElem?_eq_some_iff.1 hy1
      have := nodup_inj hnod p1 p2 (q1.trans q2.symm)
      omega
  · simp at hk
theorem calls_of {P : Program} {f : FuncId} {s : HSpec} (h : SOK P f s) {vs : List Value} {v : Value} (hs : s vs [] = some (true, v, [])) (hv : ∀ u ∈ vs, Clo u) (hcv : Clo v) (w : World) (ht : TabOk w) :
    Calls P f ⟨vs⟩ w fun e w' => e = .returned v ∧ Below w.heap.size w w' := by
  have := h.run vs [] v [] hs (by simp) (fun n => n) w (by simp) (by simp) ht (fun i hi => absurd hi (by simp))
  rw [map_clo hv] at this
  refine this.mono fun e w' ⟨g2, _, he, _, _, _, hk⟩ => ⟨by rw [he, hcv g2], ⟨hk.os, hk.tape, hk.output, hk.size, fun k hk' => hk.block k hk' (by simp)⟩⟩

theorem specs_nil {P : Program} : ∀ (f : Nat) (s : HSpec), look ([] : List (Nat × HSpec)) f = some s → SOK P f s := fun f s h => by simp [look] at h
theorem specs_cons {P : Program} {n : Nat} {s : HSpec} {l : List (Nat × HSpec)} (h : SOK P n s) (r : ∀ f s, look l f = some s → SOK P f s) : ∀ (f : Nat) (s' : HSpec), look ((n, s) :: l) f = some s' → SOK P f s' := fun f s' h' => by
  simp only [look] at h'
  cases hb : Nat.beq n f with
  | true =>
    have := Nat.eq_of_beq_eq_true hb
    subst this
    rw [hb] at h'
    simp only [cond_true, Option.some.injEq] at h'
    subst h'
    exact h
  | false =>
    rw [hb] at h'
    exact r f s' h'
def FnOk (P : Program) (f : Nat) (fn : Func) : Prop := P.funcs[f]? = some fn ∧ fn.name ≠ "runtime.NumGoroutine" ∧ fn.body.isSome = true
theorem inl_nil {P : Program} : ∀ (f : Nat) (fn : Func), look ([] : List (Nat × Func)) f = some fn → FnOk P f fn := fun f s h => by simp [look] at h
theorem inl_cons {P : Program} {n : Nat} {s : Func} {l : List (Nat × Func)} (h : FnOk P n s) (r : ∀ f s, look l f = some s → FnOk P f s) : ∀ (f : Nat) (s' : Func), look ((n, s) :: l) f = some s' → FnOk P f s' := fun f s' h' => by
  simp only [look] at h'
  cases hb : Nat.beq n f with
  | true =>
    have := Nat.eq_of_beq_eq_true hb
    subst this
    rw [hb] at h'
    simp only [cond_true, Option.some.injEq] at h'
    subst h'
    exact h
  | false =>
    rw [hb] at h'
    exact r f s' h'

theorem acond {α β : Type} (k : α → β) (b : Bool) (x y : α) : k (bif b then x else y) = bif b then k x else k y := by cases b <;> rfl
theorem bcond {α β : Type} (k : α → Option β) (b : Bool) (x y : Option α) : (bif b then x else y).bind k = bif b then x.bind k else y.bind k := by cases b <;> rfl
theorem told_blk {l : List Blk} (h : l.all Blk.clo = true) : ∀ b ∈ l, ∀ c ∈ b.cells, Clo c := fun b hb => Blk.clo_spec (by rw [List.all_eq_true] at h; exact h b hb)

theorem no_loops {P : Program} {fn : Func} : ∀ c, fn.body = some c → LsOk P [] c := fun _ _ => lsOk_nil
/-- A function's one told loop. -/
theorem one_loop {P : Program} {fn : Func} {i : Nat} {b c : Code} {t : LSpec} (hb : fn.body = some b) (hl : (loopsIn b).filter (fun p => Nat.beq i p.1) = [(i, c)]) (h : LOK P c t) : ∀ c, fn.body = some c → LsOk P [(i, t)] c := fun b' hb' p hp t' ht => by
  rw [hb] at hb'
  injection hb' with hb'
  subst hb'
  simp only [look] at ht
  cases he : Nat.beq i p.1 with
  | false => rw [he] at ht; cases ht
  | true =>
    rw [he] at ht
    simp only [cond_true, Option.some.injEq] at ht
    subst ht
    have hm : p ∈ (loopsIn b).filter (fun p => Nat.beq i p.1) := List.mem_filter.2 ⟨hp, he⟩
    rw [hl, List.mem_singleton] at hm
    subst hm
    exact h

/-! ### told loops: from round to round -/
/-- What a state bears is old. -/
def Small (n : Nat) (S : St) : Prop := (∀ v ∈ S.tmps, Bnd n v) ∧ (∀ m b, look S.heap m = some b → m < n ∧ ∀ c ∈ b.cells, Bnd n c)
theorem SRel.small {W0 : World} {out : Nat → Prop} {g0 : Nat → Nat} {n0 : Nat} {S : St} {a : Act} {w : World} (h : SRel W0 out g0 n0 S a w) : n0 ≤ S.nxt ∧ Small S.nxt S := by
  obtain ⟨g, _, hn, tr, hr⟩ := h
  exact ⟨hn, tr.tb, fun m b hm => ⟨hr.dom m b hm, fun c hc => hr.bnd m b hm c hc⟩⟩
theorem SRel.back {W0 : World} {out : Nat → Prop} {g0 : Nat → Nat} {n0 n : Nat} {S : St} {a : Act} {w : World} (h : SRel W0 out g0 n0 S a w) (hn : n0 ≤ n) (hs : Small n S) : SRel W0 out g0 n0 ⟨S.tmps, S.heap, n⟩ a w := by
  obtain ⟨g, hg, _, tr, hr⟩ := h
  exact ⟨g, hg, hn, ⟨tr.tm, tr.df, hs.1⟩, ⟨fun m b hm => (hs.2 m b hm).1, fun m b hm => (hs.2 m b hm).2, hr.mem, hr.inj, hr.own, hr.keep, hr.tabs, hr.ntab⟩⟩
/-- A loop comes from a state to a state. -/
inductive Lp (P : Program) (E : Env) (L : List (Nat × LSpec)) (f : Nat) (c : Code) : St → X → St → Prop
  | done {S : St} {x : X} {T : List Value} {H : Heap} : exec P E L (hs P E f).lf (hs P E f).cf c S (fun x S => some (x, S.tmps, S.heap)) = some (x, T, H) → (match x with | .normal => False | _ => True) → (Small S.nxt S → Small S.nxt ⟨T, H, S.nxt⟩) → Lp P E L f c S x ⟨T, H, S.nxt⟩
  | more {S : St} {T : List Value} {H : Heap} {x : X} {S' : St} : exec P E L (hs P E f).lf (hs P E f).cf c S (fun x S => some (x, S.tmps, S.heap)) = some (.normal, T, H) → (Small S.nxt S → Small S.nxt ⟨T, H, S.nxt⟩) → Lp P E L f c ⟨T, H, S.nxt⟩ x S' → Lp P E L f c S x S'
theorem lp_rounds {P : Program} {E : Env} (hE : EnvOk P E) {L : List (Nat × LSpec)} {f : Nat} {c : Code} (hL : LsOk P L c) {S : St} {x : X} {S' : St} (h : Lp P E L f c S x S')
    {W0 : World} {out : Nat → Prop} {g0 : Nat → Nat} {n0 : Nat} {Q : Exit → Act → World → Prop} (hQ : ∀ a' w', SRel W0 out g0 n0 S' a' w' → Q x.to a' w') :
    ∃ n, ∀ (a : Act) (w : World), SRel W0 out g0 n0 S a w → Code.rounds P c Q n a w := by
  induction h with
  | @done S x T H he hx hs =>
    refine ⟨1, fun a w hr => ?_⟩
    rw [rounds_succ]
    obtain ⟨hn, hsm⟩ := hr.small
    refine exec_sound hE (hs_lf hE f) (hs_cf hE f) c hL S _ _ he W0 out g0 n0 a w _ hr fun y U a' w' hy ht => ?_
    simp only [Option.some.injEq, Prod.mk.injEq] at hy
    obtain ⟨rfl, rfl, rfl⟩ := hy
    have := hQ a' w' (ht.back hn (hs hsm))
    cases y with
    | normal => exact hx.elim
    | exit i => exact this
    | ret => exact this
  | @more S T H x S' he hs _ ih =>
    obtain ⟨n, hn⟩ := ih hQ
    refine ⟨n + 1, fun a w hr => ?_⟩
    rw [rounds_succ]
    obtain ⟨hn', hsm⟩ := hr.small
    refine exec_sound hE (hs_lf hE f) (hs_cf hE f) c hL S _ _ he W0 out g0 n0 a w _ hr fun y U a' w' hy ht => ?_
    simp only [Option.some.injEq, Prod.mk.injEq] at hy
    obtain ⟨rfl, rfl, rfl⟩ := hy
    exact hn a' w' (ht.back hn' (hs hsm))
theorem Small.of {n : Nat} {S : St} (h : Small n S) {T : List Value} (ht : ∀ v ∈ T, Clo v ∨ v ∈ S.tmps) : Small n ⟨T, S.heap, n⟩ :=
  ⟨fun v hv => (ht v hv).elim (fun c => c.bnd n) (fun c => h.1 v c), h.2⟩
def loopCode (fn : Func) (i : Nat) : Code := match fn.body with
  | some b => (match look (loopsIn b) i with | some c => c | none => .skip)
  | none => .skip
theorem lok_of {P : Program} {E : Env} (hE : EnvOk P E) {L : List (Nat × LSpec)} {f : Nat} {c : Code} {t : LSpec} (hc : LsOk P L c) (h : ∀ S x S', t S = some (true, x, S') → Lp P E L f c S x S') : LOK P c t := fun S x S' ht W0 out g0 n0 a w Q hr hQ => by
  obtain ⟨n, hn⟩ := lp_rounds hE hc (h S x S' ht) (Q := Q) hQ
  exact wp_loop_rounds n (hn a w hr)

/-- A law's call out of its run. -/
theorem calls_run {P : Program} {E : Env} {L : List (Nat × LSpec)} (hE : EnvOk P E) (n : Nat) {f : FuncId} {fn : Func} (hf : P.funcs[f]? = some fn) (hn : fn.name ≠ "runtime.NumGoroutine") (hb : fn.body.isSome = true) (hL : ∀ c, fn.body = some c → LsOk P L c) {vs : List Value} {v : Value} (h : xfn P E L n fn vs [] = some (v, []))
    (ha : ∀ u ∈ vs, okV (fun m => Nat.blt m 0) 8 u = true) (hv : Clo v) (w : World) (htab : TabOk w) : Calls P f ⟨vs⟩ w fun e w' => e = .returned v ∧ Below w.heap.size w w' := by
  have hs : SOK P f (fun us bl => match bl with | [] => (match Classical.propDecidable (us = vs) with | .isTrue _ => some (true, v, []) | .isFalse _ => none) | _ => none) := by
    refine sok_of hE n hf hn hb hL fun us bl u bl' hh => ?_
    split at hh
    · split at hh
      · rename_i e _
        subst e
        simp only [Option.some.injEq, Prod.mk.injEq, true_and] at hh
        obtain ⟨rfl, rfl⟩ := hh
        exact ⟨h, by simpa using ha, hv, by simp⟩
      · cases hh
    · cases hh
  refine calls_of hs (vs := vs) (v := v) ?_ (fun u hu => ?_) hv w htab
  · simp only
    split
    · rfl
    · rename_i e _
      exact absurd rfl e
  · intro g
    have := okV_spec (p := fun m => Nat.blt m 0) (g := g) (g' := fun n => n) (fun n hn => by simp [Nat.blt] at hn) 8 u (ha u hu)
    rw [this]
    have key : ∀ (k : Nat) (x : Value), okV (fun m => Nat.blt m 0) k x = true → ren (fun n => n) x = x := by
      intro k
      induction k with
      | zero => intro x hx; simp [okV] at hx
      | succ k ih =>
        have hl : ∀ l : List Value, l.all (okV (fun m => Nat.blt m 0) k) = true → l.map (ren fun n => n) = l := fun l hl => by
          rw [List.all_eq_true] at hl
          calc l.map (ren fun n => n) = l.map id := List.map_congr_left fun x hx => ih x (hl x hx)
            _ = l := by simp
        intro x hx
        unfold okV at hx
        split at hx
        any_goals simp [ren]
        · exact absurd hx (by simp [Nat.blt])
        · exact absurd hx (by simp [Nat.blt])
        any_goals rw [renL_map]
        any_goals exact hl _ hx
        · simp only [Bool.and_eq_true] at hx
          rw [renL_map]
          exact ⟨hl _ hx.1, hl _ hx.2⟩
        · exact ih _ hx
        · simp at hx
    exact key 8 u (ha u hu)
end RX
