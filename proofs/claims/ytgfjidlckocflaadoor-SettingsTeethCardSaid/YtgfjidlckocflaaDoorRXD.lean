/- RX, part D: one operation, calls included; regions that draw their order: any order comes to what the text's order comes to. -/
import Derived.Test.YtgfjidlckocflaaDoorRXF
import Derived.Test.YtgfjidlckocflaaDoorRXX
namespace RX
open Go Go.RowKit
set_option linter.unusedVariables false

def effAll (P : Program) (E : Env) (nm : Nat) (o : Oper) (T : List Value) (H : Heap) : Option Rc :=
  match o.op with
  | .call c =>
    (match c.callee with
    | .value x =>
      (match ev T x with
      | .func (.func f) ⟨first⟩ ⟨cap⟩ =>
        (match look E.spec f with
        | some s => bif evOk x && c.args.toList.all evOk then callRc nm s (first ++ c.args.toList.map (ev T) ++ cap) H else none
        | none => none)
      | _ => none)
    | _ => effC P nm o T H)
  | _ => effC P nm o T H
theorem goes_all {P : Program} {E : Env} (hE : ∀ f s, look E.spec f = some s → SOK P f s) {o : Oper} {nm nx : Nat} {T : List Value} {H : Heap} (hn : nm + 16 ≤ nx) {rc : Rc} (h : effAll P E nm o T H = some rc) (hneed : rc.need = true) : Goes P o nm nx T H rc.r := by
  unfold effAll at h
  split at h
  · rename_i c ho
    split at h
    · rename_i x hc
      split at h
      · rename_i f first cap hv
        split at h
        · rename_i s hs
          cases hx : (evOk x && c.args.toList.all evOk) with
          | false => rw [hx] at h; simp at h
          | true =>
            rw [hx] at h
            simp only [cond_true] at h
            simp only [Bool.and_eq_true, List.all_eq_true] at hx
            exact goes_call ho hc hx.1 hx.2 hv (hE f s hs) hn h hneed
        · simp at h
      · simp at h
    · exact goes_c hn h hneed
  · exact goes_c hn h hneed

def gdst (ops : List Oper) (j : Nat) : Option Nat :=
  match ops[j]? with
  | some o => o.dst
  | none => none
theorem yielded_of {g : Nat → Nat} {T : List Value} {nx : Nat} {a : Act} {all : List Oper} (tr : TRel g T nx a) {j d : Nat} {b : Bool} (hd : gdst all j = some d) (hb : nth T d = .bool b) : yielded all.toArray a.tmps j = some b := by
  have h1 : ((all.toArray[j]?).bind (·.dst)) = some d := by
    unfold gdst at hd
    split at hd
    · rename_i o ho; simp [ho, hd]
    · simp at hd
  have h2 : a.tmps[d]? = some (.bool b) := by
    rw [tr.tm]
    rw [nth_getD, List.getD_eq_getElem?_getD] at hb
    cases ht : T[d]? with
    | none => rw [ht] at hb; simp [undef] at hb
    | some v =>
      rw [ht] at hb
      simp only [Option.getD_some] at hb
      subst hb
      simp [ht]
  unfold yielded
  rw [h1]
  simp [h2]
theorem yielded_not {g : Nat → Nat} {T : List Value} {nx : Nat} {a : Act} {all : List Oper} (tr : TRel g T nx a) {j d : Nat} (hd : gdst all j = some d) (hb : ∀ b, nth T d ≠ .bool b) : yielded all.toArray a.tmps j = none := by
  have h1 : ((all.toArray[j]?).bind (·.dst)) = some d := by
    unfold gdst at hd
    split at hd
    · rename_i o ho; simp [ho, hd]
    · simp at hd
  unfold yielded
  rw [h1]
  simp only [Option.bind_some]
  rw [tr.tm]
  rw [nth_getD, List.getD_eq_getElem?_getD] at hb
  simp only [List.getElem?_toArray, List.getElem?_map]
  cases ht : T[d]? with
  | none => rfl
  | some v =>
    rw [ht] at hb
    simp only [Option.getD_some] at hb
    simp only [Option.map_some]
    cases v with
    | bool b => exact absurd rfl (hb b)
    | pointer a => rcases a with _ | ⟨b', o', _ | s'⟩ <;> simp
    | slice a l c => rcases a with _ | ⟨b', o', _ | s'⟩ <;> simp
    | func fn f c => obtain ⟨f⟩ := f; obtain ⟨c⟩ := c; simp
    | agg c => obtain ⟨c⟩ := c; simp
    | tuple c => obtain ⟨c⟩ := c; simp
    | _ => simp [ren]
theorem setn_same {T : List Value} {d : Nat} {b : Bool} (h : nth T d = .bool b) : setn T d (.bool b) = T := by
  rw [setn_set]
  rw [nth_getD, List.getD_eq_getElem?_getD] at h
  cases ht : T[d]? with
  | none => rw [ht] at h; simp [undef] at h
  | some v =>
    rw [ht] at h
    simp only [Option.getD_some] at h
    subst h
    apply List.ext_getElem?
    intro i
    rw [List.getElem?_set]
    split
    · rename_i e; subst e
      have := (List.getElem?_eq_some_iff.1 ht).1
      rw [if_pos this, ht]
    · rfl

/-! ### what an operation looks at -/
theorem effOp_T {P : Program} {nm : Nat} {o : Oper} {T T' : List Value} {H : Heap} (h : ∀ x ∈ o.op.operands.toList, ev T' x = ev T x) : effOp P nm o T' H = effOp P nm o T H := by
  have pairs : ∀ ps : Array (Nat × Operand), (∀ x ∈ ps.toList.map (·.2), ev T' x = ev T x) → (ps.toList.map fun x => (x.1, ev T' x.2)) = (ps.toList.map fun x => (x.1, ev T x.2)) := fun ps hp =>
    List.map_congr_left fun p hm => by rw [hp p.2 (List.mem_map.2 ⟨p, hm, rfl⟩)]
  have lst : ∀ l : List Operand, (∀ x ∈ l, ev T' x = ev T x) → l.map (ev T') = l.map (ev T) := fun l hl => List.map_congr_left hl
  unfold effOp
  cases hall : o.op.operands.toList.all evOk with
  | false => rfl
  | true =>
    simp only [cond_true]
    split
    all_goals rename_i ho
    any_goals rfl
    any_goals simp only [ho, Op.operands] at h
    any_goals rw [h _ (by simp)]
    any_goals rw [h _ (by simp)]
    any_goals rw [h _ (by simp)]
    any_goals rw [pairs _ (by simpa using h)]
    · rename_i f c
      rw [lst _ (fun x hx => h x (by simp only [Array.toList_append, List.mem_append]; exact .inl hx)), lst _ (fun x hx => h x (by simp only [Array.toList_append, List.mem_append]; exact .inr hx))]
    · rename_i c
      split
      · rename_i b hb
        simp only [Call.operands, hb] at h
        rw [lst _ (fun x hx => h x (by simpa using hx))]
      · rfl
theorem effAll_T {P : Program} {E : Env} {nm : Nat} {o : Oper} {T T' : List Value} {H : Heap} (h : ∀ x ∈ o.op.operands.toList, ev T' x = ev T x) : effAll P E nm o T' H = effAll P E nm o T H := by
  unfold effAll
  split
  · rename_i c ho
    split
    · rename_i x hc
      have hx : ev T' x = ev T x := h x (by simp [ho, Op.operands, Call.operands, hc])
      have ha : c.args.toList.map (ev T') = c.args.toList.map (ev T) := List.map_congr_left fun y hy => h y (by simp [ho, Op.operands, Call.operands, hc]; exact .inr (by simpa using hy))
      rw [hx, ha]
    · exact effC_T (effOp_T h) h
  · exact effC_T (effOp_T h) h
theorem effLoad_H {P : Program} {H H' : Heap} {t : TypeId} {v : Value} {rc : Rc} (h : effLoad P H t v = some rc) (hh : ∀ n ∈ rc.r.rs, look H' n = look H n) : effLoad P H' t v = some rc := by
  unfold effLoad at h ⊢
  split at h
  · rename_i b off
    split at h
    · rename_i u hu
      have := Rc.of_inv h; subst this
      have hb := hh b (by simp)
      unfold loadA at hu
      simp only [loadA, hb, hu, Rc.of]
    · rename_i hn
      have hrs : rc.r.rs = [b] := by
        unfold loadI at h
        split at h
        · injection h with h; subst h; rfl
        · simp at h
      rw [hrs] at hh
      have hb := hh b (by simp)
      have h2 : loadA P H' t b off = none := by
        unfold loadA at hn ⊢
        rw [hb]; exact hn
      rw [h2]
      unfold loadI at h ⊢
      rw [hb]
      exact h
  · simp at h
theorem effStore_H {P : Program} {H H' : Heap} {t : TypeId} {v y : Value} {rc : Rc} (h : effStore P H t y v = some rc) (hh : ∀ n ∈ rc.r.rs, look H' n = look H n) : effStore P H' t y v = some rc := by
  unfold effStore at h ⊢
  split at h
  · rename_i b off
    split at h
    · rename_i C ty n hl hs
      cases hc : (Nat.beq (cellsL y).length n && (cellsL y).all cellOk) with
      | false => rw [hc] at h; simp at h
      | true =>
        rw [hc] at h
        simp only [cond_true] at h
        split at h
        · rename_i C' hp
          have := Rc.of_inv h; subst this
          have hb := hh b (by simp)
          simp only [hb, hl, hs, hc, cond_true, hp, Rc.of]
        · simp at h
    · rename_i k xs ty n hl hs
      split at h
      · rename_i k' v'
        cases hc : (kbeq k k' && Nat.beq n 1) with
        | false => rw [hc] at h; simp at h
        | true =>
          rw [hc] at h
          simp only [cond_true, Option.some.injEq] at h
          subst h
          have hb := hh b (by simp)
          simp only [hb, hl, hs, hc, cond_true]
      · simp at h
    · simp at h
  · simp at h
theorem effOp_H {P : Program} {nm : Nat} {o : Oper} {T : List Value} {H H' : Heap} {rc : Rc} (h : effOp P nm o T H = some rc) (hh : ∀ n ∈ rc.r.rs, look H' n = look H n) : effOp P nm o T H' = some rc := by
  unfold effOp at h ⊢
  cases hall : o.op.operands.toList.all evOk with
  | false => rw [hall] at h; simp at h
  | true =>
    rw [hall] at h
    simp only [cond_true] at h ⊢
    split at h
    all_goals rename_i ho
    any_goals exact h
    · exact effLoad_H h hh
    · exact effStore_H h hh
theorem getB_H {H H' : Heap} : ∀ {ns : List Nat}, (∀ n ∈ ns, look H' n = look H n) → getB H' ns = getB H ns
  | [], _ => rfl
  | n :: r, h => by simp only [getB, h n (by simp), getB_H (ns := r) (fun m hm => h m (by simp [hm]))]
theorem callRc_rs {nm : Nat} {s : HSpec} {vs : List Value} {H : Heap} {rc : Rc} (h : callRc nm s vs H = some rc) : rc.r.rs = dedup (vs.filterMap ptrN) := by
  unfold callRc at h
  cases h1 : vs.all argOk with
  | false => rw [h1] at h; simp at h
  | true =>
    rw [h1] at h
    simp only [cond_true] at h
    split at h
    · rename_i bl hb
      cases h2 : bl.all Blk.clo with
      | false => rw [h2] at h; simp at h
      | true =>
        rw [h2] at h
        simp only [cond_true] at h
        split at h
        · rename_i n v bl' hs
          cases h3 : (clo 8 v && sameTy bl bl' && bl'.all Blk.clo) with
          | false =>
            rw [h3] at h
            simp only [cond_false] at h
            cases h4 : (okN bl'.length 8 v && sameTyP bl bl' && bl'.all Blk.clo && Nat.ble bl'.length (bl.length + 16)) with
            | false => rw [h4] at h; simp at h
            | true =>
              rw [h4] at h
              simp only [cond_true, Option.some.injEq] at h
              subst h; rfl
          | true =>
            rw [h3] at h
            simp only [cond_true, Option.some.injEq] at h
            subst h; rfl
        · simp at h
    · simp at h
theorem effAll_H {P : Program} {E : Env} {nm : Nat} {o : Oper} {T : List Value} {H H' : Heap} {rc : Rc} (h : effAll P E nm o T H = some rc) (hh : ∀ n ∈ rc.r.rs, look H' n = look H n) : effAll P E nm o T H' = some rc := by
  unfold effAll at h ⊢
  split at h
  · rename_i c ho
    split at h
    · rename_i x hc
      split at h
      · rename_i f first cap hv
        split at h
        · rename_i s hs
          cases hx : (evOk x && c.args.toList.all evOk) with
          | false => rw [hx] at h; simp at h
          | true =>
            rw [hx] at h
            simp only [cond_true] at h ⊢
            have hrs := callRc_rs h
            rw [hrs] at hh
            unfold callRc at h ⊢
            rw [getB_H hh]
            exact h
        · simp at h
      · simp at h
    · exact effC_H (fun _ h1 h2 => effOp_H h1 h2) h hh
  · exact effC_H (fun _ h1 h2 => effOp_H h1 h2) h hh

/-! ### one operation, its guard included -/
def skipR : Rec := ⟨undef, [], []⟩
def one (P : Program) (E : Env) (all : List Oper) (nm : Nat) (o : Oper) (T : List Value) (H : Heap) : Option Rec :=
  match o.guard with
  | none => (match effAll P E nm o T H with | some rc => bif rc.need then some rc.r else none | none => none)
  | some (j, want) =>
    match gdst all j with
    | some d =>
      (match nth T d with
      | .bool b => bif b == want then (match effAll P E nm o T H with | some rc => bif rc.need then some rc.r else none | none => none) else some skipR
      | _ => some skipR)
    | none => none
/-- The temporaries that it looks at. -/
def looks (all : List Oper) (o : Oper) : List Nat :=
  (o.op.operands.toList.filterMap fun x => match x with | .tmp t => some t | _ => none) ++ (match o.guard with | some (j, _) => (match gdst all j with | some d => [d] | none => []) | none => [])
theorem ev_looks {all : List Oper} {o : Oper} {T T' : List Value} (h : ∀ t ∈ looks all o, nth T' t = nth T t) : ∀ x ∈ o.op.operands.toList, ev T' x = ev T x := by
  intro x hx
  cases x with
  | tmp t => exact h t (List.mem_append_left _ (List.mem_filterMap.2 ⟨.tmp t, hx, rfl⟩))
  | _ => rfl
theorem one_frame {P : Program} {E : Env} {all : List Oper} {nm : Nat} {o : Oper} {T T' : List Value} {H H' : Heap} {r : Rec} (h : one P E all nm o T H = some r) (ht : ∀ t ∈ looks all o, nth T' t = nth T t) (hh : ∀ n ∈ r.rs, look H' n = look H n) :
    one P E all nm o T' H' = some r := by
  have key : (match effAll P E nm o T H with | some rc => bif rc.need then some rc.r else none | none => none) = some r → (match effAll P E nm o T' H' with | some rc => bif rc.need then some rc.r else none | none => none) = some r := by
    intro h
    split at h
    · rename_i rc hrc
      cases hn : rc.need with
      | false => rw [hn] at h; simp at h
      | true =>
        rw [hn] at h
        simp only [cond_true, Option.some.injEq] at h
        subst h
        have := effAll_H (H' := H') hrc hh
        rw [← effAll_T (T' := T') (ev_looks ht)] at this
        rw [this]
        simp [hn]
    · simp at h
  unfold one at h ⊢
  split at h
  · exact key h
  · rename_i j want hg
    split at h
    · rename_i d hd
      have hd' : nth T' d = nth T d := ht d (List.mem_append_right _ (by simp [hg, hd]))
      simp only [hd']
      split at h
      · rename_i b hb
        cases hw : (b == want) with
        | false => rw [hw] at h; simpa using h
        | true => rw [hw] at h; exact key h
      · exact h
    · simp at h

/-! ### runs, and two operations that do not meet -/
structure En where
  i : Nat
  o : Oper
  r : Rec
def heq (H H' : Heap) : Prop := ∀ n, look H n = look H' n
def Run (P : Program) (E : Env) (all : List Oper) (base : Nat) : List En → List Value → Heap → List Value → Heap → Prop
  | [], T, H, T', H' => T = T' ∧ heq H H'
  | e :: l, T, H, T', H' => one P E all (base + 16 * e.i) e.o T H = some e.r ∧ Run P E all base l (putT T e.o.dst e.r.v) (app e.r.ws H) T' H'
theorem look_app_congr {H H' : Heap} (h : heq H H') : ∀ (ws : List (Nat × Blk)) , heq (app ws H) (app ws H') := by
  intro ws
  induction ws generalizing H H' with
  | nil => exact h
  | cons x r ih =>
    refine ih (H := upd H x.1 x.2) (H' := upd H' x.1 x.2) fun n => ?_
    rw [look_upd, look_upd, h n]
theorem Run.congr {P : Program} {E : Env} {all : List Oper} {base : Nat} : ∀ {l : List En} {T : List Value} {H H2 : Heap} {T' : List Value} {H' : Heap}, Run P E all base l T H T' H' → heq H H2 → Run P E all base l T H2 T' H'
  | [], T, H, H2, T', H', h, e => ⟨h.1, fun n => (e n).symm.trans (h.2 n)⟩
  | x :: l, T, H, H2, T', H', h, e => ⟨one_frame h.1 (fun _ _ => rfl) (fun n _ => (e n).symm), Run.congr h.2 (look_app_congr e x.r.ws)⟩

structure Indep (all : List Oper) (a b : En) : Prop where
  ab : ∀ d, a.o.dst = some d → d ∉ looks all b.o
  ba : ∀ d, b.o.dst = some d → d ∉ looks all a.o
  dd : ∀ d, a.o.dst = some d → b.o.dst ≠ some d
  wr : ∀ x ∈ a.r.ws, x.1 ∉ b.r.rs
  rw' : ∀ x ∈ b.r.ws, x.1 ∉ a.r.rs
  ww : ∀ x ∈ a.r.ws, ∀ y ∈ b.r.ws, x.1 ≠ y.1
theorem nth_putT {T : List Value} {d : Option Nat} {v : Value} {t : Nat} (h : d ≠ some t) : nth (putT T d v) t = nth T t := by
  cases d with
  | none => rfl
  | some n =>
    have hn : n ≠ t := fun e => h (by rw [e])
    rw [nth_getD, nth_getD]
    simp only [putT, setn_set, List.getD_eq_getElem?_getD]
    rw [List.getElem?_set_ne hn]
theorem putT_comm {T : List Value} {d e : Option Nat} {v u : Value} (h : ∀ n, d = some n → e ≠ some n) : putT (putT T d v) e u = putT (putT T e u) d v := by
  cases d with
  | none => rfl
  | some n =>
    cases e with
    | none => rfl
    | some m =>
      have hn : n ≠ m := fun e => h n rfl (by rw [e])
      simp only [putT, setn_set]
      exact List.set_comm _ _ hn
theorem look_app_other {ws : List (Nat × Blk)} {H : Heap} {n : Nat} (h : ∀ x ∈ ws, x.1 ≠ n) : look (app ws H) n = look H n := look_app ws H fun b hb => h (n, b) hb rfl
theorem app_comm {ws us : List (Nat × Blk)} {H : Heap} (h : ∀ x ∈ ws, ∀ y ∈ us, x.1 ≠ y.1) : heq (app us (app ws H)) (app ws (app us H)) := by
  have last : ∀ (ws : List (Nat × Blk)) (H H' : Heap) (n : Nat), (∃ x ∈ ws, x.1 = n) → look (app ws H) n = look (app ws H') n := by
    intro ws
    induction ws with
    | nil => rintro H H' n ⟨x, hx, _⟩; cases hx
    | cons y r ih =>
      rintro H H' n ⟨x, hx, rfl⟩
      show look (app r (upd H y.1 y.2)) _ = look (app r (upd H' y.1 y.2)) _
      by_cases hr : ∃ z ∈ r, z.1 = x.1
      · exact ih _ _ _ hr
      · have hr' : ∀ z ∈ r, z.1 ≠ x.1 := fun z hz e => hr ⟨z, hz, e⟩
        rw [look_app_other hr', look_app_other hr', look_upd, look_upd]
        cases hx with
        | head => simp
        | tail _ hx => exact absurd rfl (hr' x hx)
  intro n
  by_cases h1 : ∃ x ∈ ws, x.1 = n
  · have h2 : ∀ y ∈ us, y.1 ≠ n := fun y hy e => by
      obtain ⟨x, hx, rfl⟩ := h1
      exact h x hx y hy e.symm
    rw [look_app_other h2]
    exact last ws _ _ n h1
  · have h1' : ∀ x ∈ ws, x.1 ≠ n := fun x hx e => h1 ⟨x, hx, e⟩
    rw [look_app_other (ws := ws) h1']
    by_cases h2 : ∃ y ∈ us, y.1 = n
    · exact last us _ _ n h2
    · have h2' : ∀ y ∈ us, y.1 ≠ n := fun y hy e => h2 ⟨y, hy, e⟩
      rw [look_app_other h2', look_app_other h2', look_app_other h1']

/-- What may come up first may be taken first. -/
theorem Run.front {P : Program} {E : Env} {all : List Oper} {base : Nat} {x : En} {post : List En} : ∀ (pre : List En) {T : List Value} {H : Heap} {T' : List Value} {H' : Heap}, Run P E all base (pre ++ x :: post) T H T' H' → (∀ y ∈ pre, Indep all y x) →
    one P E all (base + 16 * x.i) x.o T H = some x.r ∧ Run P E all base (pre ++ post) (putT T x.o.dst x.r.v) (app x.r.ws H) T' H'
  | [], T, H, T', H', h, _ => h
  | y :: pre, T, H, T', H', h, hi => by
    obtain ⟨h1, h2⟩ := h
    obtain ⟨h3, h4⟩ := Run.front pre h2 (fun z hz => hi z (by simp [hz]))
    have ind := hi y (by simp)
    have hx : one P E all (base + 16 * x.i) x.o T H = some x.r :=
      one_frame h3 (fun t ht => (nth_putT fun e => ind.ab t e ht).symm) (fun n hn => (look_app_other fun z hz e => ind.wr z hz (e ▸ hn)).symm)
    refine ⟨hx, ?_, ?_⟩
    · exact one_frame h1 (fun t ht => nth_putT fun e => ind.ba t e ht) (fun n hn => look_app_other fun z hz e => ind.rw' z hz (e ▸ hn))
    · rw [putT_comm (fun n hn e => ind.dd n e hn)]
      exact Run.congr h4 (app_comm ind.ww)

/-! ### the check -/
/-- All names in the value meet p (looked at down to a depth). -/
def okV (p : Nat → Bool) : Nat → Value → Bool
  | 0, _ => false
  | n + 1, v =>
    match v with
    | .bool _ | .int _ _ | .float _ _ | .complex _ _ _ | .string _ | .nilFunc | .nilIface => true
    | .pointer none => true
    | .pointer (some a) => p a.block
    | .slice none _ _ => true
    | .slice (some a) _ _ => p a.block
    | .agg ⟨cs⟩ => cs.all (okV p n)
    | .tuple ⟨cs⟩ => cs.all (okV p n)
    | .func _ ⟨f⟩ ⟨c⟩ => f.all (okV p n) && c.all (okV p n)
    | .iface _ v => okV p n v
    | _ => false
theorem okV_spec {p : Nat → Bool} {g g' : Nat → Nat} (hp : ∀ n, p n = true → g n = g' n) : ∀ (n : Nat) (v : Value), okV p n v = true → ren g v = ren g' v := by
  intro n
  induction n with
  | zero => intro v h; simp [okV] at h
  | succ n ih =>
    have hl : ∀ l : List Value, l.all (okV p n) = true → l.map (ren g) = l.map (ren g') := fun l h => by
      rw [List.all_eq_true] at h
      exact List.map_congr_left fun v hv => ih v (h v hv)
    intro v h
    unfold okV at h
    split at h
    any_goals simp [ren]
    · rename_i ad
      obtain ⟨b', o', _ | s'⟩ := ad
      · simp [hp _ h]
      · simp
    · rename_i ad _ _
      obtain ⟨b', o', _ | s'⟩ := ad
      · simp [hp _ h]
      · simp
    any_goals rw [renL_map, renL_map]
    any_goals exact hl _ h
    · simp only [Bool.and_eq_true] at h
      rw [renL_map, renL_map]
      exact ⟨hl _ h.1, hl _ h.2⟩
    · exact ih _ h
    · simp at h
def okB (p : Nat → Bool) : Blk → Bool
  | .cs l _ => l.all (okV p 8)
  | .is _ _ _ => true
theorem okB_spec {p : Nat → Bool} {b : Blk} (h : okB p b = true) {g g' : Nat → Nat} (hp : ∀ n, p n = true → g n = g' n) : ∀ c ∈ b.cells, ren g c = ren g' c := by
  cases b with
  | cs l t =>
    simp only [okB, List.all_eq_true] at h
    exact fun c hc => okV_spec hp 8 c (h c hc)
  | is k xs t =>
    intro c hc
    obtain ⟨n, _, rfl⟩ := List.mem_map.1 hc
    simp
def bindsA (e : Edge) : Bool :=
  match e.ground with
  | .textOnly _ => false
  | .gcOnly _ => false
  | _ => true
theorem bindsA_eq (e : Edge) : bindsA e = Region.binds .any e := by
  unfold bindsA Region.binds
  cases e.ground <;> rfl
/-- For each operation: what must have come up before it (a number's bits). -/
def maskOf (acc : List Nat) : List Edge → Nat
  | [] => 0
  | e :: r => bif bindsA e then (1 <<< e.on) ||| acc.getD e.on 0 ||| maskOf acc r else maskOf acc r
def masks : List Oper → List Nat → List Nat
  | [], acc => acc
  | o :: r, acc => masks r (acc ++ [maskOf acc o.after.toList])
theorem maskOf_bit {acc : List Nat} {j : Nat} : ∀ {l : List Edge}, (maskOf acc l).testBit j = true → ∃ e ∈ l, bindsA e = true ∧ (e.on = j ∨ (acc.getD e.on 0).testBit j = true)
  | [], h => by simp [maskOf] at h
  | e :: r, h => by
    simp only [maskOf] at h
    cases hb : bindsA e with
    | false =>
      rw [hb] at h
      obtain ⟨e', h1, h2⟩ := maskOf_bit (l := r) h
      exact ⟨e', by simp [h1], h2⟩
    | true =>
      rw [hb] at h
      simp only [cond_true, Nat.testBit_or, Bool.or_eq_true] at h
      rcases h with (h | h) | h
      · refine ⟨e, by simp, hb, .inl ?_⟩
        rw [Nat.one_shiftLeft] at h
        simpa [Nat.testBit_two_pow] using h
      · exact ⟨e, by simp, hb, .inr h⟩
      · obtain ⟨e', h1, h2⟩ := maskOf_bit (l := r) h
        exact ⟨e', by simp [h1], h2⟩
theorem masks_prefix : ∀ (l : List Oper) (acc : List Nat), ∃ t, masks l acc = acc ++ t ∧ t.length = l.length
  | [], acc => ⟨[], by simp [masks], rfl⟩
  | o :: r, acc => by
    obtain ⟨t, h1, h2⟩ := masks_prefix r (acc ++ [maskOf acc o.after.toList])
    exact ⟨maskOf acc o.after.toList :: t, by simp [masks, h1], by simp [h2]⟩
theorem masks_spec : ∀ (l : List Oper) (acc : List Nat) (i : Nat) (o : Oper), l[i]? = some o → ∃ acc', (masks l acc).getD (acc.length + i) 0 = maskOf acc' o.after.toList ∧ ∀ e, (acc'.getD e 0) = 0 ∨ acc'.getD e 0 = (masks l acc).getD e 0
  | [], acc, i, o, h => by simp at h
  | o' :: r, acc, i, o, h => by
    cases i with
    | zero =>
      simp only [List.getElem?_cons_zero, Option.some.injEq] at h
      subst h
      obtain ⟨t, h1, _⟩ := masks_prefix r (acc ++ [maskOf acc o'.after.toList])
      refine ⟨acc, ?_, fun e => ?_⟩
      · simp only [masks, h1, Nat.add_zero, List.append_assoc, List.getD_eq_getElem?_getD]
        rw [List.getElem?_append_right (by omega)]
        simp
      · simp only [masks, h1, List.getD_eq_getElem?_getD, List.append_assoc]
        by_cases he : e < acc.length
        · right
          rw [List.getElem?_append_left he]
        · left
          rw [List.getElem?_eq_none (by omega)]
          rfl
    | succ i =>
      obtain ⟨acc', h1, h2⟩ := masks_spec r (acc ++ [maskOf acc o'.after.toList]) i o (by simpa using h)
      refine ⟨acc', ?_, h2⟩
      rw [← h1]
      simp only [masks, List.length_append, List.length_cons, List.length_nil, Nat.zero_add]
      congr 1
      omega

/-- May the operation with these ancestors meet this name? -/
def okName (base mask i n : Nat) : Bool := Nat.blt n base || Nat.beq ((n - base) / 16) i || mask.testBit ((n - base) / 16)
def okRec (base mask : Nat) (e : En) : Bool :=
  okV (okName base mask e.i) 8 e.r.v && e.r.ws.all (fun x => okName base mask e.i x.1 && okB (okName base mask e.i) x.2) && e.o.after.toList.all (fun d => !(bindsA d) || Nat.blt d.on e.i)
def disj (l m : List Nat) : Bool := l.all fun n => !(memN n m)
def okPair (all : List Oper) (a b : En) : Bool :=
  (match a.o.dst with | some d => !(memN d (looks all b.o)) && (match b.o.dst with | some d' => !(Nat.beq d d') | none => true) | none => true) &&
  (match b.o.dst with | some d => !(memN d (looks all a.o)) | none => true) &&
  (match a.r.ws, b.r.ws with
   | [], [] => true
   | _, _ => disj (a.r.ws.map (·.1)) b.r.rs && disj (b.r.ws.map (·.1)) a.r.rs && disj (a.r.ws.map (·.1)) (b.r.ws.map (·.1)))
/-- e against all that came up before it in the text (newest first) and need not. -/
def okAgainst (all : List Oper) (mask : Nat) (e : En) : List En → Bool
  | [] => true
  | y :: r => (mask.testBit y.i || okPair all y e) && okAgainst all mask e r
def okAll (all : List Oper) (base : Nat) (ms : List Nat) : List En → List En → Bool
  | _, [] => true
  | done, e :: r => okRec base (ms.getD e.i 0) e && okAgainst all (ms.getD e.i 0) e done && okAll all base ms (e :: done) r

section
variable (P : Program) (E : Env) {R : Type}
/-- The text's order, with what each operation came to. -/
def runK (all : List Oper) (base : Nat) : List Oper → Nat → List Value → Heap → List En → (List Value → Heap → List En → Option R) → Option R
  | [], _, T, H, L, k => k T H L
  | o :: r, i, T, H, L, k =>
    match o.guard with
    | none =>
      (match effAll P E (base + 16 * i) o T H with
      | some ⟨need, rr⟩ => bif need then fRm E rr fun r' => fT (putT T o.dst r'.v) fun T' => fH (app r'.ws H) fun H' => fN (i + 1) fun i' => runK all base r i' T' H' (⟨i, o, r'⟩ :: L) k else none
      | none => none)
    | some (j, want) =>
      match gdst all j with
      | some d =>
        (match nth T d with
        | .bool b =>
          bif b then
            bif want then
              (match effAll P E (base + 16 * i) o (setn T d (.bool true)) H with
              | some ⟨need, rr⟩ => bif need then fRm E rr fun r' => fT (putT (setn T d (.bool true)) o.dst r'.v) fun T' => fH (app r'.ws H) fun H' => fN (i + 1) fun i' => runK all base r i' T' H' (⟨i, o, r'⟩ :: L) k else none
              | none => none)
            else (fT (putT (setn T d (.bool true)) o.dst undef) fun T' => fN (i + 1) fun i' => runK all base r i' T' H (⟨i, o, skipR⟩ :: L) k)
          else
            bif want then (fT (putT (setn T d (.bool false)) o.dst undef) fun T' => fN (i + 1) fun i' => runK all base r i' T' H (⟨i, o, skipR⟩ :: L) k)
            else
              (match effAll P E (base + 16 * i) o (setn T d (.bool false)) H with
              | some ⟨need, rr⟩ => bif need then fRm E rr fun r' => fT (putT (setn T d (.bool false)) o.dst r'.v) fun T' => fH (app r'.ws H) fun H' => fN (i + 1) fun i' => runK all base r i' T' H' (⟨i, o, r'⟩ :: L) k else none
              | none => none)
        | _ => fT (putT T o.dst undef) fun T' => fN (i + 1) fun i' => runK all base r i' T' H (⟨i, o, skipR⟩ :: L) k)
      | none => none
def revE : List En → List En → List En
  | [], a => a
  | e :: r, a => revE r (e :: a)
def drawK (ops : List Oper) (S : St) (k : St → Option R) : Option R :=
  runK P E ops S.nxt ops 0 S.tmps S.heap [] fun T H L =>
    bif okAll ops S.nxt (masks ops []) [] (revE L []) then fN (S.nxt + 16 * ops.length) fun n => k ⟨T, H, n⟩ else none
end
theorem revE_eq : ∀ (l a : List En), revE l a = l.reverse ++ a
  | [], a => by simp [revE]
  | e :: r, a => by simp [revE, revE_eq r (e :: a)]

theorem runK_spec {P : Program} {E : Env} {R : Type} {all : List Oper} {base : Nat} {k : List Value → Heap → List En → Option R} {r : R} : ∀ (ops : List Oper) (i : Nat) (T : List Value) (H : Heap) (L : List En), runK P E all base ops i T H L k = some r →
    ∃ (T' : List Value) (H' : Heap) (M : List En), k T' H' (M.reverse ++ L) = some r ∧ Run P E all base M T H T' H' ∧ M.map (·.o) = ops ∧ M.map (·.i) = List.range' i ops.length
  | [], i, T, H, L, h => ⟨T, H, [], h, ⟨rfl, fun _ => rfl⟩, rfl, rfl⟩
  | o :: ops, i, T, H, L, h => by
    have step : ∀ (rec : Rec), one P E all (base + 16 * i) o T H = some rec → runK P E all base ops (i + 1) (putT T o.dst rec.v) (app rec.ws H) (⟨i, o, rec⟩ :: L) k = some r →
        ∃ (T' : List Value) (H' : Heap) (M : List En), k T' H' (M.reverse ++ L) = some r ∧ Run P E all base M T H T' H' ∧ M.map (·.o) = o :: ops ∧ M.map (·.i) = List.range' i (o :: ops).length := by
      intro rec h1 h2
      obtain ⟨T', H', M, h3, h4, h5, h6⟩ := runK_spec ops (i + 1) _ _ _ h2
      refine ⟨T', H', ⟨i, o, rec⟩ :: M, ?_, ⟨h1, h4⟩, by simp [h5], ?_⟩
      · simpa using h3
      · simp [h6, List.range'_succ]
    unfold runK at h
    simp only [fRm_eq, fT_eq, fH_eq, fN_eq] at h
    split at h
    · rename_i hg
      split at h
      · rename_i need rr hrc
        cases hn : need with
        | false => rw [hn] at h; simp at h
        | true =>
          rw [hn] at h
          exact step rr (by simp [one, hg, hrc, hn]) h
      · simp at h
    · rename_i j want hg
      split at h
      · rename_i d hd
        split at h
        · rename_i b hb
          cases b with
          | true =>
            rw [setn_same hb] at h
            cases want with
            | true =>
              simp only [cond_true] at h
              split at h
              · rename_i need rr hrc
                cases hn : need with
                | false => rw [hn] at h; simp at h
                | true =>
                  rw [hn] at h
                  exact step rr (by simp [one, hg, hd, hb, hrc, hn]) h
              · simp at h
            | false => exact step skipR (by simp [one, hg, hd, hb]) h
          | false =>
            rw [setn_same hb] at h
            cases want with
            | true => exact step skipR (by simp [one, hg, hd, hb]) h
            | false =>
              simp only [cond_false] at h
              split at h
              · rename_i need rr hrc
                cases hn : need with
                | false => rw [hn] at h; simp at h
                | true =>
                  rw [hn] at h
                  exact step rr (by simp [one, hg, hd, hb, hrc, hn]) h
              · simp at h
        · rename_i hnb
          refine step skipR ?_ h
          simp only [one, hg, hd]
      · simp at h

/-! ### soundness -/
structure Inv (P : Program) (E : Env) (all : List Oper) (base : Nat) (ms : List Nat) (listed : Array Bool) (L : List En) : Prop where
  size : listed.size = all.length
  sorted : L.Pairwise fun a b => a.i < b.i
  mem : ∀ e ∈ L, all[e.i]? = some e.o ∧ listed.getD e.i true = false
  full : ∀ i, i < all.length → listed.getD i true = false → ∃ e ∈ L, e.i = i
  down : ∀ i, i < all.length → listed.getD i true = true → ∀ j, (ms.getD i 0).testBit j = true → listed.getD j false = true

theorem indep_of {all : List Oper} {a b : En} (h : okPair all a b = true) : Indep all a b := by
  unfold okPair at h
  simp only [Bool.and_eq_true] at h
  obtain ⟨⟨h1, h2⟩, h3⟩ := h
  have n1 : ∀ d l, (!(memN d l)) = true → d ∉ l := fun d l h hm => by
    rw [memN_spec.2 hm] at h; cases h
  have nd : ∀ l m : List Nat, disj l m = true → ∀ n ∈ l, n ∉ m := fun l m h n hn => n1 _ _ (by
    simp only [disj, List.all_eq_true] at h; exact h n hn)
  have ws : (∀ x ∈ a.r.ws, x.1 ∉ b.r.rs) ∧ (∀ x ∈ b.r.ws, x.1 ∉ a.r.rs) ∧ (∀ x ∈ a.r.ws, ∀ y ∈ b.r.ws, x.1 ≠ y.1) := by
    split at h3
    · rename_i e1 e2
      simp [e1, e2]
    · simp only [Bool.and_eq_true] at h3
      obtain ⟨⟨k1, k2⟩, k3⟩ := h3
      refine ⟨fun x hx => nd _ _ k1 x.1 (List.mem_map.2 ⟨x, hx, rfl⟩), fun x hx => nd _ _ k2 x.1 (List.mem_map.2 ⟨x, hx, rfl⟩), fun x hx y hy e => nd _ _ k3 x.1 (List.mem_map.2 ⟨x, hx, rfl⟩) (List.mem_map.2 ⟨y, hy, e.symm⟩)⟩
  refine ⟨fun d hd => ?_, fun d hd => ?_, fun d hd e => ?_, ws.1, ws.2.1, ws.2.2⟩
  · simp only [hd, Bool.and_eq_true] at h1
    exact n1 _ _ h1.1
  · simp only [hd] at h2
    exact n1 _ _ h2
  · simp only [hd, e, Bool.and_eq_true] at h1
    simp at h1
theorem okAgainst_spec {all : List Oper} {mask : Nat} {e : En} : ∀ {l : List En}, okAgainst all mask e l = true → ∀ y ∈ l, mask.testBit y.i = true ∨ okPair all y e = true
  | [], _, y, hy => by cases hy
  | x :: r, h, y, hy => by
    simp only [okAgainst, Bool.and_eq_true, Bool.or_eq_true] at h
    cases hy with
    | head => exact h.1
    | tail _ hy => exact okAgainst_spec h.2 y hy
structure Checked (all : List Oper) (base : Nat) (ms : List Nat) (L : List En) : Prop where
  rec_ : ∀ e ∈ L, okRec base (ms.getD e.i 0) e = true
  pair : L.Pairwise fun y e => (ms.getD e.i 0).testBit y.i = true ∨ okPair all y e = true
theorem okAll_spec {all : List Oper} {base : Nat} {ms : List Nat} : ∀ {l done : List En}, okAll all base ms done l = true → Checked all base ms l ∧ ∀ e ∈ l, ∀ y ∈ done, (ms.getD e.i 0).testBit y.i = true ∨ okPair all y e = true
  | [], done, _ => ⟨⟨by simp, by simp⟩, by simp⟩
  | e :: r, done, h => by
    simp only [okAll, Bool.and_eq_true] at h
    obtain ⟨⟨h1, h2⟩, h3⟩ := h
    obtain ⟨⟨k1, k2⟩, k3⟩ := okAll_spec h3
    refine ⟨⟨fun x hx => ?_, ?_⟩, fun x hx y hy => ?_⟩
    · cases hx with
      | head => exact h1
      | tail _ hx => exact k1 x hx
    · exact List.pairwise_cons.2 ⟨fun x hx => k3 x hx e (by simp), k2⟩
    · cases hx with
      | head => exact okAgainst_spec h2 y hy
      | tail _ hx => exact k3 x hx y (by simp [hy])
theorem Checked.sub {all : List Oper} {base : Nat} {ms : List Nat} {pre post : List En} {x : En} (h : Checked all base ms (pre ++ x :: post)) : Checked all base ms (pre ++ post) := by
  refine ⟨fun e he => h.rec_ e ?_, h.pair.sublist ?_⟩
  · simp only [List.mem_append, List.mem_cons] at he ⊢
    rcases he with he | he
    · exact .inl he
    · exact .inr (.inr he)
  · exact List.Sublist.append (List.Sublist.refl _) (List.sublist_cons_self _ _)

theorem okName_ne {base mask i m n : Nat} (h : okName base mask i n = true) (hm : m ≠ i) (hb : mask.testBit m = false) : n < base + 16 * m ∨ base + 16 * m + 16 ≤ n := by
  simp only [okName, Bool.or_eq_true] at h
  rcases h with (h | h) | h
  · have : n < base := by simpa [Nat.blt_eq] using h
    omega
  · have := Nat.eq_of_beq_eq_true h
    rcases Nat.lt_or_ge n (base + 16 * m) with h1 | h1
    · exact .inl h1
    · right
      rcases Nat.lt_or_ge n (base + 16 * m + 16) with h2 | h2
      · exfalso
        have : (n - base) / 16 = m := by omega
        omega
      · exact h2
  · rcases Nat.lt_or_ge n (base + 16 * m) with h1 | h1
    · exact .inl h1
    · right
      rcases Nat.lt_or_ge n (base + 16 * m + 16) with h2 | h2
      · exfalso
        have e : (n - base) / 16 = m := by omega
        rw [e, hb] at h
        cases h
      · exact h2

/-- What the operations that are still to come may take for new names is met nowhere. -/
def FreshL (base : Nat) (L : List En) (T : List Value) (H : Heap) : Prop := ∀ e ∈ L, Fresh (base + 16 * e.i) T H
theorem fresh_step {base mask : Nat} {x : En} {T : List Value} {H : Heap} {m : Nat} (h : okRec base mask x = true) (hm : m ≠ x.i) (hb : mask.testBit m = false) (fr : Fresh (base + 16 * m) T H) : Fresh (base + 16 * m) (putT T x.o.dst x.r.v) (app x.r.ws H) := by
  simp only [okRec, Bool.and_eq_true, List.all_eq_true] at h
  obtain ⟨⟨hv, hw⟩, _⟩ := h
  have frv : Fr (base + 16 * m) x.r.v := fun g g' e => okV_spec (fun n hn => e n (okName_ne hn hm hb)) 8 _ hv
  refine ⟨fun v hv' => ?_, fun n b hl => ?_⟩
  · cases hd : x.o.dst with
    | none => rw [hd] at hv'; exact fr.t v hv'
    | some d =>
      rw [hd] at hv'
      simp only [putT, setn_set] at hv'
      rcases List.mem_or_eq_of_mem_set hv' with h1 | rfl
      · exact fr.t v h1
      · exact frv
  · by_cases hin : ∃ y ∈ x.r.ws, y.1 = n
    · have key : ∀ (ws : List (Nat × Blk)) (H : Heap), (∃ y ∈ ws, y.1 = n) → look (app ws H) n = some b → (n, b) ∈ ws := by
        intro ws
        induction ws with
        | nil => rintro H ⟨y, hy, _⟩; cases hy
        | cons z r ih =>
          rintro H ⟨y, hy, rfl⟩ hl
          by_cases hr : ∃ z ∈ r, z.1 = y.1
          · exact List.mem_cons_of_mem _ (ih _ hr hl)
          · have hr' : ∀ z ∈ r, z.1 ≠ y.1 := fun z hz e => hr ⟨z, hz, e⟩
            have hl' : look (upd H z.1 z.2) y.1 = some b := by rw [← look_app_other hr']; exact hl
            cases hy with
            | head =>
              rw [look_upd, if_pos rfl] at hl'
              injection hl' with hl'
              subst hl'
              exact List.mem_cons_self
            | tail _ hy => exact absurd rfl (hr' y hy)
      have hm' := key _ _ hin hl
      have := hw (n, b) hm'
      exact ⟨okName_ne this.1 hm hb, fun c hc g g' e => okB_spec this.2 (fun n hn => e n (okName_ne hn hm hb)) c hc⟩
    · have hne : ∀ y ∈ x.r.ws, y.1 ≠ n := fun y hy e => hin ⟨y, hy, e⟩
      rw [look_app_other hne] at hl
      exact fr.h n b hl

theorem getD_set {l : Array Bool} {i j : Nat} {d : Bool} (hi : i < l.size) : (l.setIfInBounds i true).getD j d = if j = i then true else l.getD j d := by
  simp only [Array.getD_eq_getD_getElem?, Array.getElem?_setIfInBounds]
  by_cases h : i = j
  · subst h; simp [hi]
  · have : j ≠ i := fun e => h e.symm
    simp [h, this]

theorem draw_sound {P : Program} {E : Env} (hE : ∀ f s, look E.spec f = some s → SOK P f s) {all : List Oper} {base : Nat} {ms : List Nat} (hms : ms = masks all []) {Q : Exit → Act → World → Prop} {W0 : World} {out : Nat → Prop} {g0 : Nat → Nat} {T' : List Value} {H' : Heap} (nx : Nat) (hnx : nx = base + 16 * all.length)
    (hk : ∀ (g' : Nat → Nat) (H2 : Heap) (a' : Act) (w' : World), (∀ n, n < base → g' n = g0 n) → heq H2 H' → TRel g' T' nx a' → HRel W0 out g' H2 nx w' → Q .normal a' w') :
    ∀ (fuel : Nat) (listed : Array Bool) (L : List En) (T : List Value) (H : Heap) (g : Nat → Nat) (a : Act) (w : World), L.length = fuel → Inv P E all base ms listed L → Checked all base ms L → Run P E all base L T H T' H' → FreshL base L T H →
      (∀ n, n < base → g n = g0 n) → TRel g T nx a → HRel W0 out g H nx w → wpAny P .any all.toArray Q fuel listed a w := by
  intro fuel
  induction fuel with
  | zero =>
    intro listed L T H g a w hl inv _ run _ hg tr hr
    have : L = [] := List.length_eq_zero_iff.1 hl
    subst this
    obtain ⟨rfl, hh⟩ := run
    refine ⟨?_, hk g H a w hg hh tr hr⟩
    rw [Region.ready, List.filter_eq_nil_iff]
    intro i hi hc
    have hi' : i < all.length := by simpa using hi
    simp only [Bool.and_eq_true, Bool.not_eq_true'] at hc
    obtain ⟨e, he, _⟩ := inv.full i hi' hc.1
    cases he
  | succ fuel ih =>
    intro listed L T H g a w hl inv chk run fresh hg tr hr
    refine ⟨fun hnil => ?_, fun i hi => ?_⟩
    · exfalso
      match L, hl with
      | e :: r, _ =>
        have ⟨h1, h2⟩ := inv.mem e (by simp)
        have hmem : e.i ∈ Region.ready .any all.toArray listed := by
          rw [mem_ready]
          refine ⟨h2, e.o, by simpa using h1, fun d hd hb => ?_⟩
          have hok := chk.rec_ e (by simp)
          simp only [okRec, Bool.and_eq_true, List.all_eq_true] at hok
          have hlt := hok.2 d (by simpa using hd)
          rw [bindsA_eq, hb] at hlt
          have hlt' : d.on < e.i := by simpa [Nat.blt_eq] using hlt
          have hin : d.on < all.length := by
            have := (List.getElem?_eq_some_iff.1 h1).1
            omega
          cases hlis : listed.getD d.on true with
          | true =>
            have hs : d.on < listed.size := by rw [inv.size]; exact hin
            simp only [Array.getD_eq_getD_getElem?, Array.getElem?_eq_getElem hs, Option.getD_some] at hlis ⊢
            exact hlis
          | false =>
            exfalso
            obtain ⟨e', he', hei⟩ := inv.full d.on hin hlis
            cases he' with
            | head => omega
            | tail _ he' =>
              have := (List.pairwise_cons.1 inv.sorted).1 e' he'
              omega
        rw [hnil] at hmem
        cases hmem
    · obtain ⟨hun, o, ho, hready⟩ := mem_ready.1 hi
      have ho' : all[i]? = some o := by simpa using ho
      have hilt : i < all.length := (List.getElem?_eq_some_iff.1 ho').1
      obtain ⟨x, hx, hxi⟩ := inv.full i hilt hun
      subst hxi
      obtain ⟨pre, post, hL⟩ := List.append_of_mem hx
      subst hL
      have hox : o = x.o := by
        have := (inv.mem x hx).1
        rw [ho'] at this
        injection this
      subst hox
      have hsz : x.i < listed.size := by rw [inv.size]; exact hilt
      -- what is an ancestor has come up
      have anc : ∀ j, (ms.getD x.i 0).testBit j = true → listed.getD j false = true := by
        intro j hj
        obtain ⟨acc', h1, h2⟩ := masks_spec all [] x.i x.o ho'
        simp only [List.length_nil, Nat.zero_add] at h1
        rw [hms, h1] at hj
        obtain ⟨d, hd, hb, hor⟩ := maskOf_bit hj
        have hdl := hready d (by simpa using hd) (by rw [← bindsA_eq]; exact hb)
        rcases hor with rfl | hor
        · exact hdl
        · rcases h2 d.on with h0 | h0
          · rw [h0] at hor; simp at hor
          · rw [h0, ← hms] at hor
            have hdin : d.on < all.length := by
              rw [← inv.size]
              rcases Nat.lt_or_ge d.on listed.size with h' | h'
              · exact h'
              · simp [Array.getD_eq_getD_getElem?, Array.getElem?_eq_none h'] at hdl
            refine inv.down d.on hdin ?_ j hor
            have hs : d.on < listed.size := by rw [inv.size]; exact hdin
            simp only [Array.getD_eq_getD_getElem?, Array.getElem?_eq_getElem hs, Option.getD_some] at hdl ⊢
            exact hdl
      have notanc : ∀ e ∈ pre ++ x :: post, (ms.getD x.i 0).testBit e.i = false := by
        intro e he
        cases hb : (ms.getD x.i 0).testBit e.i with
        | false => rfl
        | true =>
          exfalso
          have h1 := anc e.i hb
          have h2 := (inv.mem e he).2
          have hin : e.i < listed.size := by
            rw [inv.size]; exact (List.getElem?_eq_some_iff.1 (inv.mem e he).1).1
          simp only [Array.getD_eq_getD_getElem?, Array.getElem?_eq_getElem hin, Option.getD_some] at h1 h2
          rw [h1] at h2
          cases h2
      have ind : ∀ y ∈ pre, Indep all y x := by
        intro y hy
        have := (List.pairwise_append.1 chk.pair).2.2 y hy x (by simp)
        rcases this with h1 | h1
        · rw [notanc y (by simp [hy])] at h1; cases h1
        · exact indep_of h1
      obtain ⟨hone, hrun⟩ := Run.front pre run ind
      have hlen : (pre ++ post).length = fuel := by
        simp only [List.length_append, List.length_cons] at hl ⊢
        omega
      have hne : ∀ e ∈ pre ++ post, e.i ≠ x.i := by
        have hp := inv.sorted
        rw [List.pairwise_append, List.pairwise_cons] at hp
        intro e he
        rcases List.mem_append.1 he with he | he
        · have := hp.2.2 e he x (by simp)
          omega
        · have := hp.2.1.1 e he
          omega
      have sub : ∀ e ∈ pre ++ post, e ∈ pre ++ x :: post := fun e he => by
        simp only [List.mem_append, List.mem_cons] at he ⊢
        rcases he with he | he
        · exact .inl he
        · exact .inr (.inr he)
      have inv' : Inv P E all base ms (listed.setIfInBounds x.i true) (pre ++ post) := by
        refine ⟨by simp [inv.size], inv.sorted.sublist (List.Sublist.append (List.Sublist.refl _) (List.sublist_cons_self _ _)), fun e he => ?_, fun j hj hl' => ?_, fun j hj hl' k hk' => ?_⟩
        · refine ⟨(inv.mem e (sub e he)).1, ?_⟩
          rw [getD_set hsz, if_neg (hne e he)]
          exact (inv.mem e (sub e he)).2
        · rw [getD_set hsz] at hl'
          by_cases hjx : j = x.i
          · rw [if_pos hjx] at hl'; cases hl'
          · rw [if_neg hjx] at hl'
            obtain ⟨e, he, hei⟩ := inv.full j hj hl'
            refine ⟨e, ?_, hei⟩
            simp only [List.mem_append, List.mem_cons] at he ⊢
            rcases he with he | rfl | he
            · exact .inl he
            · exact absurd hei.symm hjx
            · exact .inr he
        · rw [getD_set hsz] at hl'
          have h0 : listed.getD k false = true := by
            by_cases hjx : j = x.i
            · subst hjx; exact anc k hk'
            · rw [if_neg hjx] at hl'
              exact inv.down j hj hl' k hk'
          rw [getD_set hsz]
          split
          · rfl
          · exact h0
      have fresh' : FreshL base (pre ++ post) (putT T x.o.dst x.r.v) (app x.r.ws H) := fun e he =>
        fresh_step (chk.rec_ x hx) (hne e he) (notanc e (sub e he)) (fresh e (sub e he))
      have go : ∀ rc, effAll P E (base + 16 * x.i) x.o T H = some rc → rc.need = true → rc.r = x.r → x.o.wp P a w (wpAny P .any all.toArray Q fuel (listed.setIfInBounds x.i true)) Q := by
        intro rc hrc hneed hrr
        have := goes_all hE (nx := nx) (by rw [hnx]; omega) hrc hneed
        refine this.go W0 out g a w _ Q tr hr (fresh x hx) fun g' w' hg' tr' hr' hb => ?_
        rw [hrr] at hr' hb ⊢
        exact ih _ _ _ _ g' _ w' hlen inv' chk.sub hrun fresh' (fun n hn => by rw [← hg' n (.inl (by omega)), hg n hn]) (tr'.put x.o.dst hb rfl) hr'
      have skip : x.r = skipR → wpAny P .any all.toArray Q fuel (listed.setIfInBounds x.i true) (a.put x.o.dst undef) w := by
        intro hrr
        rw [hrr] at hrun fresh'
        exact ih _ _ _ _ g _ w hlen inv' chk.sub hrun fresh' hg (tr.put x.o.dst (Clo.undef.bnd _) (by simp [skipR])) hr
      unfold wpOp
      simp only [ho]
      have tail : (match effAll P E (base + 16 * x.i) x.o T H with | some rc => bif rc.need then some rc.r else none | none => none) = some x.r → x.o.wp P a w (wpAny P .any all.toArray Q fuel (listed.setIfInBounds x.i true)) Q := by
        intro h
        split at h
        · rename_i rc hrc
          cases hn : rc.need with
          | false => rw [hn] at h; simp at h
          | true =>
            rw [hn] at h
            simp only [cond_true, Option.some.injEq] at h
            exact go rc hrc hn h
        · simp at h
      unfold one at hone
      split at hone
      · rename_i hgd
        rw [if_pos (by simp [Region.wanted, hgd])]
        exact .inl (tail hone)
      · rename_i j want hgd
        split at hone
        · rename_i d hd
          split at hone
          · rename_i b hb
            have hy := yielded_of (all := all) tr hd hb
            have hw : Region.wanted x.o (yielded all.toArray a.tmps) = (some b == some want) := by simp [Region.wanted, hgd, hy]
            cases hbw : (b == want) with
            | true =>
              rw [hbw] at hone
              rw [if_pos (by rw [hw]; simpa using hbw)]
              exact .inl (tail hone)
            | false =>
              rw [hbw] at hone
              simp only [cond_false, Option.some.injEq] at hone
              rw [if_neg (by rw [hw]; simpa using hbw)]
              exact skip hone.symm
          · rename_i hnb
            have hy := yielded_not (all := all) tr hd (fun b hb => hnb b hb)
            simp only [Option.some.injEq] at hone
            rw [if_neg (by simp [Region.wanted, hgd, hy])]
            exact skip hone.symm
        · simp at hone

theorem drawK_sound {P : Program} {E : Env} {R : Type} (hE : ∀ f s, look E.spec f = some s → SOK P f s) (hm : P.follows .mixedOrders = true) {id : Nat} {ops : Array Oper} {S : St} {k : St → Option R} {r : R} {Q : Exit → Act → World → Prop} (h : drawK P E ops.toList S k = some r)
    {W0 : World} {out : Nat → Prop} {g : Nat → Nat} {a : Act} {w : World} (tr : TRel g S.tmps S.nxt a) (hr : HRel W0 out g S.heap S.nxt w)
    (hk : ∀ (S' : St) (g' : Nat → Nat) (a' : Act) (w' : World), k S' = some r → (∀ n, n < S.nxt → g' n = g n) → S.nxt ≤ S'.nxt → TRel g' S'.tmps S'.nxt a' → HRel W0 out g' S'.heap S'.nxt w' → Q .normal a' w') :
    (Code.region id ops true).wp P Q a w := by
  obtain ⟨T', H', M, h1, hrun, hMo, hMi⟩ := runK_spec _ _ _ _ _ h
  rw [List.append_nil, revE_eq, List.append_nil, List.reverse_reverse] at h1
  cases hok : okAll ops.toList S.nxt (masks ops.toList []) [] M with
  | false => rw [hok] at h1; simp at h1
  | true =>
    rw [hok] at h1
    simp only [cond_true, fN_eq] at h1
    obtain ⟨chk, _⟩ := okAll_spec hok
    have hlen : M.length = ops.toList.length := by rw [← hMo]; simp
    have hget : ∀ e ∈ M, ops.toList[e.i]? = some e.o := by
      intro e he
      obtain ⟨p, hp, rfl⟩ := List.getElem_of_mem he
      have e1 : (M.map (·.i))[p]? = (List.range' 0 ops.toList.length)[p]? := by rw [hMi]
      have e2 : (M.map (·.o))[p]? = ops.toList[p]? := by rw [hMo]
      have hp' : p < ops.toList.length := by omega
      simp only [List.getElem?_map, List.getElem?_eq_getElem hp, Option.map_some] at e1 e2
      rw [List.getElem?_range' hp'] at e1
      simp only [Nat.zero_add, Nat.one_mul, Option.some.injEq] at e1
      rw [e1, ← e2]
    have key : ∀ w', w'.heap = w.heap → w'.os = w.os → w'.tape = w.tape → w'.output = w.output → HRel W0 out g S.heap (S.nxt + 16 * ops.toList.length) w' := by
      intro w' e1 e2 e3 e4
      have hr' := hr.mono (nx' := S.nxt + 16 * ops.toList.length) (by omega)
      exact ⟨hr'.dom, hr'.bnd, fun n b hb => by rw [e1]; exact hr'.mem n b hb, hr'.inj, hr'.own, ⟨e2.trans hr.keep.os, e3.trans hr.keep.tape, e4.trans hr.keep.output, by rw [e1]; exact hr.keep.size, fun k hk1 hk2 => by rw [e1]; exact hr.keep.block k hk1 hk2⟩, hr'.tabs.of (fun x _ => by rw [e1]), hr'.ntab⟩
    refine wp_region_any hm ?_
    have hsz : ops.size = M.length := by rw [hlen]; simp
    rw [hsz]
    have := draw_sound hE (all := ops.toList) (base := S.nxt) rfl (Q := Q) (W0 := W0) (out := out) (g0 := g) (T' := T') (H' := H') (S.nxt + 16 * ops.toList.length) rfl
      (fun g' H2 a' w' hg' hh tr' hr' => by
        have hr2 : HRel W0 out g' H' (S.nxt + 16 * ops.toList.length) w' :=
          ⟨fun n b hb => hr'.dom n b (by rw [hh n]; exact hb), fun n b hb => hr'.bnd n b (by rw [hh n]; exact hb), fun n b hb => hr'.mem n b (by rw [hh n]; exact hb), fun n m b c hb hc => hr'.inj n m b c (by rw [hh n]; exact hb) (by rw [hh m]; exact hc), fun n b hb => hr'.own n b (by rw [hh n]; exact hb), hr'.keep, hr'.tabs, fun n b hb => hr'.ntab n b (by rw [hh n]; exact hb)⟩
        exact hk ⟨T', H', S.nxt + 16 * ops.toList.length⟩ g' a' w' h1 hg' (by show S.nxt ≤ S.nxt + 16 * ops.toList.length; omega) tr' hr2)
      M.length (Array.replicate M.length false) M S.tmps S.heap g a { w with drawn := w.drawn + 1 } rfl
      ⟨by simp [hlen], ?_, fun e he => ⟨hget e he, ?_⟩, fun i hi _ => ?_, fun i hi hl => ?_⟩ chk hrun
      (fun e he => ⟨fun v hv => ((tr.tb v hv).mono (by omega)).fr, fun n b hb => ⟨.inl (by have := hr.dom n b hb; omega), fun v hv => ((hr.bnd n b hb v hv).mono (by omega)).fr⟩⟩)
      (fun _ _ => rfl) (tr.mono (by omega)) (key _ rfl rfl rfl rfl)
    · simpa using this
    · have : (M.map (·.i)).Pairwise (· < ·) := by rw [hMi]; exact List.pairwise_lt_range' _
      rw [List.pairwise_map] at this
      exact this
    · have := (List.getElem?_eq_some_iff.1 (hget e he)).1
      have h2 : e.i < M.length := by omega
      rw [Array.getD_eq_getD_getElem?, Array.getElem?_replicate, if_pos h2]
      rfl
    · have hi' : i < M.length := by omega
      refine ⟨M[i], List.getElem_mem hi', ?_⟩
      have e1 : (M.map (·.i))[i]? = (List.range' 0 ops.toList.length)[i]? := by rw [hMi]
      simp only [List.getElem?_map, List.getElem?_eq_getElem hi', Option.map_some] at e1
      rw [List.getElem?_range' hi] at e1
      simpa using e1
    · have h2 : i < M.length := by omega
      rw [Array.getD_eq_getD_getElem?, Array.getElem?_replicate, if_pos h2] at hl
      cases hl
end RX
