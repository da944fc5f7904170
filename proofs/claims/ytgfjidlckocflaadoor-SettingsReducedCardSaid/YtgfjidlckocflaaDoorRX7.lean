/- RX, part 7: calls by a told contract. -/
import Derived.Test.YtgfjidlckocflaaDoorRX6
namespace RX
open Go Go.RowKit

/-- What a function comes to: whether it can be done, the result, what the blocks that its arguments lead to hold behind it. The blocks' names are 0, 1, .. in the order in which the arguments name them. -/
abbrev HSpec := List Value → List Blk → Option (Bool × Value × List Blk)
structure Env where
  spec : List (Nat × HSpec)
  inl : List (Nat × Func)

def Blk.clo : Blk → Bool
  | .cs l _ => l.all (RX.clo 8)
  | .is _ _ _ => true
theorem Blk.clo_spec {b : Blk} (h : b.clo = true) : ∀ c ∈ b.cells, Clo c := by
  cases b with
  | cs l t =>
    simp only [Blk.clo, List.all_eq_true] at h
    exact fun c hc => RX.clo_spec 8 c (h c hc)
  | is k xs t =>
    intro c hc
    obtain ⟨n, _, rfl⟩ := List.mem_map.1 hc
    exact fun g => by simp
theorem map_clo {l : List Value} (h : ∀ c ∈ l, Clo c) (g : Nat → Nat) : l.map (ren g) = l := by
  calc l.map (ren g) = l.map id := List.map_congr_left fun c hc => h c hc g
    _ = l := by simp

structure SOK (P : Program) (f : FuncId) (s : HSpec) : Prop where
  enter : ∃ fn, P.funcs[f]? = some fn ∧ fn.name ≠ "runtime.NumGoroutine" ∧ fn.body.isSome = true
  run : ∀ (vs : List Value) (bl : List Blk) (v : Value) (bl' : List Blk), s vs bl = some (true, v, bl') → (∀ b ∈ bl, ∀ c ∈ b.cells, Clo c) → ∀ (g : Nat → Nat) (w : World),
    (∀ i b, bl[i]? = some b → w.heap[g i]? = some (.cells ⟨b.cells⟩ b.ty (0, 0))) → (∀ i j, i < bl.length → j < bl.length → g i = g j → i = j) → TabOk w → (∀ i, i < bl.length → ∀ x ∈ TB, g i ≠ x.1) →
    Calls P f ⟨vs.map (ren g)⟩ w fun e w' => e = .returned v ∧ (∀ i b, bl'[i]? = some b → w'.heap[g i]? = some (.cells ⟨b.cells⟩ b.ty (0, 0))) ∧ Keep w (fun k => ∃ i, i < bl.length ∧ k = g i) w'

def ptrN : Value → Option Nat
  | .pointer (some ⟨b, _, none⟩) => some b
  | .slice (some ⟨b, _, none⟩) _ _ => some b
  | _ => none
def memN (n : Nat) : List Nat → Bool
  | [] => false
  | m :: r => bif Nat.beq n m then true else memN n r
theorem memN_spec {n : Nat} : ∀ {l : List Nat}, memN n l = true ↔ n ∈ l
  | [] => by simp [memN]
  | m :: r => by
    simp only [memN, List.mem_cons]
    cases h : Nat.beq n m with
    | true => simp [Nat.eq_of_beq_eq_true h]
    | false =>
      have : n ≠ m := fun e => by subst e; simp at h
      simp [this, memN_spec (l := r)]
def dedup : List Nat → List Nat
  | [] => []
  | n :: r => bif memN n r then dedup r else n :: dedup r
theorem mem_dedup {n : Nat} : ∀ {l : List Nat}, n ∈ dedup l ↔ n ∈ l
  | [] => by simp [dedup]
  | m :: r => by
    simp only [dedup]
    cases h : memN m r with
    | true =>
      have := memN_spec.1 h
      simp only [cond_true, mem_dedup (l := r), List.mem_cons]
      constructor
      · exact .inr
      · rintro (rfl | h1)
        · exact this
        · exact h1
    | false => simp [mem_dedup (l := r)]
theorem nodup_dedup : ∀ (l : List Nat), (dedup l).Nodup
  | [] => by simp [dedup]
  | m :: r => by
    simp only [dedup]
    cases h : memN m r with
    | true => simpa using nodup_dedup r
    | false =>
      simp only [cond_false, List.nodup_cons, mem_dedup]
      refine ⟨fun hm => ?_, nodup_dedup r⟩
      rw [memN_spec.2 hm] at h
      cases h
def idx (n : Nat) : List Nat → Nat
  | [] => 0
  | m :: r => bif Nat.beq n m then 0 else idx n r + 1
theorem idx_get {n : Nat} : ∀ {l : List Nat}, n ∈ l → l[idx n l]? = some n
  | [], h => by cases h
  | m :: r, h => by
    simp only [idx]
    cases hb : Nat.beq n m with
    | true => simp [Nat.eq_of_beq_eq_true hb]
    | false =>
      have hne : n ≠ m := fun e => by subst e; simp at hb
      have : n ∈ r := by
        cases h with
        | head => exact absurd rfl hne
        | tail _ h => exact h
      simpa using idx_get this
def canV (ns : List Nat) : Value → Value
  | .pointer (some ⟨b, o, s⟩) => .pointer (some ⟨idx b ns, o, s⟩)
  | .slice (some ⟨b, o, s⟩) l c => .slice (some ⟨idx b ns, o, s⟩) l c
  | v => v
def argOk : Value → Bool
  | .pointer (some ⟨_, _, none⟩) => true
  | .slice (some ⟨_, _, none⟩) _ _ => true
  | v => clo 8 v
theorem can_ren (g g' : Nat → Nat) {ns : List Nat} (hg : ∀ (i n : Nat), ns[i]? = some n → g' i = g n) {v : Value} (h : argOk v = true) (hm : ∀ n, ptrN v = some n → n ∈ ns) : ren g' (canV ns v) = ren g v := by
  unfold argOk at h
  split at h
  · rename_i b o
    have := hg _ _ (idx_get (hm b rfl))
    simp [canV, this]
  · rename_i b o l c
    have := hg _ _ (idx_get (hm b rfl))
    simp [canV, this]
  · have hc := clo_spec 8 v h
    have : canV ns v = v := by
      unfold canV
      split
      · exact absurd h (by simp [clo])
      · exact absurd h (by simp [clo])
      · rfl
    rw [this, hc g', hc g]
def getB (H : Heap) : List Nat → Option (List Blk)
  | [] => some []
  | n :: r => match look H n, getB H r with
    | some b, some l => some (b :: l)
    | _, _ => none
theorem getB_get {H : Heap} : ∀ {ns : List Nat} {bl : List Blk}, getB H ns = some bl → bl.length = ns.length ∧ ∀ (i : Nat) (b : Blk), bl[i]? = some b → ∃ n, ns[i]? = some n ∧ look H n = some b
  | [], bl, h => by simp [getB] at h; subst h; simp
  | n :: r, bl, h => by
    simp only [getB] at h
    split at h
    · rename_i b l hb hl
      injection h with h; subst h
      obtain ⟨h1, h2⟩ := getB_get hl
      refine ⟨by simp [h1], fun i b' hi => ?_⟩
      cases i with
      | zero => simp at hi; subst hi; exact ⟨n, by simp, hb⟩
      | succ i => simpa using h2 i b' (by simpa using hi)
    · simp at h
def sameTy : List Blk → List Blk → Bool
  | [], [] => true
  | a :: r, b :: s => Nat.beq a.ty b.ty && sameTy r s
  | _, _ => false
theorem sameTy_spec : ∀ {a b : List Blk}, sameTy a b = true → a.length = b.length ∧ ∀ (i : Nat) x y, a[i]? = some x → b[i]? = some y → x.ty = y.ty
  | [], [], _ => by simp
  | a :: r, b :: s, h => by
    simp only [sameTy, Bool.and_eq_true] at h
    obtain ⟨h1, h2⟩ := sameTy_spec h.2
    refine ⟨by simp [h1], fun i x y hx hy => ?_⟩
    cases i with
    | zero => simp at hx hy; subst hx; subst hy; exact Nat.eq_of_beq_eq_true h.1
    | succ i => exact h2 i x y (by simpa using hx) (by simpa using hy)
  | [], _ :: _, h => by simp [sameTy] at h
  | _ :: _, [], h => by simp [sameTy] at h

def callRc (s : HSpec) (vs : List Value) (H : Heap) : Option Rc :=
  bif vs.all argOk then
    match getB H (dedup (vs.filterMap ptrN)) with
    | some bl =>
      bif bl.all Blk.clo then
        match s (vs.map (canV (dedup (vs.filterMap ptrN)))) bl with
        | some (n, v, bl') => bif clo 8 v && sameTy bl bl' && bl'.all Blk.clo then some ⟨n, ⟨v, dedup (vs.filterMap ptrN), (dedup (vs.filterMap ptrN)).zip bl'⟩⟩ else none
        | none => none
      else none
    | none => none
  else none

theorem nodup_inj : ∀ {l : List Nat}, l.Nodup → ∀ {i j : Nat} (hi : i < l.length) (hj : j < l.length), l[i] = l[j] → i = j
  | [], _, i, j, hi, _, _ => by simp at hi
  | a :: l, h, i, j, hi, hj, e => by
    simp only [List.nodup_cons] at h
    cases i with
    | zero =>
      cases j with
      | zero => rfl
      | succ j =>
        simp only [List.getElem_cons_zero, List.getElem_cons_succ] at e
        exact absurd (by rw [e]; exact List.getElem_mem _) h.1
    | succ i =>
      cases j with
      | zero =>
        simp only [List.getElem_cons_zero, List.getElem_cons_succ] at e
        exact absurd (by rw [← e]; exact List.getElem_mem _) h.1
      | succ j =>
        simp only [List.getElem_cons_succ] at e
        rw [nodup_inj h.2 (by simpa using hi) (by simpa using hj) e]
/-- Several blocks written at once. -/
theorem look_app {n : Nat} : ∀ (ws : List (Nat × Blk)) (H : Heap), (∀ b, (n, b) ∉ ws) → look (app ws H) n = look H n
  | [], H, _ => rfl
  | (m, b) :: r, H, h => by
    have hm : n ≠ m := fun e => h b (by subst e; simp)
    show look (app r (upd H m b)) n = _
    rw [look_app r _ (fun b hb => h b (by simp [hb])), look_upd, if_neg hm]
theorem look_app_mem {n : Nat} {b : Blk} : ∀ (ws : List (Nat × Blk)) (H : Heap), (ws.map (·.1)).Nodup → (n, b) ∈ ws → look (app ws H) n = some b
  | (m, c) :: r, H, hn, h => by
    simp only [List.map_cons, List.nodup_cons] at hn
    show look (app r (upd H m c)) n = _
    cases h with
    | head =>
      rw [look_app r _ (fun b hb => hn.1 (List.mem_map.2 ⟨(n, b), hb, rfl⟩)), look_upd, if_pos rfl]
    | tail _ h => exact look_app_mem r _ hn.2 h

theorem zip_fst {α β : Type} : ∀ (l : List α) (m : List β), l.length ≤ m.length → (l.zip m).map (·.1) = l
  | [], _, _ => by simp
  | a :: l, b :: m, h => by simp [zip_fst l m (by simpa using h)]
  | a :: l, [], h => by simp at h

theorem call_rel {W0 : World} {out : Nat → Prop} {g : Nat → Nat} {H : Heap} {nx : Nat} {w w' : World} {ns : List Nat} {bl bl' : List Blk} (hr : HRel W0 out g H nx w) (hd : ns.Nodup) (hb : getB H ns = some bl) (ht : sameTy bl bl' = true)
    (hc : ∀ b ∈ bl', ∀ c ∈ b.cells, Clo c) (hm : ∀ (i n : Nat) b, ns[i]? = some n → bl'[i]? = some b → w'.heap[g n]? = some (.cells ⟨b.cells⟩ b.ty (0, 0)))
    (hk : Keep w (fun k => ∃ n ∈ ns, k = g n) w') : HRel W0 out g (app (ns.zip bl') H) nx w' := by
  obtain ⟨hl, hget⟩ := getB_get hb
  obtain ⟨hl', hty⟩ := sameTy_spec ht
  have hfst : (ns.zip bl').map (·.1) = ns := zip_fst _ _ (by omega)
  have cases_ : ∀ n b, look (app (ns.zip bl') H) n = some b → (∃ i : Nat, ns[i]? = some n ∧ bl'[i]? = some b ∧ ∃ c, look H n = some c) ∨ (n ∉ ns ∧ look H n = some b) := by
    intro n b h
    by_cases hn : n ∈ ns
    · obtain ⟨i, hi, rfl⟩ := List.getElem_of_mem hn
      have hi' : i < bl'.length := by omega
      have hz : (ns[i], bl'[i]) ∈ ns.zip bl' := by
        have hz0 : i < (ns.zip bl').length := by rw [List.length_zip]; omega
        have := List.getElem_mem hz0
        rwa [List.getElem_zip] at this
      rw [look_app_mem _ _ (by rw [hfst]; exact hd) hz] at h
      injection h with h
      obtain ⟨m, hm1, hm2⟩ := hget i bl[i] (List.getElem?_eq_getElem (by omega))
      rw [List.getElem?_eq_getElem hi] at hm1
      injection hm1 with hm1
      refine .inl ⟨i, List.getElem?_eq_getElem hi, by rw [List.getElem?_eq_getElem hi', h], bl[i], by rw [hm1]; exact hm2⟩
    · rw [look_app _ _ (fun b hb => hn (List.of_mem_zip hb).1)] at h
      exact .inr ⟨hn, h⟩
  have old : ∀ n b, look (app (ns.zip bl') H) n = some b → ∃ c, look H n = some c := fun n b h => by
    rcases cases_ n b h with ⟨_, _, _, h⟩ | ⟨_, h⟩
    · exact h
    · exact ⟨b, h⟩
  refine ⟨fun n b h => ?_, fun n b h => ?_, fun n b h => ?_, fun n m b c h1 h2 e => ?_, fun n b h => ?_, ?_, ?_, fun n b h => ?_⟩
  · obtain ⟨c, hc⟩ := old n b h; exact hr.dom n c hc
  · rcases cases_ n b h with ⟨i, h1, h2, _⟩ | ⟨_, h⟩
    · exact fun v hv => (hc b (List.mem_of_getElem? h2) v hv).bnd nx
    · exact hr.bnd n b h
  · rcases cases_ n b h with ⟨i, h1, h2, _⟩ | ⟨hn, h⟩
    · rw [hm i n b h1 h2, map_clo (hc b (List.mem_of_getElem? h2))]
    · have h0 := hr.mem n b h
      rw [hk.block _ (lt_of_heap h0) ?_, h0]
      rintro ⟨m, hm1, he⟩
      obtain ⟨i, hi, rfl⟩ := List.getElem_of_mem hm1
      obtain ⟨m', hm3, hm4⟩ := hget i bl[i] (List.getElem?_eq_getElem (by omega))
      rw [List.getElem?_eq_getElem hi] at hm3
      injection hm3 with hm3
      rw [← hm3] at hm4
      exact hn (hr.inj n ns[i] b _ h hm4 he ▸ List.getElem_mem hi)
  · obtain ⟨b', hb'⟩ := old n b h1
    obtain ⟨c', hc'⟩ := old m c h2
    exact hr.inj n m b' c' hb' hc' e
  · obtain ⟨c, hc⟩ := old n b h; exact hr.own n c hc
  · refine hr.keep.trans hk fun k hk1 ⟨n, hn, he⟩ => ?_
    obtain ⟨i, hi, rfl⟩ := List.getElem_of_mem hn
    obtain ⟨m', hm3, hm4⟩ := hget i bl[i] (List.getElem?_eq_getElem (by omega))
    rw [List.getElem?_eq_getElem hi] at hm3
    injection hm3 with hm3
    rw [← hm3] at hm4
    rcases hr.own _ _ hm4 with ho | ho
    · omega
    · rw [he]; exact ho
  · refine hr.tabs.of fun x hx => hk.block x.1 (by obtain ⟨o, h1, _⟩ := hr.tabs x hx; exact lt_of_heap h1) ?_
    rintro ⟨n, hn, he⟩
    obtain ⟨i, hi, rfl⟩ := List.getElem_of_mem hn
    obtain ⟨m', hm3, hm4⟩ := hget i bl[i] (List.getElem?_eq_getElem (by omega))
    rw [List.getElem?_eq_getElem hi] at hm3
    injection hm3 with hm3
    rw [← hm3] at hm4
    exact hr.ntab _ _ hm4 x hx he.symm
  · obtain ⟨c, hc⟩ := old n b h; exact hr.ntab n c hc

section
variable {P : Program} {o : Oper} {nm nx : Nat} {T : List Value} {H : Heap}

theorem run_callFunc {f : FuncId} {fn : Func} (h : P.funcs[f]? = some fn) (hn : fn.name ≠ "runtime.NumGoroutine") (hb : fn.body.isSome = true) (args : Array Value) (w : World) : (callFunc f args).run P w = .ok (.enter f args) w := by
  have h2 : fn.body.isNone = false := by
    cases hx : fn.body with
    | none => simp [hx] at hb
    | some c => rfl
  have hb' : fn.body ≠ none := fun e => by simp [e] at h2
  simp [callFunc, program, Sem.run, h, hn, hb']

/-- A call of a function value, as the machine takes it. -/
theorem run_callv {c : Call} {x : Operand} {f : FuncId} {first cap : List Value} {g : Nat → Nat} {a : Act} {w : World} {fn : Func} (ho : o.op = .call c) (hc : c.callee = .value x) (hx : evOk x = true) (ha : ∀ y ∈ c.args.toList, evOk y = true)
    (tr : TRel g T nx a) (hv : ev T x = .func (.func f) ⟨first⟩ ⟨cap⟩) (h : P.funcs[f]? = some fn) (hn : fn.name ≠ "runtime.NumGoroutine") (hb : fn.body.isSome = true) :
    (execOp a.eval o).run P w = .ok (.enter f ⟨(first ++ c.args.toList.map (ev T) ++ cap).map (ren g)⟩) w := by
  have hex : a.eval x = .func (.func f) ⟨first.map (ren g)⟩ ⟨cap.map (ren g)⟩ := by rw [tr.eval hx, hv]; simp
  have e1 : c.args.map a.eval = ⟨(c.args.toList.map (ev T)).map (ren g)⟩ := by
    apply Array.toList_inj.1
    rw [Array.toList_map, List.map_map]
    exact List.map_congr_left fun x hx => tr.eval (ha x hx)
  have e2 : (⟨first.map (ren g)⟩ : Array Value) ++ c.args.map a.eval ++ ⟨cap.map (ren g)⟩ = ⟨(first ++ c.args.toList.map (ev T) ++ cap).map (ren g)⟩ := by
    rw [e1]; simp
  simp only [execOp, ho, resolve, hc, hex, Deferred.ofValue, Sem.run_bind, Sem.run_pure, Result.andThen_ok, invoke, e2]
  exact run_callFunc h hn hb _ _

theorem goes_call {c : Call} {x : Operand} {f : FuncId} {first cap : List Value} {s : HSpec} {rc : Rc} (ho : o.op = .call c) (hc : c.callee = .value x) (hx : evOk x = true) (ha : ∀ y ∈ c.args.toList, evOk y = true)
    (hv : ev T x = .func (.func f) ⟨first⟩ ⟨cap⟩) (hs : SOK P f s) (h : callRc s (first ++ c.args.toList.map (ev T) ++ cap) H = some rc) (hneed : rc.need = true) : Goes P o nm nx T H rc.r := by
  generalize hvs : first ++ c.args.toList.map (ev T) ++ cap = vs at h
  unfold callRc at h
  cases h1 : vs.all argOk with
  | false => simp [h1] at h
  | true =>
    simp only [h1, cond_true] at h
    rw [List.all_eq_true] at h1
    generalize hns : dedup (vs.filterMap ptrN) = ns at h
    have hd : ns.Nodup := by rw [← hns]; exact nodup_dedup _
    have hmem : ∀ v ∈ vs, ∀ n, ptrN v = some n → n ∈ ns := fun v hv n hn => by
      rw [← hns, mem_dedup]
      exact List.mem_filterMap.2 ⟨v, hv, hn⟩
    split at h
    · rename_i bl hb
      cases h2 : bl.all Blk.clo with
      | false => simp [h2] at h
      | true =>
        simp only [h2, cond_true] at h
        rw [List.all_eq_true] at h2
        split at h
        · rename_i n v bl' hsp
          cases h3 : (clo 8 v && sameTy bl bl' && bl'.all Blk.clo) with
          | false => simp [h3] at h
          | true =>
            simp only [h3, cond_true, Option.some.injEq] at h
            subst h
            simp only [Bool.and_eq_true, List.all_eq_true] at h3
            obtain ⟨⟨hcv, hty⟩, hcb⟩ := h3
            have hneed' : n = true := hneed
            subst hneed'
            obtain ⟨fn, hf1, hf2, hf3⟩ := hs.enter
            refine ⟨fun W0 out g a w next Q tr hr fr k => ?_⟩
            have hrun := run_callv (w := w) ho hc hx ha tr hv hf1 hf2 hf3
            rw [hvs] at hrun
            unfold Oper.wp
            rw [hrun, Oper.upon_enter]
            obtain ⟨hl, hget⟩ := getB_get hb
            let g' : Nat → Nat := fun i => g (ns.getD i 0)
            have hg' : ∀ (i n : Nat), ns[i]? = some n → g' i = g n := fun i n hi => by simp [g', List.getD_eq_getElem?_getD, hi]
            have hargs : (vs.map (canV ns)).map (ren g') = vs.map (ren g) := by
              rw [List.map_map]
              exact List.map_congr_left fun v hv => can_ren g g' hg' (h1 v hv) (hmem v hv)
            have := hs.run (vs.map (canV ns)) bl v bl' hsp (fun b hb => Blk.clo_spec (h2 b hb)) g' w
              (fun i b hi => by
                obtain ⟨n, hn1, hn2⟩ := hget i b hi
                rw [hg' i n hn1, hr.mem n b hn2, map_clo (Blk.clo_spec (h2 b (List.mem_of_getElem? hi)))])
              (fun i j hi hj e => by
                obtain ⟨n, hn1, hn2⟩ := hget i bl[i] (List.getElem?_eq_getElem hi)
                obtain ⟨m, hm1, hm2⟩ := hget j bl[j] (List.getElem?_eq_getElem hj)
                rw [hg' i n hn1, hg' j m hm1] at e
                have := hr.inj n m _ _ hn2 hm2 e
                subst this
                rw [List.getElem?_eq_getElem (by omega)] at hn1 hm1
                injection hn1 with hn1
                injection hm1 with hm1
                exact nodup_inj hd (by omega) (by omega) (hn1.trans hm1.symm)) hr.tabs
              (fun i hi x hx => by
                obtain ⟨n, hn1, hn2⟩ := hget i bl[i] (List.getElem?_eq_getElem hi)
                rw [hg' i n hn1]
                exact hr.ntab n _ hn2 x hx)
            rw [hargs] at this
            refine this.mono fun e w' ⟨he, hmm, hkk⟩ => ?_
            subst he
            have hk' : Keep w (fun k => ∃ n ∈ ns, k = g n) w' := ⟨hkk.os, hkk.tape, hkk.output, hkk.size, fun k hk1 hk2 => hkk.block k hk1 (by
              rintro ⟨i, hi, rfl⟩
              have hi' : i < ns.length := by omega
              exact hk2 ⟨ns[i], List.getElem_mem hi', hg' i _ (List.getElem?_eq_getElem hi')⟩)⟩
            have hrel := call_rel hr hd hb hty (fun b hb => Blk.clo_spec (hcb b hb)) (fun i n b hi hb' => by rw [← hg' i n hi]; exact hmm i b hb') hk'
            have hcl := clo_spec 8 v hcv
            have := k g w' (fun _ _ => rfl) tr hrel (hcl.bnd nx)
            rw [hcl g] at this
            exact this
        · simp at h
    · simp at h
end
end RX
