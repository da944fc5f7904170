/- RX, part 7: calls by a told contract. -/
import Derived.Test.YtgfjidlckocflaaDoorRX6
namespace RX
open Go Go.RowKit

/-- What a function comes to: whether it can be done, the result, what the blocks that its arguments lead to hold behind it. The blocks' names are 0, 1, .. in the order in which the arguments name them. -/
abbrev HSpec := List Value → List Blk → Option (Bool × Value × List Blk)
structure Env where
  spec : List (Nat × HSpec)
  inl : List (Nat × Func)

def Blk.clo : Blk → Bool
  | .cs l _ => l.all (RX.clo 8)
  | .is _ _ _ => true
theorem Blk.clo_spec {b : Blk} (h : b.clo = true) : ∀ c ∈ b.cells, Clo c := by
  cases b with
  | cs l t =>
    simp only [Blk.clo, List.all_eq_true] at h
    exact fun c hc => RX.clo_spec 8 c (h c hc)
  | is k xs t =>
    intro c hc
    obtain ⟨n, _, rfl⟩ := List.mem_map.1 hc
    exact fun g => by simp
theorem map_clo {l : List Value} (h : ∀ c ∈ l, Clo c) (g : Nat → Nat) : l.map (ren g) = l := by
  calc l.map (ren g) = l.map id := List.map_congr_left fun c hc => h c hc g
    _ = l := by simp

structure SOK (P : Program) (f : FuncId) (s : HSpec) : Prop where
  enter : ∃ fn, P.funcs[f]? = some fn ∧ fn.name ≠ "runtime.NumGoroutine" ∧ fn.body.isSome = true
  run : ∀ (vs : List Value) (bl : List Blk) (v : Value) (bl' : List Blk), s vs bl = some (true, v, bl') → (∀ b ∈ bl, ∀ c ∈ b.cells, Clo c) → ∀ (g : Nat → Nat) (w : World),
    (∀ i b, bl[i]? = some b → w.heap[g i]? = some (.cells ⟨b.cells⟩ b.ty (0, 0))) → (∀ i j, i < bl.length → j < bl.length → g i = g j → i = j) → TabOk w → (∀ i, i < bl.length → ∀ x ∈ TB, g i ≠ x.1) →
    Calls P f ⟨vs.map (ren g)⟩ w fun e w' => ∃ g' : Nat → Nat, (∀ i, i < bl.length → g' i = g i) ∧ e = .returned (ren g' v) ∧ (∀ i b, bl'[i]? = some b → w'.heap[g' i]? = some (.cells ⟨b.cells⟩ b.ty (0, 0))) ∧
      (∀ i, bl.length ≤ i → i < bl'.length → w.heap.size ≤ g' i) ∧ (∀ i j, bl.length ≤ i → i < bl'.length → bl.length ≤ j → j < bl'.length → g' i = g' j → i = j) ∧ Keep w (fun k => ∃ i, i < bl.length ∧ k = g i) w'

def ptrN : Value → Option Nat
  | .pointer (some ⟨b, _, none⟩) => some b
  | .slice (some ⟨b, _, none⟩) _ _ => some b
  | _ => none
def memN (n : Nat) : List Nat → Bool
  | [] => false
  | m :: r => bif Nat.beq n m then true else memN n r
theorem memN_spec {n : Nat} : ∀ {l : List Nat}, memN n l = true ↔ n ∈ l
  | [] => by simp [memN]
  | m :: r => by
    simp only [memN, List.mem_cons]
    cases h : Nat.beq n m with
    | true => simp [Nat.eq_of_beq_eq_true h]
    | false =>
      have : n ≠ m := fun e => by subst e; simp at h
      simp [this, memN_spec (l := r)]
def dedup : List Nat → List Nat
  | [] => []
  | n :: r => bif memN n r then dedup r else n :: dedup r
theorem mem_dedup {n : Nat} : ∀ {l : List Nat}, n ∈ dedup l ↔ n ∈ l
  | [] => by simp [dedup]
  | m :: r => by
    simp only [dedup]
    cases h : memN m r with
    | true =>
      have := memN_spec.1 h
      simp only [cond_true, mem_dedup (l := r), List.mem_cons]
      constructor
      · exact .inr
      · rintro (rfl | h1)
        · exact this
        · exact h1
    | false => simp [mem_dedup (l := r)]
theorem nodup_dedup : ∀ (l : List Nat), (dedup l).Nodup
  | [] => by simp [dedup]
  | m :: r => by
    simp only [dedup]
    cases h : memN m r with
    | true => simpa using nodup_dedup r
    | false =>
      simp only [cond_false, List.nodup_cons, mem_dedup]
      refine ⟨fun hm => ?_, nodup_dedup r⟩
      rw [memN_spec.2 hm] at h
      cases h
def idx (n : Nat) : List Nat → Nat
  | [] => 0
  | m :: r => bif Nat.beq n m then 0 else idx n r + 1
theorem idx_get {n : Nat} : ∀ {l : List Nat}, n ∈ l → l[idx n l]? = some n
  | [], h => by cases h
  | m :: r, h => by
    simp only [idx]
    cases hb : Nat.beq n m with
    | true => simp [Nat.eq_of_beq_eq_true hb]
    | false =>
      have hne : n ≠ m := fun e => by subst e; simp at hb
      have : n ∈ r := by
        cases h with
        | head => exact absurd rfl hne
        | tail _ h => exact h
      simpa using idx_get this
def canV (ns : List Nat) : Value → Value
  | .pointer (some ⟨b, o, s⟩) => .pointer (some ⟨idx b ns, o, s⟩)
  | .slice (some ⟨b, o, s⟩) l c => .slice (some ⟨idx b ns, o, s⟩) l c
  | v => v
def argOk : Value → Bool
  | .pointer (some ⟨_, _, none⟩) => true
  | .slice (some ⟨_, _, none⟩) _ _ => true
  | v => clo 8 v
theorem can_ren (g g' : Nat → Nat) {ns : List Nat} (hg : ∀ (i n : Nat), ns[i]? = some n → g' i = g n) {v : Value} (h : argOk v = true) (hm : ∀ n, ptrN v = some n → n ∈ ns) : ren g' (canV ns v) = ren g v := by
  unfold argOk at h
  split at h
  · rename_i b o
    have := hg _ _ (idx_get (hm b rfl))
    simp [canV, this]
  · rename_i b o l c
    have := hg _ _ (idx_get (hm b rfl))
    simp [canV, this]
  · have hc := clo_spec 8 v h
    have : canV ns v = v := by
      unfold canV
      split
      · exact absurd h (by simp [clo])
      · exact absurd h (by simp [clo])
      · rfl
    rw [this, hc g', hc g]
def getB (H : Heap) : List Nat → Option (List Blk)
  | [] => some []
  | n :: r => match look H n, getB H r with
    | some b, some l => some (b :: l)
    | _, _ => none
theorem getB_get {H : Heap} : ∀ {ns : List Nat} {bl : List Blk}, getB H ns = some bl → bl.length = ns.length ∧ ∀ (i : Nat) (b : Blk), bl[i]? = some b → ∃ n, ns[i]? = some n ∧ look H n = some b
  | [], bl, h => by simp [getB] at h; subst h; simp
  | n :: r, bl, h => by
    simp only [getB] at h
    split at h
    · rename_i b l hb hl
      injection h with h; subst h
      obtain ⟨h1, h2⟩ := getB_get hl
      refine ⟨by simp [h1], fun i b' hi => ?_⟩
      cases i with
      | zero => simp at hi; subst hi; exact ⟨n, by simp, hb⟩
      | succ i => simpa using h2 i b' (by simpa using hi)
    · simp at h
def sameTy : List Blk → List Blk → Bool
  | [], [] => true
  | a :: r, b :: s => Nat.beq a.ty b.ty && sameTy r s
  | _, _ => false
theorem sameTy_spec : ∀ {a b : List Blk}, sameTy a b = true → a.length = b.length ∧ ∀ (i : Nat) x y, a[i]? = some x → b[i]? = some y → x.ty = y.ty
  | [], [], _ => by simp
  | a :: r, b :: s, h => by
    simp only [sameTy, Bool.and_eq_true] at h
    obtain ⟨h1, h2⟩ := sameTy_spec h.2
    refine ⟨by simp [h1], fun i x y hx hy => ?_⟩
    cases i with
    | zero => simp at hx hy; subst hx; subst hy; exact Nat.eq_of_beq_eq_true h.1
    | succ i => exact h2 i x y (by simpa using hx) (by simpa using hy)
  | [], _ :: _, h => by simp [sameTy] at h
  | _ :: _, [], h => by simp [sameTy] at h

/-- Names below m, and no package-level variable. -/
def okN (m : Nat) : Nat → Value → Bool
  | 0, _ => false
  | n + 1, v =>
    match v with
    | .bool _ | .int _ _ | .float _ _ | .complex _ _ _ | .string _ | .nilFunc | .nilIface => true
    | .pointer none => true
    | .pointer (some ⟨b, _, none⟩) => Nat.blt b m
    | .slice none _ _ => true
    | .slice (some ⟨b, _, none⟩) _ _ => Nat.blt b m
    | .agg ⟨cs⟩ => cs.all (okN m n)
    | .tuple ⟨cs⟩ => cs.all (okN m n)
    | .func _ ⟨f⟩ ⟨c⟩ => f.all (okN m n) && c.all (okN m n)
    | .iface _ v => okN m n v
    | _ => false
theorem okN_comp {m : Nat} {g h k : Nat → Nat} (e : ∀ i, i < m → g (h i) = k i) : ∀ (n : Nat) (v : Value), okN m n v = true → ren g (ren h v) = ren k v := by
  intro n
  induction n with
  | zero => intro v hv; simp [okN] at hv
  | succ n ih =>
    have hl : ∀ l : List Value, l.all (okN m n) = true → (l.map (ren h)).map (ren g) = l.map (ren k) := fun l hl => by
      rw [List.all_eq_true] at hl
      rw [List.map_map]
      exact List.map_congr_left fun v hv => ih v (hl v hv)
    intro v hv
    unfold okN at hv
    split at hv
    all_goals try simp only [ren_bool, ren_int, ren_string, ren_nilFunc, ren_nilIface, ren_nilptr, ren_nilslice]
    · simp [ren]
    · simp [ren]
    · simp [e _ (by simpa [Nat.blt_eq] using hv)]
    · simp [e _ (by simpa [Nat.blt_eq] using hv)]
    · rw [ren_agg, ren_agg, ren_agg, hl _ hv]
    · rw [ren_tuple, ren_tuple, ren_tuple, hl _ hv]
    · simp only [Bool.and_eq_true] at hv
      rw [ren_func, ren_func, ren_func, hl _ hv.1, hl _ hv.2]
    · rw [ren_iface, ren_iface, ren_iface, ih _ hv]
    · simp at hv
/-- The caller's names of the blocks that a call names 0, 1, ..: the arguments' own, then new ones from nm on. -/
def sig (ns : List Nat) (nm i : Nat) : Nat := match ns[i]? with | some n => n | none => nm + (i - ns.length)
def newB (nm : Nat) : Nat → List Blk → List (Nat × Blk)
  | _, [] => []
  | j, b :: r => (nm + j, b) :: newB nm (j + 1) r
def sameTyP : List Blk → List Blk → Bool
  | [], _ => true
  | a :: r, b :: s => Nat.beq a.ty b.ty && sameTyP r s
  | _, _ => false
theorem sameTyP_spec : ∀ {a b : List Blk}, sameTyP a b = true → a.length ≤ b.length ∧ sameTy a (b.take a.length) = true
  | [], b, _ => by simp [sameTy]
  | a :: r, b :: s, h => by
    simp only [sameTyP, Bool.and_eq_true] at h
    obtain ⟨h1, h2⟩ := sameTyP_spec h.2
    refine ⟨by simpa using h1, ?_⟩
    simp only [List.length_cons, List.take_succ_cons, sameTy, Bool.and_eq_true]
    exact ⟨h.1, h2⟩
  | a :: r, [], h => by simp [sameTyP] at h
def callRc (nm : Nat) (s : HSpec) (vs : List Value) (H : Heap) : Option Rc :=
  bif vs.all argOk then
    match getB H (dedup (vs.filterMap ptrN)) with
    | some bl =>
      bif bl.all Blk.clo then
        match s (vs.map (canV (dedup (vs.filterMap ptrN)))) bl with
        | some (n, v, bl') => bif clo 8 v && sameTy bl bl' && bl'.all Blk.clo then some ⟨n, ⟨v, dedup (vs.filterMap ptrN), (dedup (vs.filterMap ptrN)).zip bl'⟩⟩
          else bif okN bl'.length 8 v && sameTyP bl bl' && bl'.all Blk.clo && Nat.ble bl'.length (bl.length + 16) then some ⟨n, ⟨ren (sig (dedup (vs.filterMap ptrN)) nm) v, dedup (vs.filterMap ptrN), (dedup (vs.filterMap ptrN)).zip (bl'.take bl.length) ++ newB nm 0 (bl'.drop bl.length)⟩⟩
          else none
        | none => none
      else none
    | none => none
  else none

theorem nodup_inj : ∀ {l : List Nat}, l.Nodup → ∀ {i j : Nat} (hi : i < l.length) (hj : j < l.length), l[i] = l[j] → i = j
  | [], _, i, j, hi, _, _ => by simp at hi
  | a :: l, h, i, j, hi, hj, e => by
    simp only [List.nodup_cons] at h
    cases i with
    | zero =>
      cases j with
      | zero => rfl
      | succ j =>
        simp only [List.getElem_cons_zero, List.getElem_cons_succ] at e
        exact absurd (by rw [e]; exact List.getElem_mem _) h.1
    | succ i =>
      cases j with
      | zero =>
        simp only [List.getElem_cons_zero, List.getElem_cons_succ] at e
        exact absurd (by rw [← e]; exact List.getElem_mem _) h.1
      | succ j =>
        simp only [List.getElem_cons_succ] at e
        rw [nodup_inj h.2 (by simpa using hi) (by simpa using hj) e]
/-- Several blocks written at once. -/
theorem look_app {n : Nat} : ∀ (ws : List (Nat × Blk)) (H : Heap), (∀ b, (n, b) ∉ ws) → look (app ws H) n = look H n
  | [], H, _ => rfl
  | (m, b) :: r, H, h => by
    have hm : n ≠ m := fun e => h b (by subst e; simp)
    show look (app r (upd H m b)) n = _
    rw [look_app r _ (fun b hb => h b (by simp [hb])), look_upd, if_neg hm]
theorem look_app_mem {n : Nat} {b : Blk} : ∀ (ws : List (Nat × Blk)) (H : Heap), (ws.map (·.1)).Nodup → (n, b) ∈ ws → look (app ws H) n = some b
  | (m, c) :: r, H, hn, h => by
    simp only [List.map_cons, List.nodup_cons] at hn
    show look (app r (upd H m c)) n = _
    cases h with
    | head =>
      rw [look_app r _ (fun b hb => hn.1 (List.mem_map.2 ⟨(n, b), hb, rfl⟩)), look_upd, if_pos rfl]
    | tail _ h => exact look_app_mem r _ hn.2 h

theorem zip_fst {α β : Type} : ∀ (l : List α) (m : List β), l.length ≤ m.length → (l.zip m).map (·.1) = l
  | [], _, _ => by simp
  | a :: l, b :: m, h => by simp [zip_fst l m (by simpa using h)]
  | a :: l, [], h => by simp at h

theorem call_rel {W0 : World} {out : Nat → Prop} {g : Nat → Nat} {H : Heap} {nx : Nat} {w w' : World} {ns : List Nat} {bl bl' : List Blk} (hr : HRel W0 out g H nx w) (hd : ns.Nodup) (hb : getB H ns = some bl) (ht : sameTy bl bl' = true)
    (hc : ∀ b ∈ bl', ∀ c ∈ b.cells, Clo c) (hm : ∀ (i n : Nat) b, ns[i]? = some n → bl'[i]? = some b → w'.heap[g n]? = some (.cells ⟨b.cells⟩ b.ty (0, 0)))
    (hk : Keep w (fun k => ∃ n ∈ ns, k = g n) w') : HRel W0 out g (app (ns.zip bl') H) nx w' := by
  obtain ⟨hl, hget⟩ := getB_get hb
  obtain ⟨hl', hty⟩ := sameTy_spec ht
  have hfst : (ns.zip bl').map (·.1) = ns := zip_fst _ _ (by omega)
  have cases_ : ∀ n b, look (app (ns.zip bl') H) n = some b → (∃ i : Nat, ns[i]? = some n ∧ bl'[i]? = some b ∧ ∃ c, look H n = some c) ∨ (n ∉ ns ∧ look H n = some b) := by
    intro n b h
    by_cases hn : n ∈ ns
    · obtain ⟨i, hi, rfl⟩ := List.getElem_of_mem hn
      have hi' : i < bl'.length := by omega
      have hz : (ns[i], bl'[i]) ∈ ns.zip bl' := by
        have hz0 : i < (ns.zip bl').length := by rw [List.length_zip]; omega
        have := List.getElem_mem hz0
        rwa [List.getElem_zip] at this
      rw [look_app_mem _ _ (by rw [hfst]; exact hd) hz] at h
      injection h with h
      obtain ⟨m, hm1, hm2⟩ := hget i bl[i] (List.getElem?_eq_getElem (by omega))
      rw [List.getElem?_eq_getElem hi] at hm1
      injection hm1 with hm1
      refine .inl ⟨i, List.getElem?_eq_getElem hi, by rw [List.getElem?_eq_getElem hi', h], bl[i], by rw [hm1]; exact hm2⟩
    · rw [look_app _ _ (fun b hb => hn (List.of_mem_zip hb).1)] at h
      exact .inr ⟨hn, h⟩
  have old : ∀ n b, look (app (ns.zip bl') H) n = some b → ∃ c, look H n = some c := fun n b h => by
    rcases cases_ n b h with ⟨_, _, _, h⟩ | ⟨_, h⟩
    · exact h
    · exact ⟨b, h⟩
  refine ⟨fun n b h => ?_, fun n b h => ?_, fun n b h => ?_, fun n m b c h1 h2 e => ?_, fun n b h => ?_, ?_, ?_, fun n b h => ?_⟩
  · obtain ⟨c, hc⟩ := old n b h; exact hr.dom n c hc
  · rcases cases_ n b h with ⟨i, h1, h2, _⟩ | ⟨_, h⟩
    · exact fun v hv => (hc b (List.mem_of_getElem? h2) v hv).bnd nx
    · exact hr.bnd n b h
  · rcases cases_ n b h with ⟨i, h1, h2, _⟩ | ⟨hn, h⟩
    · rw [hm i n b h1 h2, map_clo (hc b (List.mem_of_getElem? h2))]
    · have h0 := hr.mem n b h
      rw [hk.block _ (lt_of_heap h0) ?_, h0]
      rintro ⟨m, hm1, he⟩
      obtain ⟨i, hi, rfl⟩ := List.getElem_of_mem hm1
      obtain ⟨m', hm3, hm4⟩ := hget i bl[i] (List.getElem?_eq_getElem (by omega))
      rw [List.getElem?_eq_getElem hi] at hm3
      injection hm3 with hm3
      rw [← hm3] at hm4
      exact hn (hr.inj n ns[i] b _ h hm4 he ▸ List.getElem_mem hi)
  · obtain ⟨b', hb'⟩ := old n b h1
    obtain ⟨c', hc'⟩ := old m c h2
    exact hr.inj n m b' c' hb' hc' e
  · obtain ⟨c, hc⟩ := old n b h; exact hr.own n c hc
  · refine hr.keep.trans hk fun k hk1 ⟨n, hn, he⟩ => ?_
    obtain ⟨i, hi, rfl⟩ := List.getElem_of_mem hn
    obtain ⟨m', hm3, hm4⟩ := hget i bl[i] (List.getElem?_eq_getElem (by omega))
    rw [List.getElem?_eq_getElem hi] at hm3
    injection hm3 with hm3
    rw [← hm3] at hm4
    rcases hr.own _ _ hm4 with ho | ho
    · omega
    · rw [he]; exact ho
  · refine hr.tabs.of fun x hx => hk.block x.1 (by obtain ⟨o, h1, _⟩ := hr.tabs x hx; exact lt_of_heap h1) ?_
    rintro ⟨n, hn, he⟩
    obtain ⟨i, hi, rfl⟩ := List.getElem_of_mem hn
    obtain ⟨m', hm3, hm4⟩ := hget i bl[i] (List.getElem?_eq_getElem (by omega))
    rw [List.getElem?_eq_getElem hi] at hm3
    injection hm3 with hm3
    rw [← hm3] at hm4
    exact hr.ntab _ _ hm4 x hx he.symm
  · obtain ⟨c, hc⟩ := old n b h; exact hr.ntab n c hc

section
variable {P : Program} {o : Oper} {nm nx : Nat} {T : List Value} {H : Heap}

theorem run_callFunc {f : FuncId} {fn : Func} (h : P.funcs[f]? = some fn) (hn : fn.name ≠ "runtime.NumGoroutine") (hb : fn.body.isSome = true) (args : Array Value) (w : World) : (callFunc f args).run P w = .ok (.enter f args) w := by
  have h2 : fn.body.isNone = false := by
    cases hx : fn.body with
    | none => simp [hx] at hb
    | some c => rfl
  have hb' : fn.body ≠ none := fun e => by simp [e] at h2
  simp [callFunc, program, Sem.run, h, hn, hb']

/-- A call of a function value, as the machine takes it. -/
theorem run_callv {c : Call} {x : Operand} {f : FuncId} {first cap : List Value} {g : Nat → Nat} {a : Act} {w : World} {fn : Func} (ho : o.op = .call c) (hc : c.callee = .value x) (hx : evOk x = true) (ha : ∀ y ∈ c.args.toList, evOk y = true)
    (tr : TRel g T nx a) (hv : ev T x = .func (.func f) ⟨first⟩ ⟨cap⟩) (h : P.funcs[f]? = some fn) (hn : fn.name ≠ "runtime.NumGoroutine") (hb : fn.body.isSome = true) :
    (execOp a.eval o).run P w = .ok (.enter f ⟨(first ++ c.args.toList.map (ev T) ++ cap).map (ren g)⟩) w := by
  have hex : a.eval x = .func (.func f) ⟨first.map (ren g)⟩ ⟨cap.map (ren g)⟩ := by rw [tr.eval hx, hv]; simp
  have e1 : c.args.map a.eval = ⟨(c.args.toList.map (ev T)).map (ren g)⟩ := by
    apply Array.toList_inj.1
    rw [Array.toList_map, List.map_map]
    exact List.map_congr_left fun x hx => tr.eval (ha x hx)
  have e2 : (⟨first.map (ren g)⟩ : Array Value) ++ c.args.map a.eval ++ ⟨cap.map (ren g)⟩ = ⟨(first ++ c.args.toList.map (ev T) ++ cap).map (ren g)⟩ := by
    rw [e1]; simp
  simp only [execOp, ho, resolve, hc, hex, Deferred.ofValue, Sem.run_bind, Sem.run_pure, Result.andThen_ok, invoke, e2]
  exact run_callFunc h hn hb _ _

/-! ### a call that makes new blocks -/
theorem look_newB {nm : Nat} : ∀ (l : List Blk) (j : Nat) (H : Heap) (n : Nat), look (app (newB nm j l) H) n = if nm + j ≤ n ∧ n < nm + j + l.length then l[n - (nm + j)]? else look H n
  | [], j, H, n => by rw [if_neg (by simp only [List.length_nil]; omega)]; rfl
  | b :: r, j, H, n => by
    show look (app (newB nm (j + 1) r) (upd H (nm + j) b)) n = _
    rw [look_newB r (j + 1), look_upd]
    simp only [List.length_cons]
    by_cases h1 : nm + (j + 1) ≤ n ∧ n < nm + (j + 1) + r.length
    · rw [if_pos h1, if_pos (by omega), show n - (nm + j) = (n - (nm + (j + 1))) + 1 by omega, List.getElem?_cons_succ]
    · rw [if_neg h1]
      by_cases h2 : n = nm + j
      · rw [if_pos h2, if_pos (by omega), h2, Nat.sub_self]; rfl
      · rw [if_neg h2, if_neg (by omega)]
theorem app_append (a b : List (Nat × Blk)) (H : Heap) : app (a ++ b) H = app b (app a H) := by simp [app, List.foldl_append]
/-- New blocks beside the old ones. -/
theorem new_rel {W0 : World} {out : Nat → Prop} {g g2 : Nat → Nat} {H : Heap} {nm nx S : Nat} {w : World} {l : List Blk} (hr : HRel W0 out g H nx w) (hx : nm + 16 ≤ nx) (hlen : l.length ≤ 16)
    (hold : ∀ n b, look H n = some b → g n < S ∧ (n < nm ∨ nm + 16 ≤ n) ∧ ∀ c ∈ b.cells, Fr nm c) (hS : W0.heap.size ≤ S) (htS : ∀ x ∈ TB, x.1 < S) (hc : ∀ b ∈ l, ∀ c ∈ b.cells, Clo c)
    (hm : ∀ j b, l[j]? = some b → w.heap[g2 j]? = some (.cells ⟨b.cells⟩ b.ty (0, 0))) (hS2 : ∀ j, j < l.length → S ≤ g2 j) (hi : ∀ i j, i < l.length → j < l.length → g2 i = g2 j → i = j) :
    HRel W0 out (fun n => if nm ≤ n ∧ n < nm + l.length then g2 (n - nm) else g n) (app (newB nm 0 l) H) nx w := by
  have hag : ∀ n, n < nm ∨ nm + 16 ≤ n → g n = (fun n => if nm ≤ n ∧ n < nm + l.length then g2 (n - nm) else g n) n := fun n h => by
    simp only
    rw [if_neg (by omega)]
  have cs : ∀ n b, look (app (newB nm 0 l) H) n = some b → (nm ≤ n ∧ n < nm + l.length ∧ l[n - nm]? = some b) ∨ (¬ (nm ≤ n ∧ n < nm + l.length) ∧ look H n = some b) := fun n b h => by
    rw [look_newB] at h
    simp only [Nat.add_zero] at h
    split at h
    · rename_i hc'; exact .inl ⟨hc'.1, hc'.2, h⟩
    · rename_i hc'; exact .inr ⟨hc', h⟩
  refine ⟨fun n b h => ?_, fun n b h => ?_, fun n b h => ?_, fun n m b c h1 h2 e => ?_, fun n b h => ?_, hr.keep, hr.tabs, fun n b h x hxt => ?_⟩
  · rcases cs n b h with ⟨h1, h2, _⟩ | ⟨_, h1⟩
    · omega
    · exact hr.dom n b h1
  · rcases cs n b h with ⟨h1, h2, h3⟩ | ⟨_, h1⟩
    · exact fun v hv => (hc b (List.mem_of_getElem? h3) v hv).bnd nx
    · exact hr.bnd n b h1
  · rcases cs n b h with ⟨h1, h2, h3⟩ | ⟨h0, h1⟩
    · simp only [if_pos (show nm ≤ n ∧ n < nm + l.length from ⟨h1, h2⟩)]
      rw [hm _ b h3, map_clo (hc b (List.mem_of_getElem? h3))]
    · simp only [if_neg h0]
      rw [hr.mem n b h1]
      congr 3
      exact List.map_congr_left fun v hv => (hold n b h1).2.2 v hv _ _ hag
  · rcases cs n b h1 with ⟨a1, a2, a3⟩ | ⟨a0, a1⟩ <;> rcases cs m c h2 with ⟨b1, b2, b3⟩ | ⟨b0, b1⟩
    · simp only [if_pos (show nm ≤ n ∧ n < nm + l.length from ⟨a1, a2⟩), if_pos (show nm ≤ m ∧ m < nm + l.length from ⟨b1, b2⟩)] at e
      have := hi _ _ (by omega) (by omega) e
      omega
    · simp only [if_pos (show nm ≤ n ∧ n < nm + l.length from ⟨a1, a2⟩), if_neg b0] at e
      have h3 := hS2 (n - nm) (by omega)
      have h4 := (hold m c b1).1
      omega
    · simp only [if_neg a0, if_pos (show nm ≤ m ∧ m < nm + l.length from ⟨b1, b2⟩)] at e
      have h3 := hS2 (m - nm) (by omega)
      have h4 := (hold n b a1).1
      omega
    · simp only [if_neg a0, if_neg b0] at e
      exact hr.inj n m b c a1 b1 e
  · rcases cs n b h with ⟨h1, h2, h3⟩ | ⟨h0, h1⟩
    · simp only [if_pos (show nm ≤ n ∧ n < nm + l.length from ⟨h1, h2⟩)]
      have := hS2 (n - nm) (by omega)
      exact .inl (by omega)
    · simp only [if_neg h0]
      exact hr.own n b h1
  · rcases cs n b h with ⟨h1, h2, h3⟩ | ⟨h0, h1⟩
    · simp only [if_pos (show nm ≤ n ∧ n < nm + l.length from ⟨h1, h2⟩)]
      have := hS2 (n - nm) (by omega)
      have := htS x hxt
      omega
    · simp only [if_neg h0]
      exact hr.ntab n b h1 x hxt

theorem goes_call {c : Call} {x : Operand} {f : FuncId} {first cap : List Value} {s : HSpec} {rc : Rc} (ho : o.op = .call c) (hc : c.callee = .value x) (hx : evOk x = true) (ha : ∀ y ∈ c.args.toList, evOk y = true)
    (hv : ev T x = .func (.func f) ⟨first⟩ ⟨cap⟩) (hs : SOK P f s) (hnx : nm + 16 ≤ nx) (h : callRc nm s (first ++ c.args.toList.map (ev T) ++ cap) H = some rc) (hneed : rc.need = true) : Goes P o nm nx T H rc.r := by
  generalize hvs : first ++ c.args.toList.map (ev T) ++ cap = vs at h
  unfold callRc at h
  cases h1 : vs.all argOk with
  | false => simp [h1] at h
  | true =>
    simp only [h1, cond_true] at h
    rw [List.all_eq_true] at h1
    generalize hns : dedup (vs.filterMap ptrN) = ns at h
    have hd : ns.Nodup := by rw [← hns]; exact nodup_dedup _
    have hmem : ∀ v ∈ vs, ∀ n, ptrN v = some n → n ∈ ns := fun v hv n hn => by
      rw [← hns, mem_dedup]
      exact List.mem_filterMap.2 ⟨v, hv, hn⟩
    split at h
    · rename_i bl hb
      cases h2 : bl.all Blk.clo with
      | false => simp [h2] at h
      | true =>
        simp only [h2, cond_true] at h
        rw [List.all_eq_true] at h2
        split at h
        · rename_i n v bl' hsp
          obtain ⟨fn, hf1, hf2, hf3⟩ := hs.enter
          obtain ⟨hl, hget⟩ := getB_get hb
          have CALL : n = true → ∀ (W0 : World) (out : Nat → Prop) (g : Nat → Nat) (a : Act) (w : World), TRel g T nx a → HRel W0 out g H nx w →
              (execOp a.eval o).run P w = .ok (.enter f ⟨vs.map (ren g)⟩) w ∧ Calls P f ⟨vs.map (ren g)⟩ w fun e w' => ∃ g2 : Nat → Nat, (∀ i n, ns[i]? = some n → g2 i = g n) ∧ e = .returned (ren g2 v) ∧
                (∀ i b, bl'[i]? = some b → w'.heap[g2 i]? = some (.cells ⟨b.cells⟩ b.ty (0, 0))) ∧ (∀ i, bl.length ≤ i → i < bl'.length → w.heap.size ≤ g2 i) ∧
                (∀ i j, bl.length ≤ i → i < bl'.length → bl.length ≤ j → j < bl'.length → g2 i = g2 j → i = j) ∧ Keep w (fun k => ∃ n ∈ ns, k = g n) w' := fun hn W0 out g a w tr hr => by
            subst hn
            have hrun := run_callv (w := w) ho hc hx ha tr hv hf1 hf2 hf3
            rw [hvs] at hrun
            refine ⟨hrun, ?_⟩
            let g' : Nat → Nat := fun i => g (ns.getD i 0)
            have hg' : ∀ (i n : Nat), ns[i]? = some n → g' i = g n := fun i n hi => by simp [g', List.getD_eq_getElem?_getD, hi]
            have hargs : (vs.map (canV ns)).map (ren g') = vs.map (ren g) := by
              rw [List.map_map]
              exact List.map_congr_left fun v hv => can_ren g g' hg' (h1 v hv) (hmem v hv)
            have := hs.run (vs.map (canV ns)) bl v bl' hsp (fun b hb => Blk.clo_spec (h2 b hb)) g' w
              (fun i b hi => by
                obtain ⟨n, hn1, hn2⟩ := hget i b hi
                rw [hg' i n hn1, hr.mem n b hn2, map_clo (Blk.clo_spec (h2 b (List.mem_of_getElem? hi)))])
              (fun i j hi hj e => by
                obtain ⟨n, hn1, hn2⟩ := hget i bl[i] (List.getElem?_eq_getElem hi)
                obtain ⟨m, hm1, hm2⟩ := hget j bl[j] (List.getElem?_eq_getElem hj)
                rw [hg' i n hn1, hg' j m hm1] at e
                have := hr.inj n m _ _ hn2 hm2 e
                subst this
                rw [List.getElem?_eq_getElem (by omega)] at hn1 hm1
                injection hn1 with hn1
                injection hm1 with hm1
                exact nodup_inj hd (by omega) (by omega) (hn1.trans hm1.symm)) hr.tabs
              (fun i hi x hx => by
                obtain ⟨n, hn1, hn2⟩ := hget i bl[i] (List.getElem?_eq_getElem hi)
                rw [hg' i n hn1]
                exact hr.ntab n _ hn2 x hx)
            rw [hargs] at this
            refine this.mono fun e w' ⟨g2, hag, he, hmm, hfr, hin, hkk⟩ => ⟨g2, fun i n hi => ?_, he, hmm, hfr, hin, ⟨hkk.os, hkk.tape, hkk.output, hkk.size, fun k hk1 hk2 => hkk.block k hk1 ?_⟩⟩
            · rw [hag i (by have := (List.getElem?_eq_some_iff.1 hi).1; omega), hg' i n hi]
            · rintro ⟨i, hi, rfl⟩
              have hi' : i < ns.length := by omega
              exact hk2 ⟨ns[i], List.getElem_mem hi', hg' i _ (List.getElem?_eq_getElem hi')⟩
          cases h3 : (clo 8 v && sameTy bl bl' && bl'.all Blk.clo) with
          | true =>
            simp only [h3, cond_true, Option.some.injEq] at h
            subst h
            simp only [Bool.and_eq_true, List.all_eq_true] at h3
            obtain ⟨⟨hcv, hty⟩, hcb⟩ := h3
            refine ⟨fun W0 out g a w next Q tr hr fr k => ?_⟩
            obtain ⟨hrun, hcall⟩ := CALL hneed W0 out g a w tr hr
            unfold Oper.wp
            rw [hrun, Oper.upon_enter]
            refine hcall.mono fun e w' ⟨g2, hag, he, hmm, _, _, hk'⟩ => ?_
            have hcl := clo_spec 8 v hcv
            rw [hcl g2] at he
            subst he
            have hrel := call_rel hr hd hb hty (fun b hb => Blk.clo_spec (hcb b hb)) (fun i n b hi hb' => by rw [← hag i n hi]; exact hmm i b hb') hk'
            have := k g w' (fun _ _ => rfl) tr hrel (hcl.bnd nx)
            rw [hcl g] at this
            exact this
          | false =>
            cases h4 : (okN bl'.length 8 v && sameTyP bl bl' && bl'.all Blk.clo && Nat.ble bl'.length (bl.length + 16)) with
            | false => simp [h3, h4] at h
            | true =>
              simp only [h3, h4, cond_true, cond_false, Option.some.injEq] at h
              subst h
              simp only [Bool.and_eq_true, List.all_eq_true] at h4
              obtain ⟨⟨⟨hok, hty0⟩, hcb⟩, hle0⟩ := h4
              obtain ⟨hle, hty⟩ := sameTyP_spec hty0
              have hle16 : bl'.length ≤ bl.length + 16 := Nat.le_of_ble_eq_true hle0
              refine ⟨fun W0 out g a w next Q tr hr fr k => ?_⟩
              obtain ⟨hrun, hcall⟩ := CALL hneed W0 out g a w tr hr
              unfold Oper.wp
              rw [hrun, Oper.upon_enter]
              refine hcall.mono fun e w' ⟨g2, hag, he, hmm, hfr, hin, hk'⟩ => ?_
              subst he
              have hcb' : ∀ b ∈ bl', ∀ c ∈ b.cells, Clo c := fun b hb => Blk.clo_spec (hcb b hb)
              have hrel := call_rel hr hd hb hty (fun b hb => hcb' b (List.mem_of_mem_take hb)) (fun i n b hi hb' => by
                rw [← hag i n hi]
                refine hmm i b ?_
                rw [List.getElem?_take] at hb'
                split at hb'
                · exact hb'
                · cases hb') hk'
              have hnsl : ns.length = bl.length := hl.symm
              have hrel2 := new_rel (nm := nm) (S := w.heap.size) (g2 := fun j => g2 (bl.length + j)) (l := bl'.drop bl.length) hrel hnx (by simp; omega)
                (fun n b hn => by
                  have hold : ∃ c, look H n = some c := by
                    by_cases hin' : n ∈ ns
                    · obtain ⟨i, hi, rfl⟩ := List.getElem_of_mem hin'
                      obtain ⟨m', hm1, hm2⟩ := hget i bl[i] (List.getElem?_eq_getElem (by omega))
                      rw [List.getElem?_eq_getElem hi] at hm1
                      injection hm1 with hm1
                      exact ⟨_, by rw [hm1]; exact hm2⟩
                    · rw [look_app _ _ (fun b hb => hin' (List.of_mem_zip hb).1)] at hn
                      exact ⟨b, hn⟩
                  obtain ⟨c', hc'⟩ := hold
                  refine ⟨lt_of_heap (hr.mem n c' hc'), (fr.h n c' hc').1, fun u hu => ?_⟩
                  by_cases hin' : n ∈ ns
                  · have hz : ∃ b0 ∈ bl', b = b0 := by
                      obtain ⟨i, hi, rfl⟩ := List.getElem_of_mem hin'
                      have hfst : (ns.zip (bl'.take bl.length)).map (·.1) = ns := zip_fst _ _ (by simp; omega)
                      have hz0 : i < (ns.zip (bl'.take bl.length)).length := by rw [List.length_zip]; simp; omega
                      have hz1 := List.getElem_mem hz0
                      rw [List.getElem_zip] at hz1
                      rw [look_app_mem _ _ (by rw [hfst]; exact hd) hz1] at hn
                      injection hn with hn
                      exact ⟨_, List.mem_of_mem_take (List.getElem_mem _), hn.symm⟩
                    obtain ⟨b0, hb0, rfl⟩ := hz
                    exact ((hcb' _ hb0 u hu).bnd nm).fr
                  · rw [look_app _ _ (fun b hb => hin' (List.of_mem_zip hb).1)] at hn
                    exact (fr.h n b hn).2 u hu)
                hr.keep.size (fun x hx => by obtain ⟨o', h1', _⟩ := hr.tabs x hx; exact lt_of_heap h1') (fun b hb => hcb' b (List.mem_of_mem_drop hb))
                (fun j b hj => by rw [List.getElem?_drop] at hj; exact hmm _ b hj) (fun j hj => hfr _ (by omega) (by simp at hj; omega))
                (fun i j hi hj e => by simp at hi hj; have := hin _ _ (by omega) (by omega) (by omega) (by omega) e; omega)
              have hsig : ∀ i, i < bl'.length → (fun n => if nm ≤ n ∧ n < nm + (bl'.drop bl.length).length then g2 (bl.length + (n - nm)) else g n) (sig ns nm i) = g2 i := fun i hi => by
                unfold sig
                cases hns' : ns[i]? with
                | some n =>
                  have hib : i < bl.length := by have := (List.getElem?_eq_some_iff.1 hns').1; omega
                  obtain ⟨m', hm1, hm2⟩ := hget i bl[i] (List.getElem?_eq_getElem hib)
                  rw [hns'] at hm1
                  injection hm1 with hm1
                  rw [← hm1] at hm2
                  have := (fr.h n _ hm2).1
                  simp only [List.length_drop]
                  rw [if_neg (by omega), hag i n hns']
                | none =>
                  have : ns.length ≤ i := List.getElem?_eq_none_iff.1 hns'
                  simp only [List.length_drop]
                  rw [if_pos (by omega)]
                  congr 1
                  omega
              have hval := okN_comp (g := fun n => if nm ≤ n ∧ n < nm + (bl'.drop bl.length).length then g2 (bl.length + (n - nm)) else g n) (h := sig ns nm) (k := g2) hsig 8 v hok
              have hbv : Bnd nx (ren (sig ns nm) v) := fun q q' e => by
                have hq : ∀ i, i < bl'.length → sig ns nm i < nx := fun i hi => by
                  unfold sig
                  cases hns' : ns[i]? with
                  | some n =>
                    have hib : i < bl.length := by have := (List.getElem?_eq_some_iff.1 hns').1; omega
                    obtain ⟨m', hm1, hm2⟩ := hget i bl[i] (List.getElem?_eq_getElem hib)
                    rw [hns'] at hm1
                    injection hm1 with hm1
                    rw [← hm1] at hm2
                    exact hr.dom n _ hm2
                  | none =>
                    have : ns.length ≤ i := List.getElem?_eq_none_iff.1 hns'
                    simp only
                    omega
                rw [okN_comp (k := fun i => q (sig ns nm i)) (fun i _ => rfl) 8 v hok, okN_comp (k := fun i => q (sig ns nm i)) (fun i hi => (e _ (hq i hi)).symm) 8 v hok]
              have hg3 : ∀ n, n < nm ∨ nm + 16 ≤ n → g n = (fun n => if nm ≤ n ∧ n < nm + (bl'.drop bl.length).length then g2 (bl.length + (n - nm)) else g n) n := fun n hn => by
                simp only [List.length_drop]
                rw [if_neg (by omega)]
              have htr : TRel (fun n => if nm ≤ n ∧ n < nm + (bl'.drop bl.length).length then g2 (bl.length + (n - nm)) else g n) T nx a :=
                ⟨by rw [tr.tm]; congr 1; exact List.map_congr_left fun u hu => fr.t u hu _ _ hg3, tr.df, tr.tb⟩
              have := k _ w' hg3 htr (by show HRel W0 out _ (app (_ ++ _) H) nx w'; rw [app_append]; exact hrel2) hbv
              rw [hval] at this
              exact this
        · simp at h
    · simp at h
end
end RX
