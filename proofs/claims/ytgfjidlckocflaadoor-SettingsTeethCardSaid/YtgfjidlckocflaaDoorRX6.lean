/- RX, part 6: every operation of 'effOp' goes as it tells. -/
import Derived.Test.YtgfjidlckocflaaDoorRX5
namespace RX
open Go Go.RowKit

section
variable {P : Program} {o : Oper} {nm nx : Nat} {T : List Value} {H : Heap}

theorem ren_effUn (g : Nat → Nat) {op : UnOp} {x v : Value} (h : effUn op x = some v) : ren g x = x ∧ Clo v ∧ ∀ w, (Op.unary op x).run P w = .ok v w := by
  unfold effUn at h
  split at h
  · cases op <;> simp only [Option.some.injEq, reduceCtorEq] at h <;> subst h
    · exact ⟨by simp, fun g => by simp, fun w => by simp [Op.unary, Op.intArith]⟩
    · exact ⟨by simp, fun g => by simp, fun w => by simp [Op.unary, Op.intBits, bitsOf]⟩
  · cases op <;> simp only [Option.some.injEq, reduceCtorEq] at h
    subst h
    exact ⟨by simp, fun g => by simp, fun w => by simp [Op.unary]⟩
  · simp at h
theorem ren_effConv (g : Nat → Nat) {s d : TypeId} {x v : Value} (h : effConv P s d x = some v) : ren g x = x ∧ Clo v ∧ ∀ w, (convert s d x).run P w = .ok v w := by
  unfold effConv at h
  split at h
  · split at h
    · rename_i h1 h2
      injection h with h; subst h
      exact ⟨by simp, fun g => by simp, fun w => by simp [convert, run_underlying h1, run_underlying h2, Conv.intToInt]⟩
    · simp at h
  · split at h
    · rename_i h1 h2
      injection h with h; subst h
      exact ⟨by simp, fun g => by simp, fun w => by simp [convert, run_underlying h1, run_underlying h2]⟩
    · simp at h
  · simp at h
theorem lenA_run (g : Nat → Nat) {t : TypeId} {ts : List TypeId} {x v : Value} {r : List Value} (h : lenA P t x = some v) : Clo v ∧ ∀ ty w, (Builtin.len_ ⟨t :: ts⟩ ty ⟨ren g x :: r⟩).run P w = .ok v w := by
  unfold lenA at h
  split at h
  · split at h
    · rename_i hu
      injection h with h; subst h
      exact ⟨fun g => by simp, fun ty w => by simp [Builtin.len_, run_underlying hu, goInt]⟩
    · simp at h
  · rename_i a n c
    split at h
    · rename_i hu
      injection h with h; subst h
      refine ⟨fun g => by simp, fun ty w => ?_⟩
      rcases a with _ | ⟨b', o', _ | s'⟩ <;> simp [Builtin.len_, run_underlying hu, goInt]
    · simp at h
  · simp at h
theorem minA_run (mx : Bool) : ∀ (xs : List Value) (k : IntKind) (x : Int) (v : Value), minA mx (.int k x) xs = some v →
    (∀ g, xs.map (ren g) = xs) ∧ Clo v ∧ ∀ w : World, (xs.foldlM (if mx = true then Builtin.max2 else Builtin.min2) (.int k x)).run P w = .ok v w
  | [], k, x, v, h => by
    simp only [minA, Option.some.injEq] at h
    subst h
    exact ⟨fun g => rfl, fun g => by simp, fun w => by simp⟩
  | y :: ys, k, x, v, h => by
    cases y with
    | int k' y =>
      simp only [minA] at h
      cases hk : kbeq k k' with
      | false => simp [hk] at h
      | true =>
        have := kbeq_eq hk
        subst this
        simp only [hk, cond_true] at h
        obtain ⟨h1, h2, h3⟩ := minA_run mx ys k _ v h
        refine ⟨fun g => by simp [h1 g], h2, fun w => ?_⟩
        cases mx with
        | true => simpa [Builtin.max2] using h3 w
        | false => simpa [Builtin.min2] using h3 w
    | _ => simp [minA] at h
theorem effBuiltin_run (g : Nat → Nat) {b : Builtin} {ts : List TypeId} {xs : List Value} {v : Value} (h : effBuiltin P b ts xs = some v) :
    Clo v ∧ ∀ (ty : TypeId) (cs : Array Bool) (w : World), (builtin b ⟨ts⟩ ty cs ⟨xs.map (ren g)⟩).run P w = .ok (.value v) w := by
  unfold effBuiltin at h
  split at h
  · split at h
    · rename_i t ts' x xs'
      obtain ⟨h1, h2⟩ := lenA_run (P := P) g (ts := ts') (r := xs'.map (ren g)) h
      exact ⟨h1, fun ty cs w => by simp [builtin, h2]⟩
    · simp at h
  · split at h
    · rename_i k x r
      obtain ⟨h1, h2, h3⟩ := minA_run (P := P) false r k x v h
      refine ⟨h2, fun ty cs w => ?_⟩
      have := h3 w
      simp only [Bool.false_eq_true, if_false] at this
      simp [builtin, Builtin.min_, h1 g, this]
    · simp at h
  · split at h
    · rename_i k x r
      obtain ⟨h1, h2, h3⟩ := minA_run (P := P) true r k x v h
      refine ⟨h2, fun ty cs w => ?_⟩
      have := h3 w
      simp only [if_true] at this
      simp [builtin, Builtin.max_, h1 g, this]
    · simp at h
  · simp at h

theorem eqOk_ren (g : Nat → Nat) (t : TypeId) (x : Value) : eqOk P t (ren g x) = eqOk P t x := by
  cases x with
  | agg cs => obtain ⟨l⟩ := cs; simp [eqOk]
  | pointer a => rcases a with _ | ⟨b', o', _ | s'⟩ <;> simp [eqOk]
  | slice a l c => rcases a with _ | ⟨b', o', _ | s'⟩ <;> simp [eqOk]
  | func fn f c => obtain ⟨f⟩ := f; obtain ⟨c⟩ := c; simp [eqOk]
  | tuple cs => obtain ⟨l⟩ := cs; simp [eqOk]
  | _ => simp [ren, eqOk]
theorem eqv_ren (g : Nat → Nat) : ∀ (d : Nat) (t : TypeId) (x y : Value) (b : Bool), eqv P d t x y = some b → eqv P d t (ren g x) (ren g y) = some b := by
  intro d
  induction d with
  | zero => intro t x y b h; simp [eqv] at h
  | succ d ih =>
    intro t x y b h
    unfold eqv at h ⊢
    split at h
    · split at h
      · simp [*]
      · simp at h
    · split at h
      · simp [*]
      · simp at h
    · split at h
      · simp [*]
      · simp at h
    · rename_i fs hu
      split at h
      · rename_i xs ys
        cases hs : P.stoodInHeld t with
        | true => simp [hs] at h
        | false =>
          simp only [hs, cond_false] at h
          simp only [ren_agg, cond_false]
          have key : ∀ (l : List Field) (b : Bool), eqf P (eqv P d) xs ys l = some b → eqf P (eqv P d) (xs.map (ren g)) (ys.map (ren g)) l = some b := by
            intro l
            induction l with
            | nil => intro b h; simpa [eqf] using h
            | cons f l ihl =>
              intro b h
              unfold eqf at h ⊢
              cases hn : (f.name == "_") with
              | true => simp [hn] at h
              | false =>
                simp only [hn, cond_false] at h ⊢
                split at h
                · rename_i u v hu' hv'
                  simp only [partA_ren g hu', partA_ren g hv']
                  split at h
                  · rename_i r hr
                    simp only [ih _ _ _ _ hr]
                    split at h
                    · exact h
                    · rename_i l' hl'
                      split at h
                      · rename_i r' hr'
                        have := ihl _ hr'
                        cases l with
                        | nil => exact absurd rfl hl'
                        | cons f2 l2 => simp only [this]; exact h
                      · simp at h
                  · simp at h
                · simp at h
          exact key _ _ h
      · simp at h
    · simp at h
theorem binA_ren (g : Nat → Nat) {t : TypeId} {op : BinOp} {x y : Value} {n : Bool} {v : Value} (h : binA P t op x y = some (n, v)) : binA P t op (ren g x) (ren g y) = some (n, v) ∧ Clo v := by
  cases x with
  | int k a =>
    cases y with
    | int k' b =>
      refine ⟨by simpa using h, ?_⟩
      have key : ∀ op, (bif kbeq k k' then binI k a b op else none) = some (n, v) → Clo v := fun op h g => by
        cases hk : kbeq k k' with
        | false => simp [hk] at h
        | true =>
          simp only [hk, cond_true] at h
          cases op <;> simp only [binI, Option.some.injEq, Prod.mk.injEq, reduceCtorEq] at h <;> (obtain ⟨_, rfl⟩ := h; simp)
      cases op <;> first
        | exact key _ h
        | (simp only [binA, Option.some.injEq, Prod.mk.injEq] at h; obtain ⟨_, rfl⟩ := h; exact fun g => by simp)
    | _ => simp [binA] at h
  | string a =>
    cases y with
    | string b =>
      refine ⟨by simpa using h, ?_⟩
      simp only [binA] at h
      cases op <;> simp only [binS, Option.some.injEq, Prod.mk.injEq, reduceCtorEq] at h <;> (obtain ⟨_, rfl⟩ := h; exact fun g => by simp)
    | _ => simp [binA] at h
  | bool a =>
    cases y with
    | bool b =>
      refine ⟨by simpa using h, ?_⟩
      cases hb : isBoolT P t with
      | false => simp [binA, hb] at h
      | true => cases op <;> simp only [binA, hb, cond_true, Option.some.injEq, Prod.mk.injEq, reduceCtorEq] at h <;> (obtain ⟨_, rfl⟩ := h; exact fun g => by simp)
    | _ => simp [binA] at h
  | agg xs =>
    cases y with
    | agg ys =>
      obtain ⟨xs⟩ := xs
      obtain ⟨ys⟩ := ys
      cases op <;> simp only [binA, Option.map_eq_some_iff, Prod.mk.injEq, reduceCtorEq] at h
      · obtain ⟨b, hb, rfl, rfl⟩ := h
        have := eqv_ren g _ _ _ _ _ hb
        rw [ren_agg, ren_agg] at this
        exact ⟨by simp [binA, this], fun g => by simp⟩
      · obtain ⟨b, hb, rfl, rfl⟩ := h
        have := eqv_ren g _ _ _ _ _ hb
        rw [ren_agg, ren_agg] at this
        exact ⟨by simp [binA, this], fun g => by simp⟩
    | _ => simp [binA] at h
  | _ => simp [binA] at h

theorem goes_index {t : TypeId} {x i : Operand} {u v : Value} {rc : Rc} (ho : o.op = .indexAddr t x i) (hx : evOk x = true) (hi : evOk i = true) (hu : ev T x = u) (hv : ev T i = v) (h : effIndexAddr P t u v = some rc) (hn : rc.need = true) : Goes P o nm nx T H rc.r := by
  unfold effIndexAddr at h
  split at h
  · rename_i b off len cap k n
    split at h
    · rename_i e ht
      split at h
      · rename_i s hs
        injection h with h; subst h
        simp only [Bool.and_eq_true, decide_eq_true_eq] at hn
        refine Goes.pure fun W0 out g a w tr hr => ⟨?_, ?_⟩
        · have := tr.bndEv x
          rw [hu] at this
          intro g1 g2 e12
          have := this g1 g2 e12
          simp only [ren_slice, Value.slice.injEq, Option.some.injEq, Addr.mk.injEq, and_true] at this
          simp [this]
        · have hex : a.eval x = .slice (some ⟨g b, off, none⟩) len cap := by rw [tr.eval hx, hu]; simp
          have hei : a.eval i = .int k n := by rw [tr.eval hi, hv]; simp
          simp [execOp, ho, hex, hei, Instr.indexAt, asIntOf, run_underlying ht, run_size hs, hn.1, hn.2, add_plain]
      · simp at h
    · simp at h
  · rename_i b off k n
    split at h
    · rename_i len e ht
      split at h
      · rename_i s hs
        injection h with h; subst h
        simp only [Bool.and_eq_true, decide_eq_true_eq] at hn
        refine Goes.pure fun W0 out g a w tr hr => ⟨?_, ?_⟩
        · have := tr.bndEv x
          rw [hu] at this
          intro g1 g2 e12
          have := this g1 g2 e12
          simp only [ren_ptr, Value.pointer.injEq, Option.some.injEq, Addr.mk.injEq, and_true] at this
          simp [this]
        · have hex : a.eval x = .pointer (some ⟨g b, off, none⟩) := by rw [tr.eval hx, hu]; simp
          have hei : a.eval i = .int k n := by rw [tr.eval hi, hv]; simp
          simp [execOp, ho, hex, hei, Instr.indexAt, Instr.sureAddr, asIntOf, run_underlying ht, run_size hs, hn.1, hn.2, add_plain]
      · simp at h
    · simp at h
  · simp at h

theorem goes_elem {t : TypeId} {x i : Operand} {u v : Value} {rc : Rc} (ho : o.op = .index t x i) (hx : evOk x = true) (hi : evOk i = true) (hu : ev T x = u) (hv : ev T i = v) (h : effIndex P t u v = some rc) (hn : rc.need = true) : Goes P o nm nx T H rc.r := by
  unfold effIndex at h
  split at h
  · rename_i C k n
    split at h
    · rename_i len e ht
      split at h
      · rename_i s hs
        split at h
        · rename_i y hy
          injection h with h; subst h
          simp only [Bool.and_eq_true, decide_eq_true_eq] at hn
          refine Goes.pure fun W0 out g a w tr hr => ⟨partA_mem hy (by have := tr.bndEv x; rw [hu] at this; exact this.of_agg), ?_⟩
          have hex : a.eval x = .agg ⟨C.map (ren g)⟩ := by rw [tr.eval hx, hu]; simp
          have hei : a.eval i = .int k n := by rw [tr.eval hi, hv]; simp
          simp [execOp, ho, hex, hei, Instr.index, asIntOf, run_underlying ht, run_size hs, hn.1, hn.2, run_part (partA_ren g hy)]
        · simp at h
      · simp at h
    · simp at h
  · rename_i s k n
    split at h
    · rename_i ht
      injection h with h; subst h
      simp only [Bool.and_eq_true, decide_eq_true_eq] at hn
      refine Goes.pure fun W0 out g a w tr hr => ⟨fun g1 g2 _ => by simp, ?_⟩
      have hex : a.eval x = .string s := by rw [tr.eval hx, hu]; simp
      have hei : a.eval i = .int k n := by rw [tr.eval hi, hv]; simp
      have hlt : n.toNat < s.size := by omega
      have hb : s[n.toNat]? = some (s.data.toList.getD n.toNat 0) := by
        rw [getElem?_pos s n.toNat hlt]
        congr 1
        have : n.toNat < s.data.toList.length := by simpa using hlt
        rw [List.getD_eq_getElem?_getD, List.getElem?_eq_getElem this]
        rfl
      simp only [execOp, ho, hex, hei, Instr.index, asIntOf, Sem.run_bind, Sem.run_pure, Result.andThen_ok, run_underlying ht, hn.1, if_true, hb, ren_int]
    · simp at h
  · simp at h

theorem goes_op (hn : nm + 16 ≤ nx) {rc : Rc} (h : effOp P nm o T H = some rc) (hneed : rc.need = true) : Goes P o nm nx T H rc.r := by
  unfold effOp at h
  cases hall : o.op.operands.toList.all evOk with
  | false => simp [hall] at h
  | true =>
    simp only [hall, cond_true] at h
    rw [List.all_eq_true] at hall
    split at h
    · rename_i x ho
      have hx : evOk x = true := hall x (by simp [ho, Op.operands])
      have := Rc.of_inv h; subst this
      exact Goes.pure fun W0 out g a w tr hr => ⟨tr.bndEv x, by simp [execOp, ho, tr.eval hx]⟩
    · rename_i x ho
      have hx : evOk x = true := hall x (by simp [ho, Op.operands])
      have := Rc.of_inv h; subst this
      exact Goes.pure fun W0 out g a w tr hr => ⟨tr.bndEv x, by simp [execOp, ho, tr.eval hx]⟩
    · rename_i c x y ho
      have hc : evOk c = true := hall c (by simp [ho, Op.operands])
      have hx : evOk x = true := hall x (by simp [ho, Op.operands])
      have hy : evOk y = true := hall y (by simp [ho, Op.operands])
      split at h
      · rename_i t ht
        have := Rc.of_inv h; subst this
        refine Goes.pure fun W0 out g a w tr hr => ⟨bnd_pick (tr.bndEv x) (tr.bndEv y), ?_⟩
        have hec : a.eval c = .bool t := by rw [tr.eval hc, ht]; simp
        simp only [execOp, ho, hec, asBool, Sem.run_bind, Sem.run_pure, Result.andThen_ok, tr.eval hx, tr.eval hy, ren_pick]
      · simp at h
    · rename_i t ho
      split at h
      · rename_i z hz
        cases hc : clo 8 z with
        | false => simp [hc] at h
        | true =>
          simp only [hc, cond_true] at h
          have := Rc.of_inv h; subst this
          exact goes_alloc hn ho hz (clo_spec 8 z hc)
      · simp at h
    · rename_i t x ho
      have hx : evOk x = true := hall x (by simp [ho, Op.operands])
      have := Rc.of_inv h; subst this
      exact goes_box hn ho hx
    · rename_i t x ho
      have hx : evOk x = true := hall x (by simp [ho, Op.operands])
      exact goes_load ho hx rfl h hneed
    · rename_i t x y ho
      have hx : evOk x = true := hall x (by simp [ho, Op.operands])
      have hy : evOk y = true := hall y (by simp [ho, Op.operands])
      exact goes_store ho hx hy rfl rfl h hneed
    · rename_i t ps ho
      have hp : ∀ p ∈ ps.toList, evOk p.2 = true := fun p hp => hall p.2 (by simp only [ho, Op.operands]; exact List.mem_map.2 ⟨p, hp, rfl⟩)
      split at h
      · rename_i pl z hpl
        cases hz : z.all (clo 8) with
        | false => simp [hz] at h
        | true =>
          simp only [hz, cond_true] at h
          rw [List.all_eq_true] at hz
          split at h
          · rename_i C hf
            have := Rc.of_inv h; subst this
            have hzc : ∀ c ∈ z, Clo c := fun c hc => clo_spec 8 c (hz c hc)
            refine Goes.pure fun W0 out g a w tr hr => ⟨Bnd.agg fun c hc => ?_, ?_⟩
            · rcases fillA_mem _ _ _ hf c hc with h3 | ⟨p, hpm, h3⟩
              · exact (hzc c h3).bnd nx
              · obtain ⟨q, hq, rfl⟩ := List.mem_map.1 hpm
                exact (tr.bndEv q.2).cells c h3
            · have hparts : (ps.map fun x => match x with | (i, x) => (i, a.eval x)).toList = (ps.toList.map fun x => (x.1, ev T x.2)).map fun x => (x.1, ren g x.2) := by
                rw [Array.toList_map, List.map_map]
                exact List.map_congr_left fun p hpm => by
                  obtain ⟨i, x⟩ := p
                  simp [tr.eval (hp _ hpm)]
              have hm := fillA_map g _ _ _ hf
              have hz' : z.map (ren g) = z := by
                calc z.map (ren g) = z.map id := List.map_congr_left fun c hc => hzc c hc g
                  _ = z := by simp
              rw [hz'] at hm
              have hb := built_of hpl hm
              rw [← hparts] at hb
              simp [execOp, ho, run_build w t _ _ hb]
          · simp at h
      · simp at h
    · rename_i t len ps ho
      have hp : ∀ p ∈ ps.toList, evOk p.2 = true := fun p hp => hall p.2 (by simp only [ho, Op.operands]; exact List.mem_map.2 ⟨p, hp, rfl⟩)
      exact goes_buildSlice hn ho hp h
    · rename_i t x f ho
      have hx : evOk x = true := hall x (by simp [ho, Op.operands])
      unfold effField at h
      split at h
      · rename_i C hC
        split at h
        · rename_i fd hf
          split at h
          · rename_i v hv
            have := Rc.of_inv h; subst this
            obtain ⟨fs, hu, hfs⟩ := run_fieldIn hf
            refine Goes.pure fun W0 out g a w tr hr => ⟨partA_mem hv (by have := tr.bndEv x; rw [hC] at this; exact this.of_agg), ?_⟩
            have hex : a.eval x = .agg ⟨C.map (ren g)⟩ := by rw [tr.eval hx, hC]; simp
            simp [execOp, ho, hex, Instr.field, run_underlying hu, hfs, asAgg, run_part (partA_ren g hv)]
          · simp at h
        · simp at h
      · simp at h
    · rename_i t x f ho
      have hx : evOk x = true := hall x (by simp [ho, Op.operands])
      unfold effFieldAddr at h
      split at h
      · rename_i b off hb
        split at h
        · rename_i fd hf
          split at h
          · rename_i n hs
            have := Rc.of_inv h; subst this
            obtain ⟨fs, hu, hfs⟩ := run_fieldIn hf
            refine Goes.pure fun W0 out g a w tr hr => ⟨?_, ?_⟩
            · have := tr.bndEv x
              rw [hb] at this
              intro g1 g2 e12
              have := this g1 g2 e12
              simp only [ren_ptr, Value.pointer.injEq, Option.some.injEq, Addr.mk.injEq, and_true] at this
              simp [this]
            · have hex : a.eval x = .pointer (some ⟨g b, off, none⟩) := by rw [tr.eval hx, hb]; simp
              simp [execOp, ho, hex, Instr.fieldAt, run_underlying hu, hfs, Instr.sureAddr, fieldPlace, run_size hs, add_plain]
          · simp at h
        · simp at h
      · simp at h
    · rename_i t x i ho
      have hx : evOk x = true := hall x (by simp [ho, Op.operands])
      have hi : evOk i = true := hall i (by simp [ho, Op.operands])
      exact goes_index ho hx hi rfl rfl h hneed
    · rename_i t x i ho
      have hx : evOk x = true := hall x (by simp [ho, Op.operands])
      have hi : evOk i = true := hall i (by simp [ho, Op.operands])
      exact goes_elem ho hx hi rfl rfl h hneed
    · rename_i x i ho
      have hx : evOk x = true := hall x (by simp [ho, Op.operands])
      split at h
      · rename_i vs hvs
        split at h
        · rename_i v hv
          have := Rc.of_inv h; subst this
          refine Goes.pure fun W0 out g a w tr hr => ⟨?_, ?_⟩
          · have := tr.bndEv x
            rw [hvs] at this
            exact this.of_tuple v (List.mem_of_getElem? hv)
          · have hex : a.eval x = .tuple ⟨vs.map (ren g)⟩ := by rw [tr.eval hx, hvs]; simp
            simp [execOp, ho, hex, Instr.extract, hv]
        · simp at h
      · simp at h
    · rename_i x ho
      have hx : evOk x = true := hall x (by simp [ho, Op.operands])
      split at h
      · rename_i ad hv
        have := Rc.of_inv h; subst this
        refine Goes.pure fun W0 out g a w tr hr => ⟨by have := tr.bndEv x; rwa [hv] at this, ?_⟩
        have hex : a.eval x = ren g (.pointer (some ad)) := by rw [tr.eval hx, hv]
        obtain ⟨b', o', _ | s'⟩ := ad <;> simp [execOp, ho, hex]
      · simp at h
    · rename_i op t x y yt ho
      have hx : evOk x = true := hall x (by simp [ho, Op.operands])
      have hy : evOk y = true := hall y (by simp [ho, Op.operands])
      cases hc : (eqOk P t (ev T x) && Nat.ble 10 P.depth) with
      | false => simp [hc] at h
      | true =>
        simp only [hc, cond_true] at h
        simp only [Bool.and_eq_true] at hc
        split at h
        · rename_i n v hb
          injection h with h; subst h
          refine Goes.pure fun W0 out g a w tr hr => ?_
          obtain ⟨h1, h2⟩ := binA_ren g hb
          refine ⟨h2.bnd nx, ?_⟩
          have := run_binA x y (Nat.le_of_ble_eq_true hc.2) h1 hneed (by rw [eqOk_ren]; exact hc.1) w
          simp only [execOp, ho, tr.eval hx, tr.eval hy]
          rw [Sem.run_bind, this]
          simp [h2 g]
        · simp at h
    · rename_i op t x ho
      have hx : evOk x = true := hall x (by simp [ho, Op.operands])
      split at h
      · rename_i v hv
        have := Rc.of_inv h; subst this
        refine Goes.pure fun W0 out g a w tr hr => ?_
        obtain ⟨h1, h2, h3⟩ := ren_effUn (P := P) g hv
        refine ⟨h2.bnd nx, ?_⟩
        simp [execOp, ho, tr.eval hx, h1, h3, h2 g]
      · simp at h
    · rename_i s d x ho
      have hx : evOk x = true := hall x (by simp [ho, Op.operands])
      split at h
      · rename_i v hv
        have := Rc.of_inv h; subst this
        refine Goes.pure fun W0 out g a w tr hr => ?_
        obtain ⟨h1, h2, h3⟩ := ren_effConv (P := P) g hv
        refine ⟨h2.bnd nx, ?_⟩
        simp [execOp, ho, tr.eval hx, h1, h3, h2 g]
      · simp at h
    · rename_i fn f c ho
      have hf : ∀ x ∈ f.toList, evOk x = true := fun x hx => hall x (by simp [ho, Op.operands]; exact .inl (by simpa using hx))
      have hc : ∀ x ∈ c.toList, evOk x = true := fun x hx => hall x (by simp [ho, Op.operands]; exact .inr (by simpa using hx))
      have := Rc.of_inv h; subst this
      refine Goes.pure fun W0 out g a w tr hr => ⟨Bnd.func ?_ ?_, ?_⟩
      · intro v hv; obtain ⟨x, _, rfl⟩ := List.mem_map.1 hv; exact tr.bndEv x
      · intro v hv; obtain ⟨x, _, rfl⟩ := List.mem_map.1 hv; exact tr.bndEv x
      · have e1 : f.map a.eval = ⟨(f.toList.map (ev T)).map (ren g)⟩ := by
          apply Array.toList_inj.1
          rw [Array.toList_map, List.map_map]
          exact List.map_congr_left fun x hx => tr.eval (hf x hx)
        have e2 : c.map a.eval = ⟨(c.toList.map (ev T)).map (ren g)⟩ := by
          apply Array.toList_inj.1
          rw [Array.toList_map, List.map_map]
          exact List.map_congr_left fun x hx => tr.eval (hc x hx)
        simp only [execOp, ho, Instr.makeFunc, e1, e2, ren_func, Sem.run_bind, Sem.run_pure, Result.andThen_ok]
    · rename_i c ho
      split at h
      · rename_i b hb
        split at h
        · rename_i v hv
          have := Rc.of_inv h; subst this
          have hargs : ∀ x ∈ c.args.toList, evOk x = true := fun x hx => hall x (by simp [ho, Op.operands, Call.operands, hb]; simpa using hx)
          refine Goes.pure fun W0 out g a w tr hr => ?_
          have e1 : c.args.map a.eval = ⟨(c.args.toList.map (ev T)).map (ren g)⟩ := by
            apply Array.toList_inj.1
            rw [Array.toList_map, List.map_map]
            exact List.map_congr_left fun x hx => tr.eval (hargs x hx)
          have e2 : c.argTypes = ⟨c.argTypes.toList⟩ := rfl
          obtain ⟨h1, h2⟩ := effBuiltin_run (P := P) g hv
          refine ⟨h1.bnd nx, ?_⟩
          simp only [execOp, ho, resolve, hb, Sem.run_bind, Sem.run_pure, Result.andThen_ok, invoke, e1]
          rw [e2, h2, h1 g]
        · simp at h
      · simp at h
    · simp at h
end
end RX
