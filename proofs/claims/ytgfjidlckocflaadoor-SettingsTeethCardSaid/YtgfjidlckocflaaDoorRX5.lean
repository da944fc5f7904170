/- RX, part 5: what 'effOp' tells is what the machine does. -/
import Derived.Test.YtgfjidlckocflaaDoorRX4
namespace RX
open Go Go.RowKit

section
variable {P : Program} {o : Oper} {nm nx : Nat} {T : List Value} {H : Heap}

theorem bnd_pick {b : Nat} {t : Bool} {x y : Value} (hx : Bnd b x) (hy : Bnd b y) : Bnd b (pickV t x y) := by
  rw [pickV_eq]; split <;> assumption
theorem ren_pick (g : Nat → Nat) (t : Bool) (x y : Value) : ren g (pickV t x y) = if t = true then ren g x else ren g y := by
  rw [pickV_eq]; split <;> rfl

theorem goes_load {t : TypeId} {v : Value} {rc : Rc} {x : Operand} (ho : o.op = .load t x) (hx : evOk x = true) (hv : ev T x = v) (h : effLoad P H t v = some rc) (hneed : rc.need = true) : Goes P o nm nx T H rc.r := by
  unfold effLoad at h
  split at h
  · rename_i b off
    split at h
    · rename_i u hu
      have := Rc.of_inv h; subst this
      refine Goes.pure fun W0 out g a w tr hr => ?_
      unfold loadA at hu
      split at hu
      · rename_i C ty hl
        have hm := hr.mem b _ hl
        refine ⟨partA_mem hu (hr.bnd b _ hl), ?_⟩
        have he : a.eval x = .pointer (some ⟨g b, off, none⟩) := by rw [tr.eval hx, hv]; simp
        simp [execOp, ho, he, Instr.loadAt, Instr.sureAddr, run_loadVar hm (partA_ren g hu)]
      · simp at hu
    · unfold loadI at h
      split at h
      · rename_i k xs ty hl ha
        injection h with h; subst h
        simp only [Nat.blt_eq] at hneed
        refine Goes.pure fun W0 out g a w tr hr => ⟨fun g1 g2 _ => by simp, ?_⟩
        have hm := hr.mem b _ hl
        have he : a.eval x = .pointer (some ⟨g b, off, none⟩) := by rw [tr.eval hx, hv]; simp
        have hv1 : ((Blk.is k xs ty).cells.map (ren g))[off]? = some (.int k (xs.getD off 0)) := by
          simp [Blk.cells, hneed]
        simp only [execOp, ho, he, Instr.loadAt, Instr.sureAddr, loadVar, Sem.run_bind, Sem.run_pure, run_isAgg ha, Result.andThen_ok, Bool.false_eq_true, if_false, run_load1 hm hv1, ren_int]
      · simp at h
  · simp at h
theorem putN_one (x : Value) : ∀ (o : Nat) (C : List Value), o < C.length → putN o [x] C = some (C.set o x)
  | 0, y :: C, _ => by simp [putN]
  | o + 1, y :: C, h => by simp [putN, putN_one x o C (by simpa using h)]
  | o, [], h => by simp at h

theorem goes_store {t : TypeId} {v y : Value} {rc : Rc} {x z : Operand} (ho : o.op = .store t x z) (hx : evOk x = true) (hz : evOk z = true) (hv : ev T x = v) (hy : ev T z = y) (h : effStore P H t y v = some rc) (hneed : rc.need = true) : Goes P o nm nx T H rc.r := by
  unfold effStore at h
  split at h
  · rename_i b off
    split at h
    · rename_i C ty n hl hs
      cases hc : (Nat.beq (cellsL y).length n && (cellsL y).all cellOk) with
      | false => simp [hc] at h
      | true =>
        simp only [hc, cond_true] at h
        simp only [Bool.and_eq_true] at hc
        have hlen := Nat.eq_of_beq_eq_true hc.1
        split at h
        · rename_i C' hp
          have := Rc.of_inv h; subst this
          refine ⟨fun W0 out g a w next Q tr hr fr k => ?_⟩
          have hm := hr.mem b _ hl
          have he : a.eval x = .pointer (some ⟨g b, off, none⟩) := by rw [tr.eval hx, hv]; simp
          have hey : a.eval z = ren g y := by rw [tr.eval hz, hy]
          have hcells : (ren g y).cells = ⟨(cellsL y).map (ren g)⟩ := ren_cells g y
          have hput := putN_map (ren g) _ _ _ _ hp
          have hcl : ∀ u ∈ (cellsL y).map (ren g), (∀ y, u ≠ .agg y) ∧ (∀ y, u ≠ .tuple y) := by
            intro u hu
            obtain ⟨c, hc', rfl⟩ := List.mem_map.1 hu
            rw [List.all_eq_true] at hc
            exact cellOk_ren g c (hc.2 c hc')
          have hrun := run_storeCells (P := P) (off := off) (t := ty) _ w _ _ 0 hm hput hcl
          refine wp_of_run_skip (w' := setBlk w (g b) (.cells ⟨C'.map (ren g)⟩ ty (0, 0))) ?_ ?_
          · simp only [execOp, ho, he, hey, Instr.storeAt, Instr.sureAddr, storeVar, hcells, Sem.run_bind, Sem.run_pure, Result.andThen_ok, run_size hs, List.size_toArray, List.length_map, hlen, ne_eq, not_true_eq_false, if_false, hrun]
          · have hrel := store_rel (c := .cs C' ty) hr hl rfl (fun u hu => by
              rcases putN_mem _ _ _ _ hp u hu with h1 | h1
              · have hb : Bnd nx y := by rw [← hy]; exact tr.bndEv z
                exact hb.cells u h1
              · exact hr.bnd b _ hl u h1)
            have := k g _ (fun _ _ => rfl) tr (by simpa [app, Blk.cells, Blk.ty] using hrel) (Clo.undef.bnd _)
            simpa using this
        · simp at h
    · rename_i k xs ty n hl hs
      split at h
      · rename_i k' v'
        cases hc : (kbeq k k' && Nat.beq n 1) with
        | false => simp [hc] at h
        | true =>
          simp only [hc, cond_true] at h
          simp only [Bool.and_eq_true] at hc
          obtain rfl := kbeq_eq hc.1
          obtain rfl := Nat.eq_of_beq_eq_true hc.2
          injection h with h; subst h
          simp only [Nat.blt_eq] at hneed
          refine ⟨fun W0 out g a w next Q tr hr fr kk => ?_⟩
          have hm := hr.mem b _ hl
          have he : a.eval x = .pointer (some ⟨g b, off, none⟩) := by rw [tr.eval hx, hv]; simp
          have hey : a.eval z = .int k v' := by rw [tr.eval hz, hy]; simp
          have hput : putN off [.int k v'] ((Blk.is k xs ty).cells.map (ren g)) = some (((Blk.is k xs ty).cells.map (ren g)).set off (.int k v')) := putN_one _ _ _ (by simpa [Blk.cells] using hneed)
          have hrun := run_storeCells (P := P) (off := off) (t := ty) [.int k v'] w _ _ 0 hm hput (by simp)
          refine wp_of_run_skip (w' := setBlk w (g b) (.cells ⟨((Blk.is k xs ty).cells.map (ren g)).set off (.int k v')⟩ ty (0, 0))) ?_ ?_
          · have hcells : (Value.int k v').cells = ⟨[.int k v']⟩ := by simp [Value.cells]
            simp only [execOp, ho, he, hey, Instr.storeAt, Instr.sureAddr, storeVar, hcells, Sem.run_bind, Sem.run_pure, Result.andThen_ok, run_size hs, List.size_toArray, List.length_cons, List.length_nil, Nat.zero_add, ne_eq, not_true_eq_false, if_false, hrun]
          · have hrel := store_rel (c := .is k (xs.set off v') ty) hr hl rfl (fun u hu => by
              obtain ⟨m, _, rfl⟩ := List.mem_map.1 hu
              exact fun g1 g2 _ => by simp)
            have he2 : (Blk.is k (xs.set off v') ty).cells.map (ren g) = ((Blk.is k xs ty).cells.map (ren g)).set off (.int k v') := by
              simp [Blk.cells, List.map_set]
            rw [he2] at hrel
            have := kk g _ (fun _ _ => rfl) tr (by simpa [app] using hrel) (Clo.undef.bnd _)
            simpa [Blk.ty] using this
      · simp at h
    · simp at h
  · simp at h

theorem run_alloc {t : TypeId} {z : Value} (h : tZero P t = some z) (w : World) : (Instr.alloc t true (.tuple #[])).run P w = .ok (.pointer (some ⟨w.heap.size, 0, none⟩)) (w.alloc (.cells ⟨cellsL z⟩ t)) := by
  simp [Instr.alloc, run_zero h, newVar, newRow, newObj, Sem.run, cells_eq]

theorem goes_new {b : Blk} {v : Nat → Value} (hn : nm + 16 ≤ nx) (hv : ∀ g : Nat → Nat, ren g (v nm) = v (g nm)) (hb : ∀ (W0 : World) (out : Nat → Prop) (g : Nat → Nat) (a : Act) (w : World), TRel g T nx a → HRel W0 out g H nx w → Fresh nm T H →
      (∀ c ∈ b.cells, Bnd nx c ∧ Fr nm c) ∧ (execOp a.eval o).run P w = .ok (.value (v w.heap.size)) (w.alloc (.cells ⟨b.cells.map (ren g)⟩ b.ty))) : Goes P o nm nx T H ⟨v nm, [], [(nm, b)]⟩ := by
  refine ⟨fun W0 out g a w next Q tr hr fr k => ?_⟩
  obtain ⟨h1, h2⟩ := hb W0 out g a w tr hr fr
  obtain ⟨e, t1, r1⟩ := alloc_rel (nm := nm) (n := nm) (Nat.le_refl _) (by omega) (by omega) tr hr fr h1
  refine wp_of_run h2 ?_
  have hg : gput g nm w.heap.size nm = w.heap.size := by simp [gput]
  have := k _ _ e t1 r1 (fun g1 g2 e12 => by rw [hv, hv, e12 nm (by omega)])
  rw [hv, hg] at this
  exact this

theorem goes_alloc {t : TypeId} {z : Value} (hn : nm + 16 ≤ nx) (ho : o.op = .alloc t) (h : tZero P t = some z) (hc : Clo z) : Goes P o nm nx T H ⟨.pointer (some ⟨nm, 0, none⟩), [], [(nm, .cs (cellsL z) t)]⟩ := by
  refine goes_new (v := fun n => .pointer (some ⟨n, 0, none⟩)) hn (fun g => by simp) fun W0 out g a w tr hr fr => ⟨fun c hcm => ⟨(hc.bnd nx).cells c hcm, ((hc.bnd nm).cells c hcm).fr⟩, ?_⟩
  have e : (cellsL z).map (ren g) = cellsL z := by rw [← cellsL_ren, hc g]
  simp only [execOp, ho, Sem.run_bind, run_alloc h, Result.andThen_ok, Blk.cells, Blk.ty, e, Sem.run_pure]

theorem fr_ev {x : Operand} (fr : Fresh nm T H) : Fr nm (ev T x) := by
  cases x with
  | tmp n =>
    rcases nth_mem_or T n with hm | hu
    · exact fr.t _ hm
    · simp only [ev, hu]; exact fun g g' _ => by simp
  | const v =>
    simp only [ev]
    cases hc : clo 8 v
    · exact fun g g' _ => by simp
    · exact ((clo_spec 8 v hc).bnd nm).fr
  | global n => exact fun g g' _ => by simp [ev]
  | func f => exact fun g g' _ => by simp [ev]
theorem Fr.cells {v : Value} (h : Fr nm v) : ∀ c ∈ cellsL v, Fr nm c := by
  intro c hc g g' e
  have := h g g' e
  have e2 : (cellsL v).map (ren g) = (cellsL v).map (ren g') := by rw [← cellsL_ren, ← cellsL_ren, this]
  exact map_eq_iff e2 c hc

theorem goes_box {t : TypeId} {x : Operand} (hn : nm + 16 ≤ nx) (ho : o.op = .box t x) (hx : evOk x = true) : Goes P o nm nx T H ⟨.pointer (some ⟨nm, 0, none⟩), [], [(nm, .cs (cellsL (ev T x)) t)]⟩ := by
  refine goes_new (v := fun n => .pointer (some ⟨n, 0, none⟩)) hn (fun g => by simp) fun W0 out g a w tr hr fr => ⟨fun c hcm => ⟨(tr.bndEv x).cells c hcm, (fr_ev fr).cells c hcm⟩, ?_⟩
  simp [execOp, ho, Instr.box, newVar, newRow, newObj, Sem.run, tr.eval hx, ren_cells, Blk.cells, Blk.ty]

theorem goes_buildSlice {t : TypeId} {len : Nat} {ps : Array (Nat × Operand)} {rc : Rc} (hn : nm + 16 ≤ nx) (ho : o.op = .buildSlice t len ps) (hp : ∀ p ∈ ps.toList, evOk p.2 = true)
    (h : effBuildSlice P nm t len (ps.toList.map fun x => (x.1, ev T x.2)) = some rc) : Goes P o nm nx T H rc.r := by
  unfold effBuildSlice at h
  split at h
  · rename_i e hu
    split at h
    · rename_i s z hs hz
      cases hc : (Nat.ble (len * s) (2 ^ 24) && Nat.ble 1 (len * s) && clo 8 z) with
      | false => simp [hc] at h
      | true =>
        simp only [hc, cond_true] at h
        simp only [Bool.and_eq_true] at hc
        have h1 : len * s ≤ 2 ^ 24 := Nat.le_of_ble_eq_true hc.1.1
        have h2 : 1 ≤ len * s := Nat.le_of_ble_eq_true hc.1.2
        have hcz := clo_spec 8 z hc.2
        split at h
        · rename_i C hf
          have := Rc.of_inv h; subst this
          refine goes_new (v := fun n => .slice (some ⟨n, 0, none⟩) len len) hn (fun g => by simp) fun W0 out g a w tr hr fr => ⟨?_, ?_⟩
          · intro c hcm
            rcases fillA_mem _ _ _ hf c hcm with h3 | ⟨p, hpm, h3⟩
            · obtain ⟨j, _, rfl⟩ := List.mem_map.1 h3
              have : Clo ((cellsL z).getD (j % (cellsL z).length) default) := by
                rw [List.getD_eq_getElem?_getD]
                cases hg : (cellsL z)[j % (cellsL z).length]? with
                | none => intro g; simp [default, instInhabitedValue.default]
                | some u =>
                  intro g
                  have e : (cellsL z).map (ren g) = cellsL z := by rw [← cellsL_ren, hcz g]
                  have := map_eq_iff (f := ren g) (g := id) (by rw [e]; simp) u (List.mem_of_getElem? hg)
                  simpa using this
              exact ⟨this.bnd nx, (this.bnd nm).fr⟩
            · obtain ⟨q, hq, rfl⟩ := List.mem_map.1 hpm
              exact ⟨(tr.bndEv q.2).cells c h3, (fr_ev fr).cells c h3⟩
          · have hparts : (ps.map fun x => match x with | (i, x) => (i, a.eval x)).toList = (ps.toList.map fun x => (x.1, ev T x.2)).map fun x => (x.1, ren g x.2) := by
              rw [Array.toList_map, List.map_map]
              exact List.map_congr_left fun p hpm => by
                obtain ⟨i, x⟩ := p
                simp [tr.eval (hp _ hpm)]
            have hz0 : ∀ j, ren g ((cellsL z).getD (j % (cellsL z).length) default) = (cellsL z).getD (j % (cellsL z).length) default := by
              intro j
              rw [List.getD_eq_getElem?_getD]
              cases hg : (cellsL z)[j % (cellsL z).length]? with
              | none => simp [default, instInhabitedValue.default]
              | some u =>
                have e : (cellsL z).map (ren g) = cellsL z := by rw [← cellsL_ren, hcz g]
                have := map_eq_iff (f := ren g) (g := id) (by rw [e]; simp) u (List.mem_of_getElem? hg)
                simpa using this
            have hm := fillA_map g _ _ _ hf
            have hm' := fill_eq _ _ _ hm
            have hzz : (Array.range (len * s)).map (fun x => z.cells[x % z.cells.size]!) = ⟨((List.range (len * s)).map fun j => (cellsL z).getD (j % (cellsL z).length) default).map (ren g)⟩ := by
              apply Array.toList_inj.1
              simp only [Array.toList_map, Array.toList_range, List.map_map]
              refine List.map_congr_left fun j _ => ?_
              rw [Function.comp, hz0 j, cells_eq z]
              simp [List.getD_eq_getElem?_getD]
            have hne : ¬ (len * s = 0) := by omega
            have hnb : ¬ (len * s > 2 ^ 24) := by omega
            simp only [execOp, ho, Instr.buildSlice, Sem.run_bind, run_underlying hu, Result.andThen_ok, run_size hs, hnb, if_false, hne, run_zero hz, Sem.run_pure, hzz, hparts, hm', newRow, newObj, Sem.run, Blk.cells, Blk.ty, World.alloc_eq]
        · simp at h
    · simp at h
  · simp at h
end
end RX
