/- Boxes of directions and Snell's law with intervals: the plain functions and their laws. -/
import Derived.Test.YtphlckkbihmlnaaSq
namespace Go.Proofs.Ytphlckkbihmlnaa.G
open Go
set_option linter.unusedVariables false
inductive Re (α : Type) where
  | er (e : Int) : Re α
  | ok (a : α) : Re α
def Re.bind {α β : Type} (r : Re α) (k : α → Re β) : Re β := match r with | .er e => .er e | .ok a => k a
theorem bind_er {α β : Type} (e : Int) (k : α → Re β) : (Re.er e).bind k = .er e := rfl
theorem bind_ok {α β : Type} (a : α) (k : α → Re β) : (Re.ok a).bind k = k a := rfl
theorem bind_inv {α β : Type} {r : Re α} {k : α → Re β} {b : β} (h : r.bind k = .ok b) : ∃ a, r = .ok a ∧ k a = .ok b := by
  cases r with
  | er e => cases h
  | ok a => exact ⟨a, rfl, h⟩
abbrev I2 := Int × Int
abbrev Bx := I2 × I2 × I2
def t3 (r : Int × Int × Int) : Re I2 := bif r.2.2 != 0 then .er r.2.2 else .ok (r.1, r.2.1)
def o3 : Re I2 → Int × Int × Int
  | .er e => (0, 0, e)
  | .ok x => (x.1, x.2, 0)
def o7 : Re Bx → Int × Int × Int × Int × Int × Int × Int
  | .er e => (0, 0, 0, 0, 0, 0, e)
  | .ok x => (x.1.1, x.1.2, x.2.1.1, x.2.1.2, x.2.2.1, x.2.2.2, 0)
theorem t3_ok {a b : Int} : t3 (a, b, 0) = .ok (a, b) := rfl
theorem t3_er {a b e : Int} (h : e ≠ 0) : t3 (a, b, e) = .er e := by simp [t3, bne_of h]
theorem t3_inv {r : Int × Int × Int} {x : I2} (h : t3 r = .ok x) : r = (x.1, x.2, 0) := by
  obtain ⟨a, b, e⟩ := r
  by_cases he : e = 0
  · subst he; rw [t3_ok] at h; injection h with h; subst h; rfl
  · rw [t3_er he] at h; cases h
def addR (x y : I2) : Re I2 := t3 (iadd x.1 x.2 y.1 y.2)
def subR (x y : I2) : Re I2 := t3 (isub x.1 x.2 y.1 y.2)
def mulR (x y : I2) : Re I2 := t3 (imul x.1 x.2 y.1 y.2)
def divR (x y : I2) : Re I2 := t3 (idiv x.1 x.2 y.1 y.2)
def sqR (x : I2) : Re I2 := t3 (isq x.1 x.2)
def rtR (x : I2) : Re I2 := t3 (isr x.1 x.2)
def ngR (x : I2) : Re I2 := t3 (ineg x.1 x.2)
def V2 (x : I2) : Bool := V x.1 x.2
def VB (a : Bx) : Bool := V2 a.1 && (V2 a.2.1 && V2 a.2.2)
def one2 : I2 := (16777216, 16777216)
def dzip (f : I2 → I2 → Re I2) (a b : Bx) : Re Bx := (f a.1 b.1).bind fun x => (f a.2.1 b.2.1).bind fun y => (f a.2.2 b.2.2).bind fun z => .ok (x, y, z)
def dadd (a b : Bx) : Re Bx := bif VB a && VB b then dzip addR a b else .er 1
def dsub (a b : Bx) : Re Bx := bif VB a && VB b then dzip subR a b else .er 1
def dscale (a : Bx) (k : I2) : Re Bx := bif VB a && V2 k then dzip mulR a (k, k, k) else .er 1
def ddot (a b : Bx) : Re I2 := bif VB a && VB b then (mulR a.1 b.1).bind fun x => (mulR a.2.1 b.2.1).bind fun y => (mulR a.2.2 b.2.2).bind fun z => (addR x y).bind fun s => addR s z else .er 1
def rflx (d m : Bx) : Re Bx := (ddot d m).bind fun x => (addR x x).bind fun k => (dscale m k).bind fun s => dsub d s
def rdc (c r : I2) : Re I2 := bif V2 c && V2 r then (sqR r).bind fun q => (sqR c).bind fun s => (subR one2 s).bind fun t => (mulR q t).bind fun p => subR one2 p else .er 1
def dcd (x : I2) : Int := bif V2 x then (if isg x.1 x.2 = -1 then 1 else if isg x.1 x.2 = 1 then 2 else 3) else 0
def hit (d m : Bx) (r : I2) : Re Int := bif VB d && (VB m && V2 r) then (ddot d m).bind fun x => (rdc x r).bind fun q => .ok (dcd q) else .er 1
def rfc (d m : Bx) (r : I2) : Re (Bx × I2 × I2) := bif VB d && (VB m && V2 r) then (ddot d m).bind fun x => if isg x.1 x.2 = 0 then .er 9 else (rdc x r).bind fun q => if q.1 < 0 then .er 15 else (rtR q).bind fun s => (if isg x.1 x.2 < 0 then ngR s else .ok s).bind fun t => (dscale d r).bind fun a => (mulR r x).bind fun p => (subR t p).bind fun k => (dscale m k).bind fun b => (dadd a b).bind fun o => .ok (o, x, t) else .er 1
def crt (x : I2) : Re I2 := bif V2 x then (if x.1 < 16777216 then .er 2 else (sqR x).bind fun q => (divR one2 q).bind fun d => (subR one2 d).bind fun s => rtR s) else .er 1

/-! ### inclusion -/
def S2 (x X : I2) : Prop := In x.1 x.2 X.1 X.2 ∧ V X.1 X.2 = true
def SB (a A : Bx) : Prop := S2 a.1 A.1 ∧ S2 a.2.1 A.2.1 ∧ S2 a.2.2 A.2.2
def Inc {α : Type} (rel : α → α → Prop) (r R : Re α) : Prop := ∀ A, R = .ok A → ∃ a, r = .ok a ∧ rel a A
theorem Inc.ok {α : Type} {rel : α → α → Prop} {a A : α} (h : rel a A) : Inc rel (.ok a) (.ok A) := fun _ hA => by
  injection hA with hA; subst hA; exact ⟨a, rfl, h⟩
theorem Inc.bind {α β : Type} {rel : α → α → Prop} {rel' : β → β → Prop} {r R : Re α} {k K : α → Re β} (h : Inc rel r R) (hk : ∀ a A, rel a A → Inc rel' (k a) (K A)) : Inc rel' (r.bind k) (R.bind K) := fun B hB => by
  obtain ⟨A, h1, h2⟩ := bind_inv hB
  obtain ⟨a, e1, e2⟩ := h A h1
  obtain ⟨b, e3, e4⟩ := hk a A e2 B h2
  exact ⟨b, by rw [e1]; exact e3, e4⟩
theorem Inc.t3 {r R : Int × Int × Int} (h : ∀ L H, R = (L, H, 0) → ∃ l u, r = (l, u, 0) ∧ In l u L H ∧ V L H = true) : Inc S2 (t3 r) (t3 R) := fun A hA => by
  obtain ⟨l, u, h1, h2, h3⟩ := h _ _ (t3_inv hA)
  exact ⟨(l, u), by rw [h1]; rfl, h2, h3⟩
theorem add_inc {x X y Y : I2} (h : S2 x X) (h' : S2 y Y) : Inc S2 (addR x y) (addR X Y) := Inc.t3 fun L H e => iadd_inc h.1 h'.1 e
theorem sub_inc {x X y Y : I2} (h : S2 x X) (h' : S2 y Y) : Inc S2 (subR x y) (subR X Y) := Inc.t3 fun L H e => isub_inc h.1 h'.1 e
theorem mul_inc {x X y Y : I2} (h : S2 x X) (h' : S2 y Y) : Inc S2 (mulR x y) (mulR X Y) := Inc.t3 fun L H e => imul_inc h.1 h'.1 e
theorem sq_inc {x X : I2} (h : S2 x X) : Inc S2 (sqR x) (sqR X) := Inc.t3 fun L H e => isq_inc h.1 e
theorem rt_inc {x X : I2} (h : S2 x X) : Inc S2 (rtR x) (rtR X) := Inc.t3 fun L H e => isr_inc h.1 e
theorem ng_inc {x X : I2} (h : S2 x X) : Inc S2 (ngR x) (ngR X) := Inc.t3 fun L H e => ineg_inc h.1 e
theorem S2.v {x X : I2} (h : S2 x X) : V2 x = true := h.1.v h.2
theorem SB.v {a A : Bx} (h : SB a A) : VB a = true := by simp only [VB, h.1.v, h.2.1.v, h.2.2.v, Bool.and_self]
theorem S2.refl {x : I2} (h : V2 x = true) : S2 x x := ⟨by have := V_iff.1 h; unfold In; omega, h⟩
theorem one_v : V2 one2 = true := by decide
theorem cond_inv {α : Type} {b : Bool} {x y : Re α} {A : α} {e : Int} (hy : y = .er e) (h : (bif b then x else y) = .ok A) : b = true ∧ x = .ok A := by
  cases b with
  | true => exact ⟨rfl, h⟩
  | false => rw [hy] at h; cases h
theorem Inc.cond {α : Type} {rel : α → α → Prop} {b B : Bool} {r R : Re α} {e e' : Int} (hb : b = true) (h : Inc rel r R) : Inc rel (bif b then r else .er e) (bif B then R else .er e') := fun A hA => by
  obtain ⟨_, h2⟩ := cond_inv rfl hA
  obtain ⟨a, h3, h4⟩ := h A h2
  exact ⟨a, by rw [hb]; exact h3, h4⟩
theorem dzip_inc {f : I2 → I2 → Re I2} (hf : ∀ x X y Y, S2 x X → S2 y Y → Inc S2 (f x y) (f X Y)) {a A b B : Bx} (h : SB a A) (h' : SB b B) : Inc SB (dzip f a b) (dzip f A B) :=
  (hf _ _ _ _ h.1 h'.1).bind fun x X hx => (hf _ _ _ _ h.2.1 h'.2.1).bind fun y Y hy => (hf _ _ _ _ h.2.2 h'.2.2).bind fun z Z hz => Inc.ok ⟨hx, hy, hz⟩
theorem dadd_inc {a A b B : Bx} (h : SB a A) (h' : SB b B) : Inc SB (dadd a b) (dadd A B) := Inc.cond (by rw [h.v, h'.v]; rfl) (dzip_inc (fun _ _ _ _ => add_inc) h h')
theorem dsub_inc {a A b B : Bx} (h : SB a A) (h' : SB b B) : Inc SB (dsub a b) (dsub A B) := Inc.cond (by rw [h.v, h'.v]; rfl) (dzip_inc (fun _ _ _ _ => sub_inc) h h')
theorem dscale_inc {a A : Bx} {k K : I2} (h : SB a A) (h' : S2 k K) : Inc SB (dscale a k) (dscale A K) := Inc.cond (by rw [h.v, h'.v]; rfl) (dzip_inc (fun _ _ _ _ => mul_inc) h ⟨h', h', h'⟩)
theorem ddot_inc {a A b B : Bx} (h : SB a A) (h' : SB b B) : Inc S2 (ddot a b) (ddot A B) := Inc.cond (by rw [h.v, h'.v]; rfl)
  ((mul_inc h.1 h'.1).bind fun x X hx => (mul_inc h.2.1 h'.2.1).bind fun y Y hy => (mul_inc h.2.2 h'.2.2).bind fun z Z hz => (add_inc hx hy).bind fun s S hs => add_inc hs hz)
theorem rflx_inc {d D m M : Bx} (h : SB d D) (h' : SB m M) : Inc SB (rflx d m) (rflx D M) :=
  (ddot_inc h h').bind fun x X hx => (add_inc hx hx).bind fun k K hk => (dscale_inc h' hk).bind fun s S hs => dsub_inc h hs
theorem rdc_inc {c C r R : I2} (h : S2 c C) (h' : S2 r R) : Inc S2 (rdc c r) (rdc C R) := Inc.cond (by rw [h.v, h'.v]; rfl)
  ((sq_inc h').bind fun q Q hq => (sq_inc h).bind fun s S hs => (sub_inc (S2.refl one_v) hs).bind fun t T ht => (mul_inc hq ht).bind fun p P hp => sub_inc (S2.refl one_v) hp)
theorem isg_val (a b : Int) : isg a b = 1 ∧ V a b = true ∧ 0 < a ∨ isg a b = -1 ∧ V a b = true ∧ ¬ 0 < a ∧ b < 0 ∨ isg a b = 0 ∧ (V a b = false ∨ ¬ 0 < a ∧ ¬ b < 0) := by
  unfold isg
  cases V a b with
  | false => simp
  | true => by_cases h1 : 0 < a <;> by_cases h2 : b < 0 <;> simp [h1, h2]
theorem isg_inc {x X : I2} (h : S2 x X) (h0 : isg X.1 X.2 ≠ 0) : isg x.1 x.2 = isg X.1 X.2 := by
  have hv : V x.1 x.2 = true := h.v
  have hV := V_iff.1 hv
  have hi := h.1
  unfold In at hi
  rcases isg_val X.1 X.2 with h1 | h1 | h1 <;> rcases isg_val x.1 x.2 with h2 | h2 | h2 <;> simp only [hv, reduceCtorEq, false_or] at h2 <;> omega
theorem dcd_inc {x X : I2} (h : S2 x X) : dcd x = dcd X ∨ dcd X = 3 := by
  have hv : V2 X = true := h.2
  unfold dcd
  rw [h.v, hv, cond_true, cond_true]
  by_cases h0 : isg X.1 X.2 = 0
  · rw [h0]; right; decide
  · rw [isg_inc h h0]; left; rfl
theorem cond_true2 {α : Type} {b c : Bool} {x y : α} (h : b = true) (h' : c = true) : (bif b && c then x else y) = x := by rw [h, h']; rfl
theorem hit_inc {d D m M : Bx} {r R : I2} (h : SB d D) (h' : SB m M) (h2 : S2 r R) : Inc (fun k K => k = K ∨ K = 3) (hit d m r) (hit D M R) := Inc.cond (by rw [h.v, h'.v, h2.v]; rfl)
  ((ddot_inc h h').bind fun x X hx => (rdc_inc hx h2).bind fun q Q hq => Inc.ok (dcd_inc hq))
theorem Inc.ite {α : Type} {rel : α → α → Prop} {p P : Prop} [Decidable p] [Decidable P] {r R : Re α} {e e' : Int} (hp : ¬ P → ¬ p) (h : ¬ P → Inc rel r R) : Inc rel (if p then .er e else r) (if P then .er e' else R) := fun A hA => by
  by_cases hP : P
  · rw [if_pos hP] at hA; cases hA
  · rw [if_neg hP] at hA
    rw [if_neg (hp hP)]
    exact h hP A hA
theorem rfc_inc {d D m M : Bx} {r R : I2} (h : SB d D) (h' : SB m M) (h2 : S2 r R) : Inc (fun a A => SB a.1 A.1 ∧ S2 a.2.1 A.2.1 ∧ S2 a.2.2 A.2.2) (rfc d m r) (rfc D M R) := Inc.cond (by rw [h.v, h'.v, h2.v]; rfl)
  ((ddot_inc h h').bind fun x X hx => Inc.ite (fun h0 => by rw [isg_inc hx h0]; exact h0) fun h0 =>
    (rdc_inc hx h2).bind fun q Q hq => Inc.ite (fun h1 => by have := hq.1; unfold In at this; omega) fun h1 =>
    (rt_inc hq).bind fun s S hs => Inc.bind (rel := S2) (by rw [isg_inc hx h0]; split; exact ng_inc hs; exact Inc.ok hs) fun t T ht =>
    (dscale_inc h h2).bind fun a A ha => (mul_inc h2 hx).bind fun p P hp => (sub_inc ht hp).bind fun k K hk => (dscale_inc h' hk).bind fun b B hb => (dadd_inc ha hb).bind fun o O ho => Inc.ok ⟨ho, hx, ht⟩)

/-! ### limits: what can go wrong with valid arguments -/
def Lim {α : Type} (P : α → Prop) (r : Re α) : Prop := (∃ a, r = .ok a ∧ P a) ∨ r = .er 3
theorem Lim.bind {α β : Type} {P : α → Prop} {Q : β → Prop} {r : Re α} {k : α → Re β} (h : Lim P r) (hk : ∀ a, P a → Lim Q (k a)) : Lim Q (r.bind k) := by
  rcases h with ⟨a, e, hp⟩ | e
  · rw [e, bind_ok]; exact hk a hp
  · rw [e]; exact Or.inr rfl
theorem Lim.ok {α : Type} {P : α → Prop} {a : α} (h : P a) : Lim P (.ok a) := Or.inl ⟨a, rfl, h⟩
theorem Lim.chk (a b : Int) : Lim (fun x => V2 x = true) (G.t3 (chk a b)) := by
  rcases chk_eq a b with ⟨h, hv⟩ | ⟨h, hv⟩ <;> rw [h]
  · exact Or.inl ⟨(a, b), rfl, hv⟩
  · exact Or.inr rfl
theorem add_lim {x y : I2} (h : V2 x = true) (h' : V2 y = true) : Lim (fun x => V2 x = true) (addR x y) := by
  unfold addR iadd; rw [show V x.1 x.2 = true from h, show V y.1 y.2 = true from h']; exact Lim.chk _ _
theorem sub_lim {x y : I2} (h : V2 x = true) (h' : V2 y = true) : Lim (fun x => V2 x = true) (subR x y) := by
  unfold subR isub; rw [show V x.1 x.2 = true from h, show V y.1 y.2 = true from h']; exact Lim.chk _ _
theorem mul_lim {x y : I2} (h : V2 x = true) (h' : V2 y = true) : Lim (fun x => V2 x = true) (mulR x y) := by
  unfold mulR imul; rw [show V x.1 x.2 = true from h, show V y.1 y.2 = true from h']; exact Lim.chk _ _
theorem sq_lim {x : I2} (h : V2 x = true) : Lim (fun x => V2 x = true) (sqR x) := by
  unfold sqR isq; rw [show V x.1 x.2 = true from h]; exact Lim.chk _ _
theorem rt_lim {x : I2} (h : V2 x = true) (h' : 0 ≤ x.1) : Lim (fun x => V2 x = true) (rtR x) := by
  have hv := V_iff.1 (show V x.1 x.2 = true from h)
  have := isr_range (a := x.1) (b := x.2) h' (by omega) (by omega)
  unfold rtR isr
  rw [show V x.1 x.2 = true from h, cond_true, if_neg (by omega)]
  exact Or.inl ⟨(sqt (x.1 * 16777216), sqc (x.2 * 16777216)), rfl, V_iff.2 (by simp only; omega)⟩
theorem ng_lim {x : I2} (h : V2 x = true) : Lim (fun x => V2 x = true) (ngR x) := by
  have hv := V_iff.1 (show V x.1 x.2 = true from h)
  unfold ngR ineg
  rw [show V x.1 x.2 = true from h, cond_true]
  exact Or.inl ⟨(-x.2, -x.1), rfl, V_iff.2 (by simp only; omega)⟩
theorem VB_iff {a : Bx} : VB a = true ↔ V2 a.1 = true ∧ V2 a.2.1 = true ∧ V2 a.2.2 = true := by simp only [VB, Bool.and_eq_true]
theorem dzip_lim {f : I2 → I2 → Re I2} (hf : ∀ x y, V2 x = true → V2 y = true → Lim (fun x => V2 x = true) (f x y)) {a b : Bx} (h : VB a = true) (h' : VB b = true) : Lim (fun x => VB x = true) (dzip f a b) := by
  rw [VB_iff] at h h'
  exact (hf _ _ h.1 h'.1).bind fun x hx => (hf _ _ h.2.1 h'.2.1).bind fun y hy => (hf _ _ h.2.2 h'.2.2).bind fun z hz => Lim.ok (VB_iff.2 ⟨hx, hy, hz⟩)
theorem dscale_lim {a : Bx} {k : I2} (h : VB a = true) (h' : V2 k = true) : Lim (fun x => VB x = true) (dscale a k) := by
  unfold dscale; rw [h, h']; exact dzip_lim (fun x y => mul_lim) h (VB_iff.2 ⟨h', h', h'⟩)
theorem dadd_lim {a b : Bx} (h : VB a = true) (h' : VB b = true) : Lim (fun x => VB x = true) (dadd a b) := by
  unfold dadd; rw [h, h']; exact dzip_lim (fun x y => add_lim) h h'
theorem ddot_lim {a b : Bx} (h : VB a = true) (h' : VB b = true) : Lim (fun x => V2 x = true) (ddot a b) := by
  unfold ddot; rw [h, h']
  rw [VB_iff] at h h'
  exact (mul_lim h.1 h'.1).bind fun x hx => (mul_lim h.2.1 h'.2.1).bind fun y hy => (mul_lim h.2.2 h'.2.2).bind fun z hz => (add_lim hx hy).bind fun s hs => add_lim hs hz
theorem rdc_lim {c r : I2} (h : V2 c = true) (h' : V2 r = true) : Lim (fun x => V2 x = true) (rdc c r) := by
  unfold rdc; rw [h, h']
  exact (sq_lim h').bind fun q hq => (sq_lim h).bind fun s hs => (sub_lim one_v hs).bind fun t ht => (mul_lim hq ht).bind fun p hp => sub_lim one_v hp
/-- What Hits says of Refract. -/
theorem total_law (d m : Bx) (r : I2) : (∃ e, hit d m r = .er e) ∨ (∃ k, hit d m r = .ok k ∧ k ≠ 0 ∧ (rfc d m r = .er 3 ∨ rfc d m r = .er 9 ∨ k = 1 ∧ rfc d m r = .er 15 ∨ k = 2 ∧ (∃ o, rfc d m r = .ok o) ∨ k = 3 ∧ ((∃ o, rfc d m r = .ok o) ∨ rfc d m r = .er 15))) := by
  cases hv : VB d && (VB m && V2 r) with
  | false => left; exact ⟨1, by unfold hit; rw [hv]; rfl⟩
  | true =>
    have hv' := hv
    rw [Bool.and_eq_true, Bool.and_eq_true] at hv'
    obtain ⟨h1, h2, h3⟩ := hv'
    have H : hit d m r = (ddot d m).bind fun x => (rdc x r).bind fun q => .ok (dcd q) := by unfold hit; rw [hv]; rfl
    have R := show rfc d m r = (ddot d m).bind _ by unfold rfc; rw [hv]; rfl
    rcases ddot_lim h1 h2 with ⟨x, e, hx⟩ | e
    · rw [e, bind_ok] at H R
      rcases rdc_lim hx h3 with ⟨q, e2, hq⟩ | e2
      · rw [e2, bind_ok] at H R
        right
        refine ⟨dcd q, H, ?_, ?_⟩
        · unfold dcd; rw [hq, cond_true]; split; decide; split <;> decide
        by_cases h0 : isg x.1 x.2 = 0
        · rw [if_pos h0] at R; right; left; exact R
        · rw [if_neg h0] at R
          by_cases hl : q.1 < 0
          · rw [if_pos hl] at R
            rcases isg_val q.1 q.2 with g | g | g
            · omega
            · right; right; left; refine ⟨?_, R⟩; unfold dcd; rw [hq, cond_true, if_pos g.1]
            · right; right; right; right; refine ⟨?_, Or.inr R⟩; unfold dcd; rw [hq, cond_true, g.1]; rfl
          · rw [if_neg hl] at R
            have key : Lim (fun _ => True) (rfc d m r) := by
              rw [R]
              refine (rt_lim hq (by omega)).bind fun s hs => Lim.bind (P := fun x => V2 x = true) ?_ fun t ht => (dscale_lim h1 h3).bind fun a ha => (mul_lim h3 hx).bind fun p hp => (sub_lim ht hp).bind fun k hk => (dscale_lim h2 hk).bind fun b hb => (dadd_lim ha hb).bind fun o ho => Lim.ok trivial
              split
              · exact ng_lim hs
              · exact Lim.ok hs
            rcases key with ⟨o, e3, _⟩ | e3
            · right; right; right
              have hV := V_iff.1 (show V q.1 q.2 = true from hq)
              rcases isg_val q.1 q.2 with g | g | g
              · left; refine ⟨?_, o, e3⟩; unfold dcd; rw [hq, cond_true, g.1]; rfl
              · omega
              · right; refine ⟨?_, Or.inl ⟨o, e3⟩⟩; unfold dcd; rw [hq, cond_true, g.1]; rfl
            · left; exact e3
      · left; exact ⟨3, by rw [H, e2]; rfl⟩
    · left; exact ⟨3, by rw [H, e]; rfl⟩

/-! ### the ratio 1 -/
theorem chk_inR {lo hi : Int} {x : I2} (h : t3 (chk lo hi) = .ok x) : x = (lo, hi) ∧ V lo hi = true := by
  rcases chk_eq lo hi with ⟨e, hv⟩ | ⟨e, hv⟩ <;> rw [e] at h
  · injection h with h; exact ⟨h.symm, hv⟩
  · cases h
theorem mul1 {x y : I2} (hx : V2 x = true) (hy : V2 y = true) {o : I2} (h : mulR x y = .ok o) : o = (mn4 (x.1 * y.1) (x.1 * y.2) (x.2 * y.1) (x.2 * y.2) / 16777216, cl (mx4 (x.1 * y.1) (x.1 * y.2) (x.2 * y.1) (x.2 * y.2)) 16777216) := by
  unfold mulR imul at h
  rw [show V x.1 x.2 = true from hx, show V y.1 y.2 = true from hy] at h
  exact (chk_inR h).1
theorem div_self (a : Int) : a * 16777216 / 16777216 = a := Int.mul_ediv_cancel a (by omega)
theorem cl_self (a : Int) : cl (a * 16777216) 16777216 = a := by rw [cl, ← Int.neg_mul, div_self]; omega
theorem mul_one2 {x : I2} (hx : V2 x = true) : mulR x one2 = .ok x := by
  have hV := V_iff.1 (show V x.1 x.2 = true from hx)
  unfold mulR imul one2
  rw [show V x.1 x.2 = true from hx, show V 16777216 16777216 = true from rfl]
  have e1 : mn4 (x.1 * 16777216) (x.1 * 16777216) (x.2 * 16777216) (x.2 * 16777216) = x.1 * 16777216 := by simp only [mn4]; omega
  have e2 : mx4 (x.1 * 16777216) (x.1 * 16777216) (x.2 * 16777216) (x.2 * 16777216) = x.2 * 16777216 := by simp only [mx4]; omega
  show t3 (chk _ _) = _
  simp only [e1, e2, div_self, cl_self]
  rw [chk_of (by omega) (by omega) (by omega)]
  rfl
theorem one_mul2 {x : I2} (hx : V2 x = true) : mulR one2 x = .ok x := by
  have hV := V_iff.1 (show V x.1 x.2 = true from hx)
  unfold mulR imul one2
  rw [show V x.1 x.2 = true from hx, show V 16777216 16777216 = true from rfl]
  have e1 : mn4 (16777216 * x.1) (16777216 * x.2) (16777216 * x.1) (16777216 * x.2) = x.1 * 16777216 := by simp only [mn4]; omega
  have e2 : mx4 (16777216 * x.1) (16777216 * x.2) (16777216 * x.1) (16777216 * x.2) = x.2 * 16777216 := by simp only [mx4]; omega
  show t3 (chk _ _) = _
  simp only [e1, e2, div_self, cl_self]
  rw [chk_of (by omega) (by omega) (by omega)]
  rfl
theorem sq_one2 : sqR one2 = .ok one2 := by
  have : isq 16777216 16777216 = (16777216, 16777216, 0) := by decide +kernel
  unfold sqR one2
  rw [this]
  rfl
theorem sub_inv {x y o : I2} (h : subR x y = .ok o) : o = (x.1 - y.2, x.2 - y.1) ∧ V2 o = true := by
  have h' := t3_inv h
  have hv := op_v h'
  unfold subR isub at h
  rw [hv.1, hv.2] at h
  have := chk_inR h
  exact ⟨this.1, by rw [this.1]; exact this.2⟩
theorem add_inv {x y o : I2} (h : addR x y = .ok o) : o = (x.1 + y.1, x.2 + y.2) ∧ V2 o = true := by
  have h' := t3_inv h
  have hv := op_v h'
  unfold addR iadd at h
  rw [hv.1, hv.2] at h
  have := chk_inR h
  exact ⟨this.1, by rw [this.1]; exact this.2⟩
theorem mul_inv {x y o : I2} (h : mulR x y = .ok o) : V2 x = true ∧ V2 y = true ∧ o = (mn4 (x.1 * y.1) (x.1 * y.2) (x.2 * y.1) (x.2 * y.2) / 16777216, cl (mx4 (x.1 * y.1) (x.1 * y.2) (x.2 * y.1) (x.2 * y.2)) 16777216) ∧ V2 o = true := by
  have h' := t3_inv h
  have hv := op_v h'
  unfold mulR imul at h
  rw [hv.1, hv.2] at h
  have := chk_inR h
  exact ⟨hv.1, hv.2, this.1, by rw [this.1]; exact this.2⟩
theorem sq_inv {x o : I2} (h : sqR x = .ok o) : V2 x = true ∧ o = (sqlo x.1 x.2 / 16777216, cl (max (x.1 * x.1) (x.2 * x.2)) 16777216) ∧ V2 o = true := by
  unfold sqR isq at h
  cases hv : V x.1 x.2 with
  | false => rw [hv] at h; cases h
  | true =>
    rw [hv] at h
    have := chk_inR h
    exact ⟨hv, this.1, by rw [this.1]; exact this.2⟩
theorem rt_inv {x o : I2} (h : rtR x = .ok o) : V2 x = true ∧ 0 ≤ x.1 ∧ o = (sqt (x.1 * 16777216), sqc (x.2 * 16777216)) := by
  have := isr_ok (t3_inv h)
  exact ⟨this.1, this.2.1, Prod.ext this.2.2.1 this.2.2.2⟩
theorem ng_inv {x o : I2} (h : ngR x = .ok o) : o = (-x.2, -x.1) := by
  unfold ngR ineg at h
  cases hv : V x.1 x.2 with
  | false => rw [hv] at h; cases h
  | true => rw [hv] at h; injection h with h; exact h.symm
theorem rdc_one {x q : I2} (h : rdc x one2 = .ok q) : sqR x = .ok q := by
  unfold rdc at h
  obtain ⟨_, h⟩ := cond_inv rfl h
  rw [sq_one2, bind_ok] at h
  obtain ⟨s, hs, h⟩ := bind_inv h
  obtain ⟨t, ht, h⟩ := bind_inv h
  obtain ⟨p, hp, h⟩ := bind_inv h
  obtain ⟨e1, v1⟩ := sub_inv ht
  rw [one_mul2 v1] at hp
  injection hp with hp
  subst hp
  obtain ⟨e2, _⟩ := sub_inv h
  rw [hs]
  refine congrArg Re.ok (Prod.ext ?_ ?_)
  · rw [e2, e1]; show s.1 = 16777216 - (16777216 - s.1); omega
  · rw [e2, e1]; show s.2 = 16777216 - (16777216 - s.2); omega
theorem sq_pos_in {a b lo hi : Int} (h0 : 0 ≤ a) (hab : a ≤ b) (hb : b ≤ 1073741824) (h1 : lo = a * a / 16777216) (h2 : hi = cl (b * b) 16777216) : sqt (lo * 16777216) ≤ a ∧ b ≤ sqc (hi * 16777216) := by
  have q1 := mul_bnd30 (x := a) (y := a) (by omega) (by omega) (by omega) (by omega)
  have q2 := mul_bnd30 (x := b) (y := b) (by omega) (by omega) (by omega) (by omega)
  have f1 := fl_spec (x := a * a) (k := 16777216) (by omega)
  have f2 := cl_spec (x := b * b) (k := 16777216) (by omega)
  have n1 := sq_nonneg a
  have n2 := sq_nonneg b
  have n3 : 0 ≤ lo := by rw [h1]; exact fl_nonneg (by omega) n1
  rw [← h1] at f1
  rw [← h2] at f2
  have s1 := sqt_spec (n := lo * 16777216) (by omega) (by omega)
  have s2 := sqc_spec (n := hi * 16777216) (by omega) (by omega)
  constructor
  · refine le_of_sq h0 ?_
    have := sq_mono (x := a) (y := a + 1) (by omega) (by omega)
    have e : (a + 1) * (a + 1) = a * a + a + a + 1 := by rw [Int.add_mul, Int.mul_add]; omega
    omega
  · refine le_of_sq s2.1 ?_
    generalize sqc (hi * 16777216) = z at *
    have e : (z + 1) * (z + 1) = z * z + z + z + 1 := by rw [Int.add_mul, Int.mul_add]; omega
    omega
theorem straight_law {d m o : Bx} {x t : I2} (h : rfc d m one2 = .ok (o, x, t)) : VB d = true ∧ VB o = true ∧ (o.1.1 ≤ d.1.1 ∧ d.1.2 ≤ o.1.2) ∧ (o.2.1.1 ≤ d.2.1.1 ∧ d.2.1.2 ≤ o.2.1.2) ∧ (o.2.2.1 ≤ d.2.2.1 ∧ d.2.2.2 ≤ o.2.2.2) ∧ x.1 ≤ t.2 ∧ t.1 ≤ x.2 := by
  unfold rfc at h
  obtain ⟨hv, h⟩ := cond_inv rfl h
  rw [Bool.and_eq_true, Bool.and_eq_true] at hv
  obtain ⟨v1, v2, _⟩ := hv
  obtain ⟨x', hx, h⟩ := bind_inv h
  by_cases h0 : isg x'.1 x'.2 = 0
  · rw [if_pos h0] at h; cases h
  rw [if_neg h0] at h
  obtain ⟨q, hq, h⟩ := bind_inv h
  by_cases h1 : q.1 < 0
  · rw [if_pos h1] at h; cases h
  rw [if_neg h1] at h
  obtain ⟨s, hs, h⟩ := bind_inv h
  obtain ⟨t', ht, h⟩ := bind_inv h
  obtain ⟨a, ha, h⟩ := bind_inv h
  obtain ⟨p, hp, h⟩ := bind_inv h
  obtain ⟨k, hk, h⟩ := bind_inv h
  obtain ⟨b, hb, h⟩ := bind_inv h
  obtain ⟨o', ho, h⟩ := bind_inv h
  injection h with h
  injection h with e1 e2
  injection e2 with e2 e3
  subst e1 e2 e3
  obtain ⟨vx, eq, vq⟩ := sq_inv (rdc_one hq)
  obtain ⟨_, _, es⟩ := rt_inv hs
  have hV := V_iff.1 (show V x'.1 x'.2 = true from vx)
  have key : t'.1 ≤ x'.1 ∧ x'.2 ≤ t'.2 := by
    rcases isg_val x'.1 x'.2 with g | g | g
    · rw [if_neg (by rw [g.1]; decide)] at ht
      injection ht with ht
      subst ht
      have hm := sq_mono (x := x'.1) (y := x'.2) (by omega) (by omega)
      have := sq_pos_in (a := x'.1) (b := x'.2) (lo := q.1) (hi := q.2) (by omega) (by omega) (by omega) (by rw [eq]; show sqlo x'.1 x'.2 / 16777216 = _; rw [sqlo, if_neg (by omega), Int.min_eq_left hm]) (by rw [eq]; show cl (max _ _) _ = _; rw [Int.max_eq_right hm])
      rw [es]; exact this
    · rw [if_pos (by rw [g.1]; decide)] at ht
      have e := ng_inv ht
      have hm := sq_mono (x := -x'.2) (y := -x'.1) (by omega) (by omega)
      have r1 : -x'.1 * -x'.1 = x'.1 * x'.1 := Int.neg_mul_neg _ _
      have r2 : -x'.2 * -x'.2 = x'.2 * x'.2 := Int.neg_mul_neg _ _
      have := sq_pos_in (a := -x'.2) (b := -x'.1) (lo := q.1) (hi := q.2) (by omega) (by omega) (by omega) (by rw [eq]; show sqlo x'.1 x'.2 / 16777216 = _; rw [r2, sqlo, if_neg (by omega), Int.min_eq_right (by omega)]) (by rw [eq]; show cl (max _ _) _ = _; rw [r1, Int.max_eq_left (by omega)])
      rw [e, es]
      constructor
      · show -sqc (q.2 * 16777216) ≤ _; omega
      · show _ ≤ -sqt (q.1 * 16777216); omega
    · omega
  rw [one_mul2 vx] at hp
  injection hp with hp
  subst hp
  obtain ⟨ek, vk⟩ := sub_inv hk
  have hk0 : k.1 ≤ 0 ∧ 0 ≤ k.2 := by rw [ek]; constructor <;> simp only <;> omega
  have hz : ∀ {y z : I2}, mulR y k = .ok z → z.1 ≤ 0 ∧ 0 ≤ z.2 := fun {y z} hm => by
    obtain ⟨vy, _, e, _⟩ := mul_inv hm
    have hy := V_iff.1 (show V y.1 y.2 = true from vy)
    have := mul_in (a := y.1) (b := y.2) (c := k.1) (d := k.2) (x := y.1) (y := 0) (by omega) (by omega) (by omega) (by omega)
    rw [Int.mul_zero] at this
    rw [e]
    constructor
    · have := fl_mono (k := 16777216) (by omega) this.1; simpa using this
    · exact cl_nonneg (by omega) this.2
  unfold dscale at ha hb
  unfold dadd at ho
  obtain ⟨_, ha⟩ := cond_inv rfl ha
  obtain ⟨_, hb⟩ := cond_inv rfl hb
  obtain ⟨_, ho⟩ := cond_inv rfl ho
  unfold dzip at hb ho
  have va := VB_iff.1 v1
  have ea : dzip mulR d (one2, one2, one2) = .ok d := by
    unfold dzip
    rw [mul_one2 va.1, bind_ok, mul_one2 va.2.1, bind_ok, mul_one2 va.2.2, bind_ok]
  rw [ea] at ha
  injection ha with ha
  subst ha
  obtain ⟨b1, hb1, hb⟩ := bind_inv hb
  obtain ⟨b2, hb2, hb⟩ := bind_inv hb
  obtain ⟨b3, hb3, hb⟩ := bind_inv hb
  injection hb with hb
  subst hb
  obtain ⟨o1, ho1, ho⟩ := bind_inv ho
  obtain ⟨o2, ho2, ho⟩ := bind_inv ho
  obtain ⟨o3, ho3, ho⟩ := bind_inv ho
  injection ho with ho
  subst ho
  have z1 := hz hb1
  have z2 := hz hb2
  have z3 := hz hb3
  obtain ⟨e1, w1⟩ := add_inv ho1
  obtain ⟨e2, w2⟩ := add_inv ho2
  obtain ⟨e3, w3⟩ := add_inv ho3
  refine ⟨v1, VB_iff.2 ⟨w1, w2, w3⟩, ?_, ?_, ?_, by omega, by omega⟩
  · rw [e1]; constructor <;> simp only <;> omega
  · rw [e2]; constructor <;> simp only <;> omega
  · rw [e3]; constructor <;> simp only <;> omega
/-! ### errors are not 0; the flat forms -/
def Nz {α : Type} (r : Re α) : Prop := ∀ e, r = .er e → e ≠ 0
theorem Nz.cases {α : Type} {r : Re α} (h : Nz r) : (∃ x, r = .ok x) ∨ ∃ e, e ≠ 0 ∧ r = .er e := by
  cases r with
  | er e => exact Or.inr ⟨e, h e rfl, rfl⟩
  | ok x => exact Or.inl ⟨x, rfl⟩
theorem Nz.ok {α : Type} {a : α} : Nz (.ok a) := fun e h => by cases h
theorem Nz.er {α : Type} {e : Int} (h : e ≠ 0) : Nz (.er e : Re α) := fun e' h' => by injection h' with h'; subst h'; exact h
theorem Nz.bind {α β : Type} {r : Re α} {k : α → Re β} (h : Nz r) (hk : ∀ a, Nz (k a)) : Nz (r.bind k) := by
  rcases h.cases with ⟨x, e⟩ | ⟨e, he, e1⟩
  · rw [e]; exact hk x
  · rw [e1]; exact Nz.er he
theorem Nz.t3 (r : Int × Int × Int) : Nz (G.t3 r) := by
  obtain ⟨a, b, e⟩ := r
  by_cases he : e = 0
  · subst he; exact Nz.ok
  · rw [t3_er he]; exact Nz.er he
theorem Nz.cond {α : Type} {b : Bool} {x y : Re α} (h : Nz x) (h' : Nz y) : Nz (bif b then x else y) := by cases b; exact h'; exact h
theorem Nz.ite {α : Type} {p : Prop} [Decidable p] {x y : Re α} (h : Nz x) (h' : Nz y) : Nz (if p then x else y) := by split; exact h; exact h'
theorem Nz.one {α : Type} : Nz (.er 1 : Re α) := Nz.er (by decide)
theorem dzip_nz {f : I2 → I2 → Re I2} (hf : ∀ x y, Nz (f x y)) (a b : Bx) : Nz (dzip f a b) := (hf _ _).bind fun _ => (hf _ _).bind fun _ => (hf _ _).bind fun _ => Nz.ok
theorem dadd_nz (a b : Bx) : Nz (dadd a b) := Nz.cond (dzip_nz (fun _ _ => Nz.t3 _) _ _) Nz.one
theorem dsub_nz (a b : Bx) : Nz (dsub a b) := Nz.cond (dzip_nz (fun _ _ => Nz.t3 _) _ _) Nz.one
theorem dscale_nz (a : Bx) (k : I2) : Nz (dscale a k) := Nz.cond (dzip_nz (fun _ _ => Nz.t3 _) _ _) Nz.one
theorem ddot_nz (a b : Bx) : Nz (ddot a b) := Nz.cond ((Nz.t3 _).bind fun _ => (Nz.t3 _).bind fun _ => (Nz.t3 _).bind fun _ => (Nz.t3 _).bind fun _ => Nz.t3 _) Nz.one
theorem rflx_nz (d m : Bx) : Nz (rflx d m) := (ddot_nz _ _).bind fun _ => (Nz.t3 _).bind fun _ => (dscale_nz _ _).bind fun _ => dsub_nz _ _
theorem rdc_nz (c r : I2) : Nz (rdc c r) := Nz.cond ((Nz.t3 _).bind fun _ => (Nz.t3 _).bind fun _ => (Nz.t3 _).bind fun _ => (Nz.t3 _).bind fun _ => Nz.t3 _) Nz.one
theorem hit_nz (d m : Bx) (r : I2) : Nz (hit d m r) := Nz.cond ((ddot_nz _ _).bind fun _ => (rdc_nz _ _).bind fun _ => Nz.ok) Nz.one
theorem rfc_nz (d m : Bx) (r : I2) : Nz (rfc d m r) := Nz.cond ((ddot_nz _ _).bind fun _ => Nz.ite (Nz.er (by decide)) ((rdc_nz _ _).bind fun _ => Nz.ite (Nz.er (by decide)) ((Nz.t3 _).bind fun _ => Nz.bind (Nz.ite (Nz.t3 _) Nz.ok) fun _ => (dscale_nz _ _).bind fun _ => (Nz.t3 _).bind fun _ => (Nz.t3 _).bind fun _ => (dscale_nz _ _).bind fun _ => (dadd_nz _ _).bind fun _ => Nz.ok))) Nz.one
def o2 : Re Int → Int × Int
  | .er e => (0, e)
  | .ok x => (x, 0)
def o11 : Re (Bx × I2 × I2) → Int × Int × Int × Int × Int × Int × Int × Int × Int × Int × Int
  | .er e => (0, 0, 0, 0, 0, 0, 0, 0, 0, 0, e)
  | .ok x => (x.1.1.1, x.1.1.2, x.1.2.1.1, x.1.2.1.2, x.1.2.2.1, x.1.2.2.2, x.2.1.1, x.2.1.2, x.2.2.1, x.2.2.2, 0)
/-- A step of a calculation that keeps its first error: it is left out behind an error. -/
def st (s a b : Int) (r : Int × Int × Int) : Int × Int × Int := bif s != 0 then (a, b, s) else r
theorem st0 (a b : Int) (r : Int × Int × Int) : st 0 a b r = r := rfl
theorem stE {s : Int} (h : s ≠ 0) (a b : Int) (r : Int × Int × Int) : st s a b r = (a, b, s) := by simp [st, bne_of h]
/-- A step of the reference: it is carried out behind an error too. -/
def kr (s : Int) (r : Int × Int × Int) : Int × Int × Int := (r.1, r.2.1, kp s r.2.2)
theorem kr0 (r : Int × Int × Int) : kr 0 r = r := rfl
theorem krE {s : Int} (h : s ≠ 0) (r : Int × Int × Int) : kr s r = (r.1, r.2.1, s) := by simp [kr, kpn _ h]
theorem t3c (r : Int × Int × Int) : (∃ x y, r = (x, y, 0)) ∨ ∃ x y e, e ≠ 0 ∧ r = (x, y, e) := by
  obtain ⟨a, b, e⟩ := r
  by_cases he : e = 0
  · subst he; exact Or.inl ⟨_, _, rfl⟩
  · exact Or.inr ⟨_, _, _, he, rfl⟩
/-- The same for boxes. -/
def st7 (s : Int) (a : Bx) (r : Re Bx) : Int × Int × Int × Int × Int × Int × Int := bif s != 0 then (a.1.1, a.1.2, a.2.1.1, a.2.1.2, a.2.2.1, a.2.2.2, s) else o7 r
theorem st70 (a : Bx) (r : Re Bx) : st7 0 a r = o7 r := rfl
theorem st7E {s : Int} (h : s ≠ 0) (a : Bx) (r : Re Bx) : st7 s a r = (a.1.1, a.1.2, a.2.1.1, a.2.1.2, a.2.2.1, a.2.2.2, s) := by simp [st7, bne_of h]
theorem V2_mk (a b : Int) : V2 (a, b) = V a b := rfl
end Go.Proofs.Ytphlckkbihmlnaa.G
