/- Reflectances: the plain functions and their laws. -/
import Derived.Test.YtpghmdjjkpjnfaaDoorIv
namespace Go.Proofs.YtpghmdjjkpjnfaaDoor.G
open Go
set_option linter.unusedVariables false
def bnd (r : Int × Int × Int) (k : Int → Int → Int × Int × Int) : Int × Int × Int := bif r.2.2 != 0 then (0, 0, r.2.2) else k r.1 r.2.1
theorem bnd_ok {r : Int × Int × Int} {k : Int → Int → Int × Int × Int} {a b : Int} (h : r = (a, b, 0)) : bnd r k = k a b := by rw [h]; rfl
theorem bnd_inv {r : Int × Int × Int} {k : Int → Int → Int × Int × Int} (h : (bnd r k).2.2 = 0) : r = (r.1, r.2.1, 0) ∧ bnd r k = k r.1 r.2.1 := by
  unfold bnd at h ⊢
  by_cases h0 : r.2.2 = 0
  · refine ⟨by rw [← h0], ?_⟩
    simp [h0]
  · have hb : (r.2.2 != 0) = true := by simp [h0]
    rw [hb, cond_true] at h
    exact absurd h h0
def fin (r : Int × Int × Int) : Int × Int × Int := bnd r fun x y => (cut x, cut y, 0)
def wn (a b k l : Int) : Bool := V a b && (decide (k * 16777216 ≤ a) && decide (b ≤ l * 16777216))
def shr (p0 p1 q0 q1 : Int) : Int × Int × Int := bnd (isub p0 p1 q0 q1) fun d0 d1 => bnd (iadd p0 p1 q0 q1) fun s0 s1 => bnd (idiv d0 d1 s0 s1) fun x0 x1 => fin (isq x0 x1)
def srf (a0 a1 a2 a3 a4 a5 a6 a7 : Int) : Bool := wn a0 a1 0 1 && (wn a2 a3 0 1 && (wn a4 a5 1 4 && wn a6 a7 1 4))
def pol (a0 a1 a2 a3 a4 a5 a6 a7 x0 x1 y0 y1 : Int) : Int × Int × Int := bif srf a0 a1 a2 a3 a4 a5 a6 a7 then bnd (imul a4 a5 x0 x1) (fun p0 p1 => bnd (imul a6 a7 y0 y1) fun q0 q1 => shr p0 p1 q0 q1) else (0, 0, 1)
def mean (r s : Int × Int × Int) : Int × Int × Int := bnd r fun p0 p1 => bnd s fun q0 q1 => bnd (iadd p0 p1 q0 q1) fun s0 s1 => fin (imul s0 s1 8388608 8388608)
def refl (a0 a1 a2 a3 a4 a5 a6 a7 : Int) : Int × Int × Int := mean (pol a0 a1 a2 a3 a4 a5 a6 a7 a0 a1 a2 a3) (pol a0 a1 a2 a3 a4 a5 a6 a7 a2 a3 a0 a1)
def trn (a0 a1 a2 a3 a4 a5 a6 a7 : Int) : Int × Int × Int := bnd (refl a0 a1 a2 a3 a4 a5 a6 a7) fun x y => isub 16777216 16777216 x y
theorem wn_iff {a b k l : Int} : wn a b k l = true ↔ -1073741824 ≤ a ∧ a ≤ b ∧ b ≤ 1073741824 ∧ k * 16777216 ≤ a ∧ b ≤ l * 16777216 := by
  simp only [wn, Bool.and_eq_true, V_iff, decide_eq_true_eq]; omega

/-! ### inclusion -/
def In (a b c d : Int) : Prop := c ≤ a ∧ a ≤ b ∧ b ≤ d
theorem In.v {a b c d : Int} (h : In a b c d) (hv : V c d = true) : V a b = true := by
  have := V_iff.1 hv
  unfold In at h
  exact V_iff.2 (by omega)
theorem op_v {a b c d : Int} {x : Int × Int × Int} {L H : Int} (h : (bif V a b && V c d then x else (0, 0, 1)) = (L, H, 0)) : V a b = true ∧ V c d = true := by
  cases h1 : V a b <;> cases h2 : V c d <;> simp [h1, h2] at h ⊢
theorem chk_inc {lo hi lo' hi' L H : Int} (h : chk lo' hi' = (L, H, 0)) (h1 : lo' ≤ lo) (h2 : lo ≤ hi) (h3 : hi ≤ hi') : chk lo hi = (lo, hi, 0) ∧ In lo hi L H ∧ V L H = true := by
  have := chk_ok h
  refine ⟨chk_of (by omega) h2 (by omega), ?_, V_iff.2 (by omega)⟩
  unfold In; omega
theorem iadd_inc {a b c d A B C D L H : Int} (h1 : In a b A B) (h2 : In c d C D) (h : iadd A B C D = (L, H, 0)) : ∃ l r, iadd a b c d = (l, r, 0) ∧ In l r L H ∧ V L H = true := by
  have hv := op_v h
  have hc : chk (A + C) (B + D) = (L, H, 0) := by simpa [iadd, hv.1, hv.2] using h
  have : chk (a + c) (b + d) = (a + c, b + d, 0) ∧ In (a + c) (b + d) L H ∧ V L H = true := by unfold In at h1 h2; exact chk_inc hc (by omega) (by omega) (by omega)
  exact ⟨_, _, by simpa [iadd, h1.v hv.1, h2.v hv.2] using this.1, this.2⟩
theorem isub_inc {a b c d A B C D L H : Int} (h1 : In a b A B) (h2 : In c d C D) (h : isub A B C D = (L, H, 0)) : ∃ l r, isub a b c d = (l, r, 0) ∧ In l r L H ∧ V L H = true := by
  have hv := op_v h
  have hc : chk (A - D) (B - C) = (L, H, 0) := by simpa [isub, hv.1, hv.2] using h
  have : chk (a - d) (b - c) = (a - d, b - c, 0) ∧ In (a - d) (b - c) L H ∧ V L H = true := by unfold In at h1 h2; exact chk_inc hc (by omega) (by omega) (by omega)
  exact ⟨_, _, by simpa [isub, h1.v hv.1, h2.v hv.2] using this.1, this.2⟩
theorem mn4_le {a b c d A B C D : Int} (h1 : In a b A B) (h2 : In c d C D) : mn4 (A * C) (A * D) (B * C) (B * D) ≤ mn4 (a * c) (a * d) (b * c) (b * d) ∧ mx4 (a * c) (a * d) (b * c) (b * d) ≤ mx4 (A * C) (A * D) (B * C) (B * D) := by
  unfold In at h1 h2
  have e1 := mul_in (a := A) (b := B) (c := C) (d := D) (x := a) (y := c) (by omega) (by omega) (by omega) (by omega)
  have e2 := mul_in (a := A) (b := B) (c := C) (d := D) (x := a) (y := d) (by omega) (by omega) (by omega) (by omega)
  have e3 := mul_in (a := A) (b := B) (c := C) (d := D) (x := b) (y := c) (by omega) (by omega) (by omega) (by omega)
  have e4 := mul_in (a := A) (b := B) (c := C) (d := D) (x := b) (y := d) (by omega) (by omega) (by omega) (by omega)
  generalize mn4 (A * C) (A * D) (B * C) (B * D) = m at *
  generalize mx4 (A * C) (A * D) (B * C) (B * D) = M at *
  simp only [mn4, mx4]
  omega
theorem mn4_mx4 (x y z w : Int) : mn4 x y z w ≤ mx4 x y z w := by simp only [mn4, mx4]; omega
theorem imul_inc {a b c d A B C D L H : Int} (h1 : In a b A B) (h2 : In c d C D) (h : imul A B C D = (L, H, 0)) : ∃ l r, imul a b c d = (l, r, 0) ∧ In l r L H ∧ V L H = true := by
  have hv := op_v h
  have hc : chk (mn4 (A * C) (A * D) (B * C) (B * D) / 16777216) (cl (mx4 (A * C) (A * D) (B * C) (B * D)) 16777216) = (L, H, 0) := by simpa [imul, hv.1, hv.2] using h
  have hk : (0 : Int) < 16777216 := by omega
  have hm := mn4_le h1 h2
  have := chk_inc hc (fl_mono hk hm.1) (fl_le_cl' hk (mn4_mx4 _ _ _ _)) (cl_mono hk hm.2)
  exact ⟨_, _, by simpa [imul, h1.v hv.1, h2.v hv.2] using this.1, this.2⟩
theorem pdiv_inc {a b c d A B C D L H : Int} (hC : 0 < C) (h1 : In a b A B) (h2 : In c d C D) (h : pdiv A B C D = (L, H, 0)) : ∃ l r, pdiv a b c d = (l, r, 0) ∧ In l r L H ∧ V L H = true := by
  unfold In at h1 h2
  have hc : 0 < c := by omega
  have hd : 0 < d := by omega
  have hD : 0 < D := by omega
  have e1 := fl_div_in (a := A * 16777216) (c := C) (d := D) (y := c) hC (by omega) (by omega)
  have e2 := fl_div_in (a := A * 16777216) (c := C) (d := D) (y := d) hC (by omega) (by omega)
  have e3 := cl_div_in (a := B * 16777216) (c := C) (d := D) (y := c) hC (by omega) (by omega)
  have e4 := cl_div_in (a := B * 16777216) (c := C) (d := D) (y := d) hC (by omega) (by omega)
  have m1 := fl_mono (x := A * 16777216) (y := a * 16777216) hc (by omega)
  have m2 := fl_mono (x := A * 16777216) (y := a * 16777216) hd (by omega)
  have m3 := cl_mono (x := b * 16777216) (y := B * 16777216) hc (by omega)
  have m4 := cl_mono (x := b * 16777216) (y := B * 16777216) hd (by omega)
  have m5 := fl_le_cl' (x := a * 16777216) (y := b * 16777216) hc (by omega)
  have := chk_inc (lo := min (a * 16777216 / c) (a * 16777216 / d)) (hi := max (cl (b * 16777216) c) (cl (b * 16777216) d)) h (by omega) (by omega) (by omega)
  exact ⟨_, _, this.1, this.2⟩
theorem idiv_inc {a b c d A B C D L H : Int} (h1 : In a b A B) (h2 : In c d C D) (h : idiv A B C D = (L, H, 0)) : ∃ l r, idiv a b c d = (l, r, 0) ∧ In l r L H ∧ V L H = true := by
  have hv := op_v h
  have h0 : ¬ (C ≤ 0 ∧ 0 ≤ D) := fun h0 => by simp [idiv, hv.1, hv.2, h0] at h
  have hi0 : ¬ (c ≤ 0 ∧ 0 ≤ d) := by unfold In at h1 h2; omega
  simp only [idiv, hv.1, hv.2, h1.v hv.1, h2.v hv.2, Bool.and_self, cond_true, if_neg h0, if_neg hi0] at h ⊢
  have hCD : C ≤ D := by unfold In at h1 h2; omega
  by_cases hD : D < 0
  · have hd : d < 0 := by unfold In at h1 h2; omega
    rw [if_pos hD] at h
    rw [if_pos hd]
    exact pdiv_inc (by omega) (by unfold In at h1 h2 ⊢; omega) (by unfold In at h1 h2 ⊢; omega) h
  · have hd : ¬ d < 0 := by unfold In at h1 h2; omega
    rw [if_neg hD] at h
    rw [if_neg hd]
    exact pdiv_inc (by omega) h1 h2 h
def sqlo (a b : Int) : Int := if a ≤ 0 ∧ 0 ≤ b then 0 else min (a * a) (b * b)
theorem sqlo_le {a b x : Int} (h1 : a ≤ x) (h2 : x ≤ b) : sqlo a b ≤ x * x ∧ x * x ≤ max (a * a) (b * b) := by
  have sa := sq_nonneg a
  have sb := sq_nonneg b
  constructor
  · unfold sqlo
    split
    · exact sq_nonneg x
    · by_cases hx : 0 < a
      · have := sq_mono (x := a) (y := x) (by omega) (by omega)
        omega
      · have := sq_mono (x := -b) (y := -x) (by omega) (by omega)
        rw [Int.neg_mul_neg, Int.neg_mul_neg] at this
        omega
  · by_cases hx : 0 ≤ x
    · have := sq_mono (x := x) (y := b) (by omega) h2
      omega
    · have := sq_mono (x := -x) (y := -a) (by omega) (by omega)
      rw [Int.neg_mul_neg, Int.neg_mul_neg] at this
      omega
theorem sqlo_inc {a b A B : Int} (h : In a b A B) : sqlo A B ≤ sqlo a b ∧ max (a * a) (b * b) ≤ max (A * A) (B * B) ∧ sqlo a b ≤ max (a * a) (b * b) := by
  unfold In at h
  have e1 := sqlo_le (a := A) (b := B) (x := a) (by omega) (by omega)
  have e2 := sqlo_le (a := A) (b := B) (x := b) (by omega) (by omega)
  have sa := sq_nonneg a
  have sb := sq_nonneg b
  refine ⟨?_, by omega, by unfold sqlo; split <;> omega⟩
  unfold sqlo at e1 e2 ⊢
  split <;> split
  · omega
  · omega
  · omega
  · simp_all; omega
theorem isq_inc {a b A B L H : Int} (h1 : In a b A B) (h : isq A B = (L, H, 0)) : ∃ l r, isq a b = (l, r, 0) ∧ In l r L H ∧ V L H = true := by
  have hv : V A B = true := by cases hv : V A B <;> simp [isq, hv] at h ⊢
  have hc : chk (sqlo A B / 16777216) (cl (max (A * A) (B * B)) 16777216) = (L, H, 0) := by simpa [isq, hv, sqlo] using h
  have hk : (0 : Int) < 16777216 := by omega
  have hm := sqlo_inc h1
  have := chk_inc hc (fl_mono hk hm.1) (fl_le_cl' hk hm.2.2) (cl_mono hk hm.2.1)
  exact ⟨_, _, by simpa [isq, h1.v hv, sqlo] using this.1, this.2⟩
theorem cut_mono {x y : Int} (h : x ≤ y) : cut x ≤ cut y := by unfold cut; omega
theorem cut_range (x : Int) : 0 ≤ cut x ∧ cut x ≤ 16777216 := by unfold cut; omega
theorem fin_inc {r R : Int × Int × Int} {L H : Int} (hR : fin R = (L, H, 0)) (h : ∀ L H, R = (L, H, 0) → ∃ l u, r = (l, u, 0) ∧ In l u L H ∧ V L H = true) : ∃ l u, fin r = (l, u, 0) ∧ In l u L H ∧ V L H = true := by
  have hb := bnd_inv (r := R) (k := fun x y => (cut x, cut y, 0)) (by rw [show bnd R (fun x y => (cut x, cut y, 0)) = (L, H, 0) from hR])
  obtain ⟨l, u, e1, e2, e3⟩ := h _ _ hb.1
  have e4 : fin R = (cut R.1, cut R.2.1, 0) := hb.2
  rw [hR] at e4
  simp only [Prod.mk.injEq, and_true] at e4
  unfold In at e2
  have m1 := cut_mono e2.1
  have m2 := cut_mono e2.2.1
  have m3 := cut_mono e2.2.2
  have r1 := cut_range R.1
  have r2 := cut_range R.2.1
  refine ⟨cut l, cut u, bnd_ok e1, ?_, V_iff.2 (by omega)⟩
  unfold In; omega
theorem bnd_inc {r R : Int × Int × Int} {k K : Int → Int → Int × Int × Int} {L H : Int} (hR : bnd R K = (L, H, 0)) (h : ∀ L H, R = (L, H, 0) → ∃ l u, r = (l, u, 0) ∧ In l u L H ∧ V L H = true)
    (hk : ∀ a b A B L H, In a b A B → K A B = (L, H, 0) → ∃ l u, k a b = (l, u, 0) ∧ In l u L H ∧ V L H = true) : ∃ l u, bnd r k = (l, u, 0) ∧ In l u L H ∧ V L H = true := by
  have hb := bnd_inv (r := R) (k := K) (by rw [hR])
  obtain ⟨l, u, e1, e2, e3⟩ := h _ _ hb.1
  obtain ⟨l', u', f1, f2, f3⟩ := hk l u R.1 R.2.1 L H e2 (by rw [← hb.2]; exact hR)
  exact ⟨l', u', by rw [bnd_ok e1]; exact f1, f2, f3⟩
theorem shr_inc {a b c d A B C D L H : Int} (h1 : In a b A B) (h2 : In c d C D) (h : shr A B C D = (L, H, 0)) : ∃ l r, shr a b c d = (l, r, 0) ∧ In l r L H ∧ V L H = true :=
  bnd_inc h (fun _ _ e => isub_inc h1 h2 e) fun x y X Y _ _ hx e => bnd_inc e (fun _ _ e => iadd_inc h1 h2 e) fun u v U V _ _ hu e => bnd_inc e (fun _ _ e => idiv_inc hx hu e) fun _ _ _ _ _ _ hq e => fin_inc e fun _ _ e => isq_inc hq e
theorem mean_inc {r s R S : Int × Int × Int} {L H : Int} (hr : ∀ L H, R = (L, H, 0) → ∃ l u, r = (l, u, 0) ∧ In l u L H ∧ V L H = true) (hs : ∀ L H, S = (L, H, 0) → ∃ l u, s = (l, u, 0) ∧ In l u L H ∧ V L H = true) (h : mean R S = (L, H, 0)) : ∃ l u, mean r s = (l, u, 0) ∧ In l u L H ∧ V L H = true :=
  bnd_inc h hr fun _ _ _ _ _ _ h1 e => bnd_inc e hs fun _ _ _ _ _ _ h2 e => bnd_inc e (fun _ _ e => iadd_inc h1 h2 e) fun _ _ _ _ _ _ h3 e => fin_inc e fun _ _ e => imul_inc h3 (by unfold In; omega) e
theorem wn_in {a b A B k l : Int} (h : In a b A B) (hw : wn A B k l = true) : wn a b k l = true := by
  have := wn_iff.1 hw
  unfold In at h
  exact wn_iff.2 (by omega)
theorem srf_in {a0 a1 a2 a3 a4 a5 a6 a7 b0 b1 b2 b3 b4 b5 b6 b7 : Int} (h0 : In b0 b1 a0 a1) (h1 : In b2 b3 a2 a3) (h2 : In b4 b5 a4 a5) (h3 : In b6 b7 a6 a7) (h : srf a0 a1 a2 a3 a4 a5 a6 a7 = true) : srf b0 b1 b2 b3 b4 b5 b6 b7 = true := by
  simp only [srf, Bool.and_eq_true] at h ⊢
  exact ⟨wn_in h0 h.1, wn_in h1 h.2.1, wn_in h2 h.2.2.1, wn_in h3 h.2.2.2⟩
theorem refl_inc {a0 a1 a2 a3 a4 a5 a6 a7 b0 b1 b2 b3 b4 b5 b6 b7 L H : Int} (h0 : In b0 b1 a0 a1) (h1 : In b2 b3 a2 a3) (h2 : In b4 b5 a4 a5) (h3 : In b6 b7 a6 a7) (hs : srf a0 a1 a2 a3 a4 a5 a6 a7 = true) (h : refl a0 a1 a2 a3 a4 a5 a6 a7 = (L, H, 0)) : ∃ l u, refl b0 b1 b2 b3 b4 b5 b6 b7 = (l, u, 0) ∧ In l u L H ∧ V L H = true := by
  have hs' := srf_in h0 h1 h2 h3 hs
  refine mean_inc (fun L H e => ?_) (fun L H e => ?_) h
  · simp only [pol, hs, hs', cond_true] at e ⊢
    exact bnd_inc e (fun _ _ e => imul_inc h2 h0 e) fun _ _ _ _ _ _ hp e => bnd_inc e (fun _ _ e => imul_inc h3 h1 e) fun _ _ _ _ _ _ hq e => shr_inc hp hq e
  · simp only [pol, hs, hs', cond_true] at e ⊢
    exact bnd_inc e (fun _ _ e => imul_inc h2 h1 e) fun _ _ _ _ _ _ hp e => bnd_inc e (fun _ _ e => imul_inc h3 h0 e) fun _ _ _ _ _ _ hq e => shr_inc hp hq e

/-! ### from 0 to 1 -/
theorem fin_range {r : Int × Int × Int} {L H : Int} (h : fin r = (L, H, 0)) (hr : ∀ a b, r = (a, b, 0) → a ≤ b) : 0 ≤ L ∧ L ≤ H ∧ H ≤ 16777216 := by
  have hb := bnd_inv (r := r) (k := fun x y => (cut x, cut y, 0)) (by rw [show bnd r (fun x y => (cut x, cut y, 0)) = (L, H, 0) from h])
  have e : fin r = (cut r.1, cut r.2.1, 0) := hb.2
  rw [h] at e
  simp only [Prod.mk.injEq, and_true] at e
  have := cut_mono (hr _ _ hb.1)
  have := cut_range r.1
  have := cut_range r.2.1
  omega
theorem imul_ord {a b c d L H : Int} (h : imul a b c d = (L, H, 0)) : L ≤ H := by
  have hv := op_v h
  have hc : chk (mn4 (a * c) (a * d) (b * c) (b * d) / 16777216) (cl (mx4 (a * c) (a * d) (b * c) (b * d)) 16777216) = (L, H, 0) := by simpa [imul, hv.1, hv.2] using h
  have := chk_ok hc
  omega
theorem isq_ord {a b L H : Int} (h : isq a b = (L, H, 0)) : L ≤ H := by
  have hv : V a b = true := by cases hv : V a b <;> simp [isq, hv] at h ⊢
  have hc : chk (sqlo a b / 16777216) (cl (max (a * a) (b * b)) 16777216) = (L, H, 0) := by simpa [isq, hv, sqlo] using h
  have := chk_ok hc
  omega
theorem refl_range {a0 a1 a2 a3 a4 a5 a6 a7 L H : Int} (h : refl a0 a1 a2 a3 a4 a5 a6 a7 = (L, H, 0)) : 0 ≤ L ∧ L ≤ H ∧ H ≤ 16777216 := by
  unfold refl mean at h
  have h1 := bnd_inv (by rw [h])
  rw [h1.2] at h
  have h2 := bnd_inv (by rw [h])
  rw [h2.2] at h
  have h3 := bnd_inv (by rw [h])
  rw [h3.2] at h
  exact fin_range h fun _ _ e => imul_ord e
theorem isub_one {x y : Int} (h1 : 0 ≤ x) (h2 : x ≤ y) (h3 : y ≤ 16777216) : isub 16777216 16777216 x y = (16777216 - y, 16777216 - x, 0) := by
  have v : V x y = true := V_iff.2 (by omega)
  have v' : V 16777216 16777216 = true := rfl
  simp only [isub, v, v', Bool.and_self, cond_true]
  exact chk_of (by omega) (by omega) (by omega)
theorem trn_of {a0 a1 a2 a3 a4 a5 a6 a7 L H : Int} (h : refl a0 a1 a2 a3 a4 a5 a6 a7 = (L, H, 0)) : trn a0 a1 a2 a3 a4 a5 a6 a7 = (16777216 - H, 16777216 - L, 0) := by
  have := refl_range h
  unfold trn
  rw [bnd_ok h]
  exact isub_one (by omega) (by omega) (by omega)

/-! ### products of positive intervals -/
theorem imul_pos {a b c d : Int} (ha : 0 ≤ a) (hab : a ≤ b) (hb : b ≤ 1073741824) (hc : 0 ≤ c) (hcd : c ≤ d) (hd : d ≤ 1073741824) : imul a b c d = chk (a * c / 16777216) (cl (b * d) 16777216) := by
  have v : V a b = true := V_iff.2 (by omega)
  have v' : V c d = true := V_iff.2 (by omega)
  have e1 : a * c ≤ a * d := Int.mul_le_mul_of_nonneg_left hcd ha
  have e2 : a * c ≤ b * c := Int.mul_le_mul_of_nonneg_right hab hc
  have e3 : a * d ≤ b * d := Int.mul_le_mul_of_nonneg_right hab (by omega)
  have e4 : b * c ≤ b * d := Int.mul_le_mul_of_nonneg_left hcd (by omega)
  simp only [imul, v, v', Bool.and_self, cond_true]
  rw [show mn4 (a * c) (a * d) (b * c) (b * d) = a * c from by simp only [mn4]; omega, show mx4 (a * c) (a * d) (b * c) (b * d) = b * d from by simp only [mx4]; omega]
theorem imul_idx {f g c d : Int} (h1 : 16777216 ≤ f) (h2 : f ≤ g) (h3 : g ≤ 67108864) (h4 : 0 ≤ c) (h5 : c ≤ d) (h6 : d ≤ 16777216) : imul f g c d = (f * c / 16777216, cl (g * d) 16777216, 0) ∧ c ≤ f * c / 16777216 ∧ f * c / 16777216 ≤ cl (g * d) 16777216 ∧ cl (g * d) 16777216 ≤ 67108864 := by
  have hk : (0 : Int) < 16777216 := by omega
  have e1 : f * c ≤ g * d := Int.mul_le_mul h2 h5 h4 (by omega)
  have e2 : g * d ≤ 67108864 * 16777216 := Int.mul_le_mul h3 h6 (by omega) (by omega)
  have e3 : 16777216 * c ≤ f * c := Int.mul_le_mul_of_nonneg_right h1 h4
  have m1 : c ≤ f * c / 16777216 := (le_fl hk).2 (by omega)
  have m2 := fl_le_cl' hk e1
  have m3 : cl (g * d) 16777216 ≤ 67108864 := (cl_le hk).2 (by omega)
  exact ⟨by rw [imul_pos (by omega) h2 (by omega) h4 h5 (by omega)]; exact chk_of (by omega) m2 (by omega), m1, m2, m3⟩
theorem imul_one {f g : Int} (h1 : 0 ≤ f) (h2 : f ≤ g) (h3 : g ≤ 1073741824) : imul f g 16777216 16777216 = (f, g, 0) := by
  rw [imul_pos h1 h2 h3 (by omega) (by omega) (by omega)]
  have e1 : f * 16777216 / 16777216 = f := by omega
  have e2 : cl (g * 16777216) 16777216 = g := by unfold cl; omega
  rw [e1, e2]
  exact chk_of (by omega) h2 h3
/-- The share of two intervals from 0 to 4. -/
theorem shr_of {p0 p1 q0 q1 : Int} (h1 : 0 ≤ p0) (h2 : p0 ≤ p1) (h3 : p1 ≤ 67108864) (h4 : 0 ≤ q0) (h5 : q0 ≤ q1) (h6 : q1 ≤ 67108864) :
    shr p0 p1 q0 q1 = if p0 + q0 ≤ 0 then (0, 0, 10) else bnd (pdiv (p0 - q1) (p1 - q0) (p0 + q0) (p1 + q1)) fun x0 x1 => fin (isq x0 x1) := by
  have vp : V p0 p1 = true := V_iff.2 (by omega)
  have vq : V q0 q1 = true := V_iff.2 (by omega)
  have hd : isub p0 p1 q0 q1 = (p0 - q1, p1 - q0, 0) := by simp only [isub, vp, vq, Bool.and_self, cond_true]; exact chk_of (by omega) (by omega) (by omega)
  have hs : iadd p0 p1 q0 q1 = (p0 + q0, p1 + q1, 0) := by simp only [iadd, vp, vq, Bool.and_self, cond_true]; exact chk_of (by omega) (by omega) (by omega)
  have vd : V (p0 - q1) (p1 - q0) = true := V_iff.2 (by omega)
  have vs : V (p0 + q0) (p1 + q1) = true := V_iff.2 (by omega)
  unfold shr
  rw [bnd_ok hd, bnd_ok hs]
  simp only [idiv, vd, vs, Bool.and_self, cond_true]
  by_cases h0 : p0 + q0 ≤ 0
  · rw [if_pos h0, if_pos ⟨h0, by omega⟩]; rfl
  · rw [if_neg h0, if_neg (by omega), if_neg (by omega)]

/-! ### turned -/
theorem isq_neg (a b : Int) : isq (-b) (-a) = isq a b := by
  have v : V (-b) (-a) = V a b := by
    simp only [V]
    congr 1
    apply propext
    constructor <;> intro h <;> omega
  simp only [isq, v, Int.neg_mul_neg]
  have e : (if -b ≤ 0 ∧ 0 ≤ -a then (0 : Int) else min (b * b) (a * a)) = if a ≤ 0 ∧ 0 ≤ b then 0 else min (a * a) (b * b) := by
    by_cases h : a ≤ 0 ∧ 0 ≤ b
    · rw [if_pos h, if_pos (by omega)]
    · rw [if_neg h, if_neg (by omega), Int.min_comm]
  rw [e, Int.max_comm]
theorem pdiv_neg (a b c d : Int) : bnd (pdiv (-b) (-a) c d) (fun x y => fin (isq x y)) = bnd (pdiv a b c d) (fun x y => fin (isq x y)) := by
  have e1 : ∀ u v : Int, -u * 16777216 / v = -cl (u * 16777216) v := fun u v => by simp only [cl, Int.neg_neg, Int.neg_mul]
  have e2 : ∀ u v : Int, cl (-u * 16777216) v = -(u * 16777216 / v) := fun u v => by simp only [cl, Int.neg_neg, Int.neg_mul]
  simp only [pdiv, e1, e2]
  generalize h1 : cl (b * 16777216) c = x
  generalize h2 : cl (b * 16777216) d = y
  generalize h3 : a * 16777216 / c = z
  generalize h4 : a * 16777216 / d = w
  rw [show min (-x) (-y) = -(max x y) from by omega, show max (-z) (-w) = -(min z w) from by omega]
  generalize max x y = H
  generalize min z w = L
  have v : V (-H) (-L) = V L H := by
    simp only [V]
    congr 1
    apply propext
    constructor <;> intro h <;> omega
  unfold chk
  rw [v]
  cases V L H with
  | false => rfl
  | true =>
    simp only [cond_true]
    rw [bnd_ok rfl, bnd_ok rfl, isq_neg]
theorem shr_comm {p0 p1 q0 q1 : Int} (h1 : 0 ≤ p0) (h2 : p0 ≤ p1) (h3 : p1 ≤ 67108864) (h4 : 0 ≤ q0) (h5 : q0 ≤ q1) (h6 : q1 ≤ 67108864) : shr q0 q1 p0 p1 = shr p0 p1 q0 q1 := by
  rw [shr_of h1 h2 h3 h4 h5 h6, shr_of h4 h5 h6 h1 h2 h3, Int.add_comm q0, Int.add_comm q1, show q0 - p1 = -(p1 - q0) from by omega, show q1 - p0 = -(p0 - q1) from by omega, pdiv_neg]
theorem srf_turn (a0 a1 a2 a3 a4 a5 a6 a7 : Int) : srf a2 a3 a0 a1 a6 a7 a4 a5 = srf a0 a1 a2 a3 a4 a5 a6 a7 := by
  simp only [srf]
  cases wn a0 a1 0 1 <;> cases wn a2 a3 0 1 <;> cases wn a4 a5 1 4 <;> cases wn a6 a7 1 4 <;> rfl
theorem srf_iff {a0 a1 a2 a3 a4 a5 a6 a7 : Int} : srf a0 a1 a2 a3 a4 a5 a6 a7 = true ↔ (0 ≤ a0 ∧ a0 ≤ a1 ∧ a1 ≤ 16777216) ∧ (0 ≤ a2 ∧ a2 ≤ a3 ∧ a3 ≤ 16777216) ∧ (16777216 ≤ a4 ∧ a4 ≤ a5 ∧ a5 ≤ 67108864) ∧ (16777216 ≤ a6 ∧ a6 ≤ a7 ∧ a7 ≤ 67108864) := by
  simp only [srf, Bool.and_eq_true, wn_iff]; omega
theorem pol_turn {a0 a1 a2 a3 a4 a5 a6 a7 x0 x1 y0 y1 : Int} (hx : 0 ≤ x0 ∧ x0 ≤ x1 ∧ x1 ≤ 16777216 ∨ srf a0 a1 a2 a3 a4 a5 a6 a7 = false) (hy : 0 ≤ y0 ∧ y0 ≤ y1 ∧ y1 ≤ 16777216 ∨ srf a0 a1 a2 a3 a4 a5 a6 a7 = false) : pol a2 a3 a0 a1 a6 a7 a4 a5 y0 y1 x0 x1 = pol a0 a1 a2 a3 a4 a5 a6 a7 x0 x1 y0 y1 := by
  unfold pol
  rw [srf_turn]
  cases h : srf a0 a1 a2 a3 a4 a5 a6 a7 with
  | false => rfl
  | true =>
    have hs := srf_iff.1 h
    simp only [h, Bool.true_eq_false, or_false] at hx hy
    simp only [cond_true]
    have m1 := imul_idx (f := a4) (g := a5) (c := x0) (d := x1) (by omega) (by omega) (by omega) (by omega) (by omega) (by omega)
    have m2 := imul_idx (f := a6) (g := a7) (c := y0) (d := y1) (by omega) (by omega) (by omega) (by omega) (by omega) (by omega)
    rw [bnd_ok m1.1, bnd_ok m2.1, bnd_ok m2.1, bnd_ok m1.1]
    exact shr_comm (by omega) (by omega) (by omega) (by omega) (by omega) (by omega)

/-! ### straight -/
theorem pol_one (a b c d : Int) : pol 16777216 16777216 16777216 16777216 a b c d 16777216 16777216 16777216 16777216 = bif wn a b 1 4 && wn c d 1 4 then shr a b c d else (0, 0, 1) := by
  unfold pol
  have e : srf 16777216 16777216 16777216 16777216 a b c d = (wn a b 1 4 && wn c d 1 4) := by
    simp only [srf]
    rw [show wn 16777216 16777216 0 1 = true from rfl]
    simp
  rw [e]
  cases h : wn a b 1 4 && wn c d 1 4 with
  | false => rfl
  | true =>
    rw [Bool.and_eq_true] at h
    have h1 := wn_iff.1 h.1
    have h2 := wn_iff.1 h.2
    simp only [cond_true]
    rw [bnd_ok (imul_one (by omega) (by omega) (by omega)), bnd_ok (imul_one (by omega) (by omega) (by omega))]
theorem shr_same {a : Int} (h1 : 0 < a) (h2 : a ≤ 67108864) : shr a a a a = (0, 0, 0) := by
  rw [shr_of (by omega) (by omega) (by omega) (by omega) (by omega) (by omega), if_neg (by omega)]
  have e : pdiv (a - a) (a - a) (a + a) (a + a) = (0, 0, 0) := by
    rw [Int.sub_self]
    simp only [pdiv, cl, Int.zero_mul, Int.neg_zero, Int.zero_ediv]
    rfl
  rw [bnd_ok e]
  rfl

/-! ### grazing -/
theorem shr_zero {q0 q1 L H : Int} (h4 : 0 ≤ q0) (h5 : q0 ≤ q1) (h6 : q1 ≤ 67108864) (h : shr 0 0 q0 q1 = (L, H, 0)) : L ≤ 16777216 ∧ H = 16777216 := by
  rw [shr_of (by omega) (by omega) (by omega) h4 h5 h6] at h
  by_cases h0 : 0 + q0 ≤ 0
  · rw [if_pos h0] at h; simp at h
  · rw [if_neg h0] at h
    have hb := bnd_inv (by rw [h])
    rw [hb.2] at h
    have hc := chk_ok hb.1
    have hk : (0 : Int) < 16777216 := by omega
    have d1 : (0 - q1) * 16777216 / (0 + q1) = -16777216 := by
      rw [Int.zero_add, show (0 - q1) * 16777216 = -16777216 * q1 from by omega]
      exact Int.mul_ediv_cancel _ (by omega)
    have d2 : cl ((0 - q0) * 16777216) (0 + q0) = -16777216 := by
      unfold cl
      rw [Int.zero_add, show -((0 - q0) * 16777216) = 16777216 * q0 from by omega, Int.mul_ediv_cancel _ (by omega)]
    rw [d1, d2] at hc
    have hf := bnd_inv (r := isq (pdiv (0 - q1) (0 - q0) (0 + q0) (0 + q1)).1 (pdiv (0 - q1) (0 - q0) (0 + q0) (0 + q1)).2.1) (k := fun x y => (cut x, cut y, 0)) (by rw [show bnd (isq _ _) (fun x y => (cut x, cut y, 0)) = (L, H, 0) from h])
    generalize (pdiv (0 - q1) (0 - q0) (0 + q0) (0 + q1)).1 = x0 at *
    generalize (pdiv (0 - q1) (0 - q0) (0 + q0) (0 + q1)).2.1 = x1 at *
    have hfin : fin (isq x0 x1) = (cut (isq x0 x1).1, cut (isq x0 x1).2.1, 0) := hf.2
    rw [h] at hfin
    have hi := hf.1
    have hx : V x0 x1 = true := V_iff.2 (by omega)
    have hq : chk (sqlo x0 x1 / 16777216) (cl (max (x0 * x0) (x1 * x1)) 16777216) = ((isq x0 x1).1, (isq x0 x1).2.1, 0) := by
      rw [← hi]; simp [isq, hx, sqlo]
    have hq' := chk_ok hq
    have s1 : (16777216 : Int) * 16777216 ≤ -x0 * -x0 := sq_mono (x := 16777216) (y := -x0) (by omega) (by omega)
    rw [Int.neg_mul_neg] at s1
    have s2 := cl_mono hk (x := 16777216 * 16777216) (y := max (x0 * x0) (x1 * x1)) (by omega)
    have s3 : cl (16777216 * 16777216) 16777216 = 16777216 := rfl
    simp only [Prod.mk.injEq, and_true] at hfin
    have := cut_range (isq x0 x1).1
    refine ⟨by omega, ?_⟩
    rw [hfin.2]
    unfold cut
    omega
theorem half {L : Int} (h1 : 0 ≤ L) (h2 : L ≤ 33554432) : fin (imul L 33554432 8388608 8388608) = (cut (L * 8388608 / 16777216), 16777216, 0) := by
  rw [imul_pos h1 h2 (by omega) (by omega) (by omega) (by omega)]
  have e : cl (33554432 * 8388608) 16777216 = 16777216 := rfl
  rw [e, chk_of (by omega) (by omega) (by omega)]
  rfl
theorem chk_err (a b : Int) : (chk a b).2.2 = 0 ∨ (chk a b).2.2 = 3 := by rcases chk_eq a b with h | h <;> rw [h.1] <;> simp
theorem bnd_cases (r : Int × Int × Int) (k : Int → Int → Int × Int × Int) : r.2.2 ≠ 0 ∧ bnd r k = (0, 0, r.2.2) ∨ r = (r.1, r.2.1, 0) ∧ bnd r k = k r.1 r.2.1 := by
  unfold bnd
  by_cases h0 : r.2.2 = 0
  · right
    exact ⟨by rw [← h0], by rw [h0]; rfl⟩
  · left
    have hb : (r.2.2 != 0) = true := by simp [h0]
    exact ⟨h0, by rw [hb]; rfl⟩
theorem shr_err {p0 p1 q0 q1 : Int} (h1 : 0 ≤ p0) (h2 : p0 ≤ p1) (h3 : p1 ≤ 67108864) (h4 : 0 ≤ q0) (h5 : q0 ≤ q1) (h6 : q1 ≤ 67108864) : (shr p0 p1 q0 q1).2.2 = 0 ∨ (shr p0 p1 q0 q1).2.2 = 3 ∨ p0 + q0 ≤ 0 := by
  rw [shr_of h1 h2 h3 h4 h5 h6]
  by_cases h0 : p0 + q0 ≤ 0
  · exact .inr (.inr h0)
  · rw [if_neg h0]
    rcases bnd_cases (pdiv (p0 - q1) (p1 - q0) (p0 + q0) (p1 + q1)) (fun x0 x1 => fin (isq x0 x1)) with ⟨e, h⟩ | ⟨e, h⟩
    · rw [h]
      have := chk_err (min ((p0 - q1) * 16777216 / (p0 + q0)) ((p0 - q1) * 16777216 / (p1 + q1))) (max (cl ((p1 - q0) * 16777216) (p0 + q0)) (cl ((p1 - q0) * 16777216) (p1 + q1)))
      rcases this with e' | e'
      · exact absurd e' e
      · exact .inr (.inl e')
    · rw [h]
      have hc := chk_ok e
      generalize (pdiv (p0 - q1) (p1 - q0) (p0 + q0) (p1 + q1)).1 = x0 at *
      generalize (pdiv (p0 - q1) (p1 - q0) (p0 + q0) (p1 + q1)).2.1 = x1 at *
      have hx : V x0 x1 = true := V_iff.2 (by omega)
      rcases bnd_cases (isq x0 x1) (fun x y => (cut x, cut y, 0)) with ⟨e, h⟩ | ⟨e, h⟩
      · rw [show fin (isq x0 x1) = (0, 0, (isq x0 x1).2.2) from h]
        have e2 : isq x0 x1 = chk ((if x0 ≤ 0 ∧ 0 ≤ x1 then 0 else min (x0 * x0) (x1 * x1)) / 16777216) (cl (max (x0 * x0) (x1 * x1)) 16777216) := by simp only [isq, hx, cond_true]
        rw [e2] at e ⊢
        rcases chk_err ((if x0 ≤ 0 ∧ 0 ≤ x1 then 0 else min (x0 * x0) (x1 * x1)) / 16777216) (cl (max (x0 * x0) (x1 * x1)) 16777216) with e' | e'
        · exact absurd e' e
        · exact .inr (.inl e')
      · rw [show fin (isq x0 x1) = _ from h]
        exact .inl rfl
theorem graze_mean {r s : Int × Int × Int} {n : Prop} (hr : r.2.2 = 0 ∨ r.2.2 = 3 ∨ n) (hs : s.2.2 = 0 ∨ s.2.2 = 3 ∨ n) (hr' : ∀ L H, r = (L, H, 0) → 0 ≤ L ∧ L ≤ 16777216 ∧ H = 16777216) (hs' : ∀ L H, s = (L, H, 0) → 0 ≤ L ∧ L ≤ 16777216 ∧ H = 16777216) :
    (mean r s).2.2 ≠ 0 ∧ ((mean r s).2.2 = 1 ∨ (mean r s).2.2 = 3 ∨ n) ∨ (mean r s).2.2 = 0 ∧ (mean r s).1 ≤ 16777216 ∧ (mean r s).2.1 = 16777216 := by
  unfold mean
  rcases bnd_cases r (fun p0 p1 => bnd s fun q0 q1 => bnd (iadd p0 p1 q0 q1) fun s0 s1 => fin (imul s0 s1 8388608 8388608)) with ⟨e, h⟩ | ⟨e, h⟩
  · rw [h]
    exact .inl ⟨e, by rcases hr with x | x | x; exact absurd x e; exact .inr (.inl x); exact .inr (.inr x)⟩
  · rw [h]
    rcases bnd_cases s (fun q0 q1 => bnd (iadd r.1 r.2.1 q0 q1) fun s0 s1 => fin (imul s0 s1 8388608 8388608)) with ⟨e2, h2⟩ | ⟨e2, h2⟩
    · rw [h2]
      exact .inl ⟨e2, by rcases hs with x | x | x; exact absurd x e2; exact .inr (.inl x); exact .inr (.inr x)⟩
    · rw [h2]
      have g1 := hr' _ _ e
      have g2 := hs' _ _ e2
      generalize r.1 = r0 at *
      generalize r.2.1 = r1 at *
      generalize s.1 = s0 at *
      generalize s.2.1 = s1 at *
      have v1 : V r0 r1 = true := V_iff.2 (by omega)
      have v2 : V s0 s1 = true := V_iff.2 (by omega)
      have ha : iadd r0 r1 s0 s1 = (r0 + s0, 33554432, 0) := by
        simp only [iadd, v1, v2, Bool.and_self, cond_true]
        rw [show r1 + s1 = 33554432 from by omega]
        exact chk_of (by omega) (by omega) (by omega)
      rw [bnd_ok ha, half (by omega) (by omega)]
      exact .inr ⟨rfl, (cut_range _).2, rfl⟩
theorem shr_lo {p0 p1 q0 q1 L H : Int} (h : shr p0 p1 q0 q1 = (L, H, 0)) : 0 ≤ L := by
  unfold shr at h
  have h1 := bnd_inv (by rw [h])
  rw [h1.2] at h
  have h2 := bnd_inv (by rw [h])
  rw [h2.2] at h
  have h3 := bnd_inv (by rw [h])
  rw [h3.2] at h
  exact (fin_range h fun _ _ e => isq_ord e).1
theorem imul_zero {f g : Int} (h1 : 0 ≤ f) (h2 : f ≤ g) (h3 : g ≤ 1073741824) : imul f g 0 0 = (0, 0, 0) := by
  rw [imul_pos h1 h2 h3 (by omega) (by omega) (by omega), Int.mul_zero, Int.mul_zero]
  rfl
theorem refl_graze {a2 a3 a4 a5 a6 a7 : Int} : (refl 0 0 a2 a3 a4 a5 a6 a7).2.2 ≠ 0 ∧ ((refl 0 0 a2 a3 a4 a5 a6 a7).2.2 = 1 ∨ (refl 0 0 a2 a3 a4 a5 a6 a7).2.2 = 3 ∨ a2 = 0) ∨ (refl 0 0 a2 a3 a4 a5 a6 a7).2.2 = 0 ∧ (refl 0 0 a2 a3 a4 a5 a6 a7).1 ≤ 16777216 ∧ (refl 0 0 a2 a3 a4 a5 a6 a7).2.1 = 16777216 := by
  unfold refl pol
  cases h : srf 0 0 a2 a3 a4 a5 a6 a7 with
  | false => exact .inl ⟨by show (1 : Int) ≠ 0; omega, .inl rfl⟩
  | true =>
    have hs := srf_iff.1 h
    simp only [cond_true]
    have m1 := imul_idx (f := a4) (g := a5) (c := a2) (d := a3) (by omega) (by omega) (by omega) (by omega) (by omega) (by omega)
    have m2 := imul_idx (f := a6) (g := a7) (c := a2) (d := a3) (by omega) (by omega) (by omega) (by omega) (by omega) (by omega)
    rw [bnd_ok (imul_zero (f := a4) (g := a5) (by omega) (by omega) (by omega)), bnd_ok m2.1, bnd_ok m1.1, bnd_ok (imul_zero (f := a6) (g := a7) (by omega) (by omega) (by omega)), shr_comm (p0 := 0) (p1 := 0) (by omega) (by omega) (by omega) (by omega) (by omega) (by omega)]
    refine graze_mean ?_ ?_ (fun L H e => ?_) (fun L H e => ?_)
    · rcases shr_err (p0 := 0) (p1 := 0) (q0 := a6 * a2 / 16777216) (q1 := cl (a7 * a3) 16777216) (by omega) (by omega) (by omega) (by omega) (by omega) (by omega) with x | x | x
      · exact .inl x
      · exact .inr (.inl x)
      · exact .inr (.inr (by omega))
    · rcases shr_err (p0 := 0) (p1 := 0) (q0 := a4 * a2 / 16777216) (q1 := cl (a5 * a3) 16777216) (by omega) (by omega) (by omega) (by omega) (by omega) (by omega) with x | x | x
      · exact .inl x
      · exact .inr (.inl x)
      · exact .inr (.inr (by omega))
    · exact ⟨shr_lo e, shr_zero (by omega) (by omega) (by omega) e⟩
    · exact ⟨shr_lo e, shr_zero (by omega) (by omega) (by omega) e⟩
end Go.Proofs.YtpghmdjjkpjnfaaDoor.G
