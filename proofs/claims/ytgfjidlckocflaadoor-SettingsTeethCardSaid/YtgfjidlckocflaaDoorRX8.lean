/- RX, part 8: code; calls that are gone into; loops. -/
import Derived.Test.YtgfjidlckocflaaDoorRX7
import Derived.Test.YtgfjidlckocflaaDoorRXD
namespace RX
open Go Go.RowKit
set_option linter.unusedVariables false

section
variable (P : Program) (E : Env) {R : Type}

def stepK (cf : Nat → List Value → Heap → Nat → (Value → Heap → Nat → Option R) → Option R) (o : Oper) (S : St) (k : St → Option R) : Option R :=
  match effAll P E S.nxt o S.tmps S.heap with
  | some ⟨need, r⟩ => bif need then fRm E r fun r' => fS ⟨putT S.tmps o.dst r'.v, app r'.ws S.heap, S.nxt + 16⟩ k else none
  | none =>
    match o.op with
    | .call c =>
      (match c.callee with
      | .value x =>
        bif evOk x && c.args.toList.all evOk then
          (match ev S.tmps x with
          | .func (.func f) ⟨first⟩ ⟨cap⟩ => cf f (first ++ c.args.toList.map (ev S.tmps) ++ cap) S.heap S.nxt fun v H nx => fS ⟨putT S.tmps o.dst v, H, nx⟩ k
          | _ => none)
        else none
      | _ => none)
    | _ => none

def seqK (cf : Nat → List Value → Heap → Nat → (Value → Heap → Nat → Option R) → Option R) (all : List Oper) : List Oper → St → (St → Option R) → Option R
  | [], S, k => k S
  | o :: r, S, k =>
    match o.guard with
    | none => stepK P E cf o S fun S' => seqK cf all r S' k
    | some (j, want) =>
      match gdst all j with
      | some d =>
        (match nth S.tmps d with
        | .bool b =>
          bif b then
            bif want then stepK P E cf o ⟨setn S.tmps d (.bool true), S.heap, S.nxt⟩ fun S' => seqK cf all r S' k
            else fS ⟨putT (setn S.tmps d (.bool true)) o.dst undef, S.heap, S.nxt⟩ fun S' => seqK cf all r S' k
          else
            bif want then fS ⟨putT (setn S.tmps d (.bool false)) o.dst undef, S.heap, S.nxt⟩ fun S' => seqK cf all r S' k
            else stepK P E cf o ⟨setn S.tmps d (.bool false), S.heap, S.nxt⟩ fun S' => seqK cf all r S' k
        | _ => fS ⟨putT S.tmps o.dst undef, S.heap, S.nxt⟩ fun S' => seqK cf all r S' k)
      | none => none

/-! Guarded operations up to the pick that ends them, told as one: what they come to in every way through them. -/
def stepM {A : Type} (fail : A) (o : Oper) (S : St) (k : St → A) : A :=
  match effAll P E S.nxt o S.tmps S.heap with
  | some ⟨need, r⟩ => bif need then fRm E r fun r' => (match r'.ws with | [] => fS ⟨putT S.tmps o.dst r'.v, S.heap, S.nxt + 16⟩ k | _ => fail) else fail
  | none => fail
def seqM {A : Type} (fail : A) (all : List Oper) : List Oper → St → (St → A) → A
  | [], S, k => k S
  | o :: r, S, k =>
    match o.guard with
    | none => stepM P E fail o S fun S' => seqM fail all r S' k
    | some (j, want) =>
      match gdst all j with
      | some d =>
        (match nth S.tmps d with
        | .bool b =>
          bif b then
            bif want then stepM P E fail o ⟨setn S.tmps d (.bool true), S.heap, S.nxt⟩ fun S' => seqM fail all r S' k
            else fS ⟨putT (setn S.tmps d (.bool true)) o.dst undef, S.heap, S.nxt⟩ fun S' => seqM fail all r S' k
          else
            bif want then fS ⟨putT (setn S.tmps d (.bool false)) o.dst undef, S.heap, S.nxt⟩ fun S' => seqM fail all r S' k
            else stepM P E fail o ⟨setn S.tmps d (.bool false), S.heap, S.nxt⟩ fun S' => seqM fail all r S' k
        | _ => fS ⟨putT S.tmps o.dst undef, S.heap, S.nxt⟩ fun S' => seqM fail all r S' k)
      | none => fail
/-- Both ways on: plain where both can be done. -/
def both (b t f : Bool) : Bool := bif t then (bif f then true else b) else (bif b then false else f)
theorem both_eq (b t f : Bool) : both b t f = bif b then t else f := by cases b <;> cases t <;> cases f <;> rfl
/-- Can each way be done? What is taken for granted on the way is kept: so no way is gone twice. -/
def seqN (all : List Oper) : List Oper → List (Nat × Bool) → St → (St → Bool) → Bool
  | [], _, S, k => k S
  | o :: r, K, S, k =>
    match o.guard with
    | none => stepM P E false o S fun S' => seqN all r K S' k
    | some (j, want) =>
      match gdst all j with
      | some d =>
        (match nth S.tmps d with
        | .bool b =>
          (match look K d with
          | some true =>
            bif b then
              (bif want then stepM P E false o ⟨setn S.tmps d (.bool true), S.heap, S.nxt⟩ fun S' => seqN all r K S' k
              else fS ⟨putT (setn S.tmps d (.bool true)) o.dst undef, S.heap, S.nxt⟩ fun S' => seqN all r K S' k)
            else false
          | some false =>
            bif b then false
            else
              (bif want then fS ⟨putT (setn S.tmps d (.bool false)) o.dst undef, S.heap, S.nxt⟩ fun S' => seqN all r K S' k
              else stepM P E false o ⟨setn S.tmps d (.bool false), S.heap, S.nxt⟩ fun S' => seqN all r K S' k)
          | none =>
            both b
              (bif want then stepM P E false o ⟨setn S.tmps d (.bool true), S.heap, S.nxt⟩ fun S' => seqN all r ((d, true) :: K) S' k
              else fS ⟨putT (setn S.tmps d (.bool true)) o.dst undef, S.heap, S.nxt⟩ fun S' => seqN all r ((d, true) :: K) S' k)
              (bif want then fS ⟨putT (setn S.tmps d (.bool false)) o.dst undef, S.heap, S.nxt⟩ fun S' => seqN all r ((d, false) :: K) S' k
              else stepM P E false o ⟨setn S.tmps d (.bool false), S.heap, S.nxt⟩ fun S' => seqN all r ((d, false) :: K) S' k))
        | _ => fS ⟨putT S.tmps o.dst undef, S.heap, S.nxt⟩ fun S' => seqN all r K S' k)
      | none => false
/-- A run whose guarded operations are told as one says so by naming its first told function twice. -/
def Env.merges (E : Env) : Bool := match E.spec with | (a, _) :: (b, _) :: _ => Nat.beq a b | _ => false
def isBoolAt (d : Nat) (S : St) : Bool := match nth S.tmps d with | .bool _ => true | _ => false
def boolAt (d : Nat) (S : St) : Bool := match nth S.tmps d with | .bool b => b | _ => false
/-- The guarded operations up to a pick. -/
def cutSeg : List Oper → Option (List Oper × Oper × Nat × List Oper)
  | [] => none
  | o :: r => match o.guard with
    | some _ => (match cutSeg r with | some (s, p, d, t) => some (o :: s, p, d, t) | none => none)
    | none => (match o.op, o.dst with | .pick _ _ _, some d => some ([], o, d, r) | _, _ => none)
def setAll (V : Nat → Value) : List Oper → List Value → List Value
  | [], T => T
  | o :: r, T => setAll V r (match o.dst with | some i => setn T i (V i) | none => T)
def mrgS (all s : List Oper) (p : Oper) (d : Nat) (S : St) : St :=
  ⟨setn (setAll (fun i => seqM P E undef all (s ++ [p]) S fun S' => nth S'.tmps i) s S.tmps) d (.bool (seqM P E false all (s ++ [p]) S (boolAt d))), S.heap, S.nxt + 16 * (s.length + 1)⟩
def seqS (cf : Nat → List Value → Heap → Nat → (Value → Heap → Nat → Option R) → Option R) (all : List Oper) : Nat → List Oper → St → (St → Option R) → Option R
  | 0, l, S, k => seqK P E cf all l S k
  | _ + 1, [], S, k => k S
  | n + 1, o :: r, S, k =>
    match o.guard with
    | none => stepK P E cf o S fun S' => seqS cf all n r S' k
    | some _ =>
      match cutSeg (o :: r) with
      | some (s, p, d, t) =>
        bif seqN P E all (s ++ [p]) [] S (isBoolAt d) then fS (mrgS P E all s p d S) fun S' => seqS cf all n t S' k
        else seqK P E cf all (o :: r) S k
      | none => seqK P E cf all (o :: r) S k

inductive X where
  | normal
  | exit (id : Nat)
  | ret
def X.to : X → Exit
  | .normal => .normal
  | .exit i => .exit i
  | .ret => .ret

/-- A told loop: what the state comes to behind it. -/
abbrev LSpec := St → Option (Bool × X × St)
def toldL (L : List (Nat × LSpec)) (id : Nat) : Code → Option LSpec
  | .loop _ => look L id
  | _ => none
def blkK {R : Type} (id : Nat) (k : X → St → Option R) (x : X) (S : St) : Option R :=
  match x with
  | .exit i => bif Nat.beq i id then k .normal S else k (.exit i) S
  | x => k x S
/-- The loops of a code, by the blocks that hold them; not those within loops. -/
def loopsIn : Code → List (Nat × Code)
  | .seq a b => loopsIn a ++ loopsIn b
  | .cond _ a b => loopsIn a ++ loopsIn b
  | .block id a => (match a with | .loop c => [(id, c)] | _ => []) ++ loopsIn a
  | _ => []

def exec (L : List (Nat × LSpec)) (lf : Code → St → (X → St → Option R) → Option R) (cf : Nat → List Value → Heap → Nat → (Value → Heap → Nat → Option R) → Option R) : Code → St → (X → St → Option R) → Option R
  | .skip, S, k => k .normal S
  | .seq a b, S, k => exec L lf cf a S fun x S' => match x with | .normal => exec L lf cf b S' k | x => k x S'
  | .cond c a b, S, k =>
    (match c with
    | .tmp t =>
      (match nth S.tmps t with
      | .bool v => bif v then fS ⟨setn S.tmps t (.bool true), S.heap, S.nxt⟩ fun S' => exec L lf cf a S' k else fS ⟨setn S.tmps t (.bool false), S.heap, S.nxt⟩ fun S' => exec L lf cf b S' k
      | _ => none)
    | .const (.bool v) => bif v then exec L lf cf a S k else exec L lf cf b S k
    | _ => none)
  | .block id a, S, k =>
    (match toldL L id a with
    | none => exec L lf cf a S (blkK id k)
    | some t =>
      (match t S with
      | some (need, x, S') => bif need then fS S' fun S'' => blkK id k x S'' else none
      | none => none))
  | .loop c, S, k => lf c S k
  | .exit id, S, k => k (.exit id) S
  | .ret, S, k => k .ret S
  | .region _ ops d, S, k => bif d then drawK P E ops.toList S (fun S' => k .normal S') else bif E.merges then seqS P E cf ops.toList ops.size ops.toList S fun S' => k .normal S' else seqK P E cf ops.toList ops.toList S fun S' => k .normal S'
  | _, _, _ => none

def resV (S : St) : ResultVar → Option Value
  | .tmp t => some (nth S.tmps t)
  | .cell a t =>
    match nth S.tmps a with
    | .pointer (some ⟨b, o, none⟩) => loadA P S.heap t b o
    | _ => none
def ress (S : St) : List ResultVar → Option (List Value)
  | [] => some []
  | r :: rs => match resV P S r, ress S rs with
    | some v, some vs => some (v :: vs)
    | _, _ => none
def mkRes : List Value → Value
  | [v] => v
  | vs => .tuple ⟨vs⟩
def pad : Nat → List Value → List Value
  | 0, r => r
  | n + 1, [] => undef :: pad n []
  | n + 1, v :: r => v :: pad n r

/-- A function's body from its arguments on; what follows is told the result, the blocks, the next name. -/
def execFn (L : List (Nat × LSpec)) (lf : Code → St → (X → St → Option R) → Option R) (cf : Nat → List Value → Heap → Nat → (Value → Heap → Nat → Option R) → Option R) (fn : Func) (vs : List Value) (H : Heap) (nx : Nat) (k : Value → Heap → Nat → Option R) : Option R :=
  match fn.body with
  | some c => fS ⟨pad fn.ntmps vs, H, nx⟩ fun S0 => exec P E L lf cf c S0 fun x S =>
    match x with
    | .exit _ => none
    | _ => match ress P S fn.results.toList with
      | some rs => fV 6 (mkRes rs) fun v => k v S.heap S.nxt
      | none => none
  | none => none

structure Hs (R : Type) where
  lf : Code → St → (X → St → Option R) → Option R
  cf : Nat → List Value → Heap → Nat → (Value → Heap → Nat → Option R) → Option R
def hs : Nat → Hs R
  | 0 => ⟨fun _ _ _ => none, fun _ _ _ _ _ => none⟩
  | n + 1 =>
    ⟨fun c S k => exec P E [] (hs n).lf (hs n).cf c S fun x S' => match x with | .normal => (hs n).lf c S' k | x => k x S',
     fun f vs H nx k => match look E.inl f with
      | some fn => execFn P E [] (hs n).lf (hs n).cf fn vs H nx k
      | none => none⟩
end

/-! ### soundness -/
structure EnvOk (P : Program) (E : Env) : Prop where
  spec : ∀ f s, look E.spec f = some s → SOK P f s
  inl : ∀ f fn, look E.inl f = some fn → P.funcs[f]? = some fn ∧ fn.name ≠ "runtime.NumGoroutine" ∧ fn.body.isSome = true
  mixed : P.follows .mixedOrders = true

def SRel (W0 : World) (out : Nat → Prop) (g0 : Nat → Nat) (n0 : Nat) (S : St) (a : Act) (w : World) : Prop :=
  ∃ g : Nat → Nat, (∀ n, n < n0 → g n = g0 n) ∧ n0 ≤ S.nxt ∧ TRel g S.tmps S.nxt a ∧ HRel W0 out g S.heap S.nxt w

section
variable {P : Program} {E : Env} {R : Type}

def CfOk (P : Program) (cf : Nat → List Value → Heap → Nat → (Value → Heap → Nat → Option R) → Option R) : Prop :=
  ∀ (f : Nat) (vs : List Value) (H : Heap) (nx : Nat) (k : Value → Heap → Nat → Option R) (r : R), cf f vs H nx k = some r →
    (∃ fn, P.funcs[f]? = some fn ∧ fn.name ≠ "runtime.NumGoroutine" ∧ fn.body.isSome = true) ∧
    ∀ (W0 : World) (out : Nat → Prop) (g : Nat → Nat) (w : World), HRel W0 out g H nx w → (∀ v ∈ vs, Bnd nx v) →
      Calls P f ⟨vs.map (ren g)⟩ w fun e w' => ∃ (v : Value) (g' : Nat → Nat) (H' : Heap) (nx' : Nat), e = .returned (ren g' v) ∧ k v H' nx' = some r ∧ (∀ n, n < nx → g' n = g n) ∧ nx ≤ nx' ∧ HRel W0 out g' H' nx' w' ∧ Bnd nx' v
def LfOk (P : Program) (lf : Code → St → (X → St → Option R) → Option R) : Prop :=
  ∀ (c : Code) (S : St) (k : X → St → Option R) (r : R), lf c S k = some r →
    ∀ (W0 : World) (out : Nat → Prop) (g0 : Nat → Nat) (n0 : Nat) (a : Act) (w : World) (Q : Exit → Act → World → Prop), SRel W0 out g0 n0 S a w →
      (∀ x S' a' w', k x S' = some r → SRel W0 out g0 n0 S' a' w' → Q x.to a' w') → (Code.loop c).wp P Q a w

theorem fresh_nxt {g : Nat → Nat} {S : St} {W0 : World} {out : Nat → Prop} {a : Act} {w : World} (tr : TRel g S.tmps S.nxt a) (hr : HRel W0 out g S.heap S.nxt w) : Fresh S.nxt S.tmps S.heap :=
  ⟨fun v hv => (tr.tb v hv).fr, fun n b hn => ⟨.inl (hr.dom n b hn), fun v hv => (hr.bnd n b hn v hv).fr⟩⟩

theorem stepK_sound (hE : EnvOk P E) {cf : Nat → List Value → Heap → Nat → (Value → Heap → Nat → Option R) → Option R} (hcf : CfOk P cf) {o : Oper} {S : St} {k : St → Option R} {r : R} (h : stepK P E cf o S k = some r)
    {W0 : World} {out : Nat → Prop} {g0 : Nat → Nat} {n0 : Nat} {a : Act} {w : World} (hs : SRel W0 out g0 n0 S a w) (next : Act → World → Prop) (Q : Exit → Act → World → Prop)
    (hk : ∀ S' a' w', k S' = some r → SRel W0 out g0 n0 S' a' w' → next a' w') : o.wp P a w next Q := by
  obtain ⟨g, hg, hn, tr, hr⟩ := hs
  unfold stepK at h
  split at h
  · rename_i need rr hrc
    cases hneed : need with
    | false => simp [hneed] at h
    | true =>
      simp only [hneed, cond_true, fRm_eq, fS_eq] at h
      have go := goes_all hE.spec (nx := S.nxt + 16) (Nat.le_refl _) hrc hneed
      refine go.go W0 out g a w next Q (tr.mono (by omega)) (hr.mono (by omega)) (fresh_nxt tr hr) fun g' w' hg' tr' hr' hb => ?_
      refine hk _ _ _ h ⟨g', fun n hn' => ?_, by show n0 ≤ S.nxt + 16; omega, tr'.put o.dst hb rfl, hr'⟩
      rw [← hg' n (.inl (by omega)), hg n hn']
  · split at h
    · rename_i c ho
      split at h
      · rename_i x hc
        cases hx : (evOk x && c.args.toList.all evOk) with
        | false => rw [hx] at h; simp at h
        | true =>
          rw [hx] at h
          simp only [cond_true] at h
          simp only [Bool.and_eq_true, List.all_eq_true] at hx
          split at h
          · rename_i f first cap hv
            simp only [fS_eq] at h
            obtain ⟨⟨fn, hf1, hf2, hf3⟩, hcall⟩ := hcf f _ _ _ _ r h
            have hb : ∀ v ∈ first ++ c.args.toList.map (ev S.tmps) ++ cap, Bnd S.nxt v := by
              have hbf := tr.bndEv x
              rw [hv] at hbf
              obtain ⟨b1, b2⟩ := hbf.of_func
              intro v hm
              simp only [List.mem_append] at hm
              rcases hm with (hm | hm) | hm
              · exact b1 v hm
              · obtain ⟨y, _, rfl⟩ := List.mem_map.1 hm; exact tr.bndEv y
              · exact b2 v hm
            have hrun := run_callv (w := w) ho hc hx.1 hx.2 tr hv hf1 hf2 hf3
            unfold Oper.wp
            rw [hrun, Oper.upon_enter]
            refine (hcall W0 out g w hr hb).mono fun e w' ⟨v, g', H', nx', he, hk', hag, hle, hr', hbv⟩ => ?_
            subst he
            refine hk _ _ _ hk' ⟨g', fun n hn' => ?_, by show n0 ≤ nx'; omega, ((tr.agree (fun n hn' => (hag n hn').symm)).mono hle).put o.dst hbv rfl, hr'⟩
            rw [hag n (by omega), hg n hn']
          · simp at h
      · simp at h
    · simp at h

theorem seqK_sound (hE : EnvOk P E) {cf : Nat → List Value → Heap → Nat → (Value → Heap → Nat → Option R) → Option R} (hcf : CfOk P cf) {all : List Oper} {Q : Exit → Act → World → Prop} {W0 : World} {out : Nat → Prop} {g0 : Nat → Nat} {n0 : Nat} {r : R} {k : St → Option R}
    (hk : ∀ S' a' w', k S' = some r → SRel W0 out g0 n0 S' a' w' → Q .normal a' w') : ∀ (rest : List Oper) (S : St), seqK P E cf all rest S k = some r → ∀ (a : Act) (w : World), SRel W0 out g0 n0 S a w → wpList P all.toArray Q rest a w
  | [], S, h, a, w, hs => hk S a w h hs
  | o :: rest, S, h, a, w, hs => by
    unfold seqK at h
    unfold wpList
    split at h
    · rename_i hgd
      rw [if_pos (by simp [Region.wanted, hgd])]
      exact .inl (stepK_sound hE hcf h hs _ Q fun S' a' w' h' hs' => seqK_sound hE hcf hk rest S' h' a' w' hs')
    · rename_i j want hgd
      split at h
      · rename_i d hd
        split at h
        · rename_i b hb
          have hy : yielded all.toArray a.tmps j = some b := by
            obtain ⟨g, _, _, tr, _⟩ := hs
            exact yielded_of tr hd hb
          have hw : Region.wanted o (yielded all.toArray a.tmps) = (some b == some want) := by simp [Region.wanted, hgd, hy]
          have skip : ∀ S', S' = (⟨putT S.tmps o.dst undef, S.heap, S.nxt⟩ : St) → SRel W0 out g0 n0 S' (a.put o.dst undef) w := by
            rintro S' rfl
            obtain ⟨g, h1, h2, tr, hr⟩ := hs
            exact ⟨g, h1, h2, tr.put o.dst (Clo.undef.bnd _) (by simp), hr⟩
          cases b with
          | true =>
            rw [setn_same hb] at h
            cases want with
            | true =>
              simp only [cond_true] at h
              rw [if_pos (by rw [hw]; rfl)]
              exact .inl (stepK_sound hE hcf h hs _ Q fun S' a' w' h' hs' => seqK_sound hE hcf hk rest S' h' a' w' hs')
            | false =>
              simp only [cond_true, cond_false, fS_eq] at h
              rw [if_neg (by rw [hw]; decide)]
              exact seqK_sound hE hcf hk rest _ h _ _ (skip _ rfl)
          | false =>
            rw [setn_same hb] at h
            cases want with
            | true =>
              simp only [cond_true, cond_false, fS_eq] at h
              rw [if_neg (by rw [hw]; decide)]
              exact seqK_sound hE hcf hk rest _ h _ _ (skip _ rfl)
            | false =>
              simp only [cond_false] at h
              rw [if_pos (by rw [hw]; rfl)]
              exact .inl (stepK_sound hE hcf h hs _ Q fun S' a' w' h' hs' => seqK_sound hE hcf hk rest S' h' a' w' hs')
        · rename_i hnb
          obtain ⟨g, h1, h2, tr, hr⟩ := hs
          have hy : yielded all.toArray a.tmps j = none := yielded_not tr hd (fun b hb => hnb b hb)
          rw [if_neg (by simp [Region.wanted, hgd, hy])]
          simp only [fS_eq] at h
          exact seqK_sound hE hcf hk rest _ h _ _ ⟨g, h1, h2, tr.put o.dst (Clo.undef.bnd _) (by simp), hr⟩
      · simp at h

/-! ### guarded operations told as one -/
theorem stepM_nat {A B : Type} (φ : A → B) (fail : A) (o : Oper) (S : St) (k : St → A) : φ (stepM P E fail o S k) = stepM P E (φ fail) o S fun S' => φ (k S') := by
  unfold stepM
  cases effAll P E S.nxt o S.tmps S.heap with
  | none => rfl
  | some rc =>
    obtain ⟨need, r⟩ := rc
    cases need with
    | false => rfl
    | true =>
      simp only [cond_true, fRm_eq, fS_eq]
      cases r.ws <;> rfl
theorem seqM_nat {A B : Type} (φ : A → B) (fail : A) (all : List Oper) : ∀ (l : List Oper) (S : St) (k : St → A), φ (seqM P E fail all l S k) = seqM P E (φ fail) all l S fun S' => φ (k S')
  | [], S, k => rfl
  | o :: r, S, k => by
    simp only [seqM]
    cases o.guard with
    | none => simp only [stepM_nat φ, seqM_nat φ fail all r]
    | some jw =>
      obtain ⟨j, want⟩ := jw
      dsimp only
      cases hd : gdst all j with
      | none => rfl
      | some d =>
        dsimp only
        split
        · rename_i b hb
          cases b <;> cases want <;> simp only [cond_true, cond_false, stepM_nat φ, seqM_nat φ fail all r, fS_eq]
        · simp only [fS_eq, seqM_nat φ fail all r]
theorem stepM_imp {o : Oper} {S : St} {k k' : St → Bool} (h : stepM P E false o S k = true) (hk : ∀ S', k S' = true → k' S' = true) : stepM P E false o S k' = true := by
  unfold stepM at h ⊢
  split at h
  · rename_i need rr hrc
    try rw [hrc]
    cases need with
    | false => cases h
    | true =>
      simp only [cond_true, fRm_eq, fS_eq] at h ⊢
      split at h
      · exact hk _ h
      · cases h
  · cases h
theorem seqN_imp (all : List Oper) : ∀ (l : List Oper) (K : List (Nat × Bool)) (S : St) (k : St → Bool), seqN P E all l K S k = true → seqM P E false all l S k = true
  | [], K, S, k, h => h
  | o :: r, K, S, k, h => by
    simp only [seqN] at h
    simp only [seqM]
    cases hg : o.guard with
    | none =>
      rw [hg] at h
      exact stepM_imp h fun S' h' => seqN_imp all r K S' k h'
    | some jw =>
      obtain ⟨j, want⟩ := jw
      rw [hg] at h
      dsimp only at h ⊢
      cases hd : gdst all j with
      | none => rw [hd] at h; cases h
      | some d =>
        rw [hd] at h
        dsimp only at h ⊢
        split at h
        · rename_i b hb
          split at h
          · cases b <;> cases want <;> simp only [cond_true, cond_false, fS_eq] at h ⊢
            · cases h
            · cases h
            · exact seqN_imp all r K _ k h
            · exact stepM_imp h fun S' h' => seqN_imp all r K S' k h'
          · cases b <;> cases want <;> simp only [cond_true, cond_false, fS_eq] at h ⊢
            · exact stepM_imp h fun S' h' => seqN_imp all r K S' k h'
            · exact seqN_imp all r K _ k h
            · cases h
            · cases h
          · rw [both_eq] at h
            cases b <;> cases want <;> simp only [cond_true, cond_false, fS_eq] at h ⊢
            · exact stepM_imp h fun S' h' => seqN_imp all r _ S' k h'
            · exact seqN_imp all r _ _ k h
            · exact seqN_imp all r _ _ k h
            · exact stepM_imp h fun S' h' => seqN_imp all r _ S' k h'
        · rename_i hnb
          simp only [fS_eq] at h ⊢
          exact seqN_imp all r K _ k h
theorem seqN_sound {all l : List Oper} {S : St} {k : St → Bool} (h : seqN P E all l [] S k = true) : ∃ S', seqM P E none all l S some = some S' ∧ k S' = true := by
  have h := seqN_imp all l [] S k h
  have := seqM_nat (P := P) (E := E) (fun x : Option St => match x with | some S' => k S' | none => false) none all l S some
  simp only [] at this
  rw [← this] at h
  split at h
  · rename_i S' hS; exact ⟨S', hS, h⟩
  · cases h
theorem seqM_at {A : Type} {fail : A} {all l : List Oper} {S S' : St} (h : seqM P E none all l S some = some S') (k : St → A) : seqM P E fail all l S k = k S' := by
  have := seqM_nat (P := P) (E := E) (fun x : Option St => match x with | some S' => k S' | none => fail) none all l S some
  simp only [] at this
  rw [← this, h]
theorem stepM_stepK {cf : Nat → List Value → Heap → Nat → (Value → Heap → Nat → Option R) → Option R} {o : Oper} {S : St} {k : St → Option R} {r : R} (h : stepM P E none o S k = some r) : stepK P E cf o S k = some r := by
  unfold stepM at h
  unfold stepK
  split at h
  · rename_i need rr hrc
    try rw [hrc]
    cases need with
    | false => cases h
    | true =>
      simp only [cond_true, fRm_eq, fS_eq] at h ⊢
      split at h
      · rename_i hws
        rw [hws]
        exact h
      · cases h
  · cases h
theorem seqM_sound (hE : EnvOk P E) {all : List Oper} {Q : Exit → Act → World → Prop} {W0 : World} {out : Nat → Prop} {g0 : Nat → Nat} {n0 : Nat} {rest : List Oper} {Sp : St}
    (hk : ∀ a' w', SRel W0 out g0 n0 Sp a' w' → wpList P all.toArray Q rest a' w') : ∀ (l : List Oper) (S : St), seqM P E none all l S some = some Sp → ∀ (a : Act) (w : World), SRel W0 out g0 n0 S a w → wpList P all.toArray Q (l ++ rest) a w
  | [], S, h, a, w, hs => by
    simp only [seqM, Option.some.injEq] at h
    subst h
    exact hk a w hs
  | o :: l, S, h, a, w, hs => by
    have hcf : CfOk (R := St) P (fun _ _ _ _ _ => none) := fun _ _ _ _ _ _ h => by cases h
    simp only [List.cons_append]
    unfold seqM at h
    unfold wpList
    split at h
    · rename_i hgd
      rw [if_pos (by simp [Region.wanted, hgd])]
      exact .inl (stepK_sound hE hcf (stepM_stepK h) hs _ Q fun S' a' w' h' hs' => seqM_sound hE hk l S' h' a' w' hs')
    · rename_i j want hgd
      split at h
      · rename_i d hd
        split at h
        · rename_i b hb
          have hy : yielded all.toArray a.tmps j = some b := by
            obtain ⟨g, _, _, tr, _⟩ := hs
            exact yielded_of tr hd hb
          have hw : Region.wanted o (yielded all.toArray a.tmps) = (some b == some want) := by simp [Region.wanted, hgd, hy]
          have skip : ∀ S', S' = (⟨putT S.tmps o.dst undef, S.heap, S.nxt⟩ : St) → SRel W0 out g0 n0 S' (a.put o.dst undef) w := by
            rintro S' rfl
            obtain ⟨g, h1, h2, tr, hr⟩ := hs
            exact ⟨g, h1, h2, tr.put o.dst (Clo.undef.bnd _) (by simp), hr⟩
          cases b with
          | true =>
            rw [setn_same hb] at h
            cases want with
            | true =>
              simp only [cond_true] at h
              rw [if_pos (by rw [hw]; rfl)]
              exact .inl (stepK_sound hE hcf (stepM_stepK h) hs _ Q fun S' a' w' h' hs' => seqM_sound hE hk l S' h' a' w' hs')
            | false =>
              simp only [cond_true, cond_false, fS_eq] at h
              rw [if_neg (by rw [hw]; decide)]
              exact seqM_sound hE hk l _ h _ _ (skip _ rfl)
          | false =>
            rw [setn_same hb] at h
            cases want with
            | true =>
              simp only [cond_true, cond_false, fS_eq] at h
              rw [if_neg (by rw [hw]; decide)]
              exact seqM_sound hE hk l _ h _ _ (skip _ rfl)
            | false =>
              simp only [cond_false] at h
              rw [if_pos (by rw [hw]; rfl)]
              exact .inl (stepK_sound hE hcf (stepM_stepK h) hs _ Q fun S' a' w' h' hs' => seqM_sound hE hk l S' h' a' w' hs')
        · rename_i hnb
          obtain ⟨g, h1, h2, tr, hr⟩ := hs
          have hy : yielded all.toArray a.tmps j = none := yielded_not tr hd (fun b hb => hnb b hb)
          rw [if_neg (by simp [Region.wanted, hgd, hy])]
          simp only [fS_eq] at h
          exact seqM_sound hE hk l _ h _ _ ⟨g, h1, h2, tr.put o.dst (Clo.undef.bnd _) (by simp), hr⟩
      · simp at h
theorem nth_setn {T : List Value} {i j : Nat} {v : Value} : nth (setn T i v) j = if i = j ∧ i < T.length then v else nth T j := by
  rw [setn_set, nth_getD, nth_getD, List.getD_eq_getElem?_getD, List.getD_eq_getElem?_getD, List.getElem?_set]
  by_cases hij : i = j
  · subst hij
    by_cases hl : i < T.length
    · simp [hl]
    · simp [hl]
  · simp [hij]
theorem nth_ge {T : List Value} {i : Nat} (h : T.length ≤ i) : nth T i = undef := by
  rw [nth_getD, List.getD_eq_getElem?_getD, List.getElem?_eq_none h]; rfl
theorem ext_nth {T U : List Value} (hl : T.length = U.length) (h : ∀ i, nth T i = nth U i) : T = U := by
  refine List.ext_getElem hl fun i h1 h2 => ?_
  have := h i
  rw [nth_getD, nth_getD, List.getD_eq_getElem?_getD, List.getD_eq_getElem?_getD, List.getElem?_eq_getElem h1, List.getElem?_eq_getElem h2] at this
  exact this
theorem setn_length (T : List Value) (i : Nat) (v : Value) : (setn T i v).length = T.length := by rw [setn_set]; simp
theorem putT_frame {T : List Value} {d : Option Nat} {v : Value} {i : Nat} (h : d ≠ some i) : nth (putT T d v) i = nth T i := by
  cases d with
  | none => rfl
  | some j =>
    show nth (setn T j v) i = nth T i
    rw [nth_setn, if_neg (fun e => h (by rw [e.1]))]
theorem putT_length {T : List Value} {d : Option Nat} {v : Value} : (putT T d v).length = T.length := by
  cases d with
  | none => rfl
  | some j => exact setn_length T j v
theorem setAll_eq {V : Nat → Value} {U : List Value} : ∀ {l : List Oper} {T : List Value}, (∀ o ∈ l, ∀ i, o.dst = some i → V i = nth U i) → U.length = T.length → (∀ i, (∀ o ∈ l, o.dst ≠ some i) → nth U i = nth T i) → setAll V l T = U
  | [], T, _, hl, h => (ext_nth hl fun i => h i (by simp)).symm
  | o :: l, T, hv, hl, h => by
    simp only [setAll]
    cases hd : o.dst with
    | none =>
      refine setAll_eq (fun o' ho => hv o' (List.mem_cons_of_mem _ ho)) hl fun i hi => h i fun o' ho => ?_
      rcases List.mem_cons.1 ho with rfl | ho
      · rw [hd]; simp
      · exact hi o' ho
    | some j =>
      refine setAll_eq (fun o' ho => hv o' (List.mem_cons_of_mem _ ho)) (by rw [hl]; exact (setn_length _ _ _).symm) fun i hi => ?_
      rw [nth_setn]
      by_cases hij : j = i ∧ j < T.length
      · rw [if_pos hij, hij.1.symm]
        exact (hv o (List.mem_cons_self ..) j hd).symm
      · rw [if_neg hij]
        by_cases hji : j = i
        · subst hji
          have hge : T.length ≤ j := Nat.le_of_not_lt fun x => hij ⟨rfl, x⟩
          rw [nth_ge hge, nth_ge (by omega)]
        · refine h i fun o' ho => ?_
          rcases List.mem_cons.1 ho with rfl | ho
          · rw [hd]; simpa using hji
          · exact hi o' ho
theorem stepM_frame {o : Oper} {S Sp : St} {k : St → Option St} (h : stepM P E none o S k = some Sp) : ∃ v, k ⟨putT S.tmps o.dst v, S.heap, S.nxt + 16⟩ = some Sp := by
  unfold stepM at h
  split at h
  · rename_i need rr hrc
    cases need with
    | false => cases h
    | true =>
      simp only [cond_true, fRm_eq, fS_eq] at h
      split at h
      · exact ⟨_, h⟩
      · cases h
  · cases h
theorem seqM_frame {all : List Oper} : ∀ {l : List Oper} {S Sp : St}, seqM P E none all l S some = some Sp → Sp.heap = S.heap ∧ S.nxt ≤ Sp.nxt ∧ Sp.nxt ≤ S.nxt + 16 * l.length ∧ Sp.tmps.length = S.tmps.length ∧ ∀ i, (∀ o ∈ l, o.dst ≠ some i) → nth Sp.tmps i = nth S.tmps i
  | [], S, Sp, h => by
    simp only [seqM, Option.some.injEq] at h
    subst h
    simp
  | o :: l, S, Sp, h => by
    have step : ∀ (T : List Value), T = S.tmps → stepM P E none o ⟨T, S.heap, S.nxt⟩ (fun S' => seqM P E none all l S' some) = some Sp → Sp.heap = S.heap ∧ S.nxt ≤ Sp.nxt ∧ Sp.nxt ≤ S.nxt + 16 * (o :: l).length ∧ Sp.tmps.length = S.tmps.length ∧ ∀ i, (∀ o' ∈ o :: l, o'.dst ≠ some i) → nth Sp.tmps i = nth S.tmps i := by
      rintro T rfl h0
      obtain ⟨v, hv⟩ := stepM_frame h0
      obtain ⟨h1, h2, h3, h4, h5⟩ := seqM_frame hv
      refine ⟨h1, by simp only [] at h2; omega, by simp only [List.length_cons] at h3 ⊢; omega, by rw [h4]; exact putT_length, fun i hi => ?_⟩
      rw [h5 i fun o' ho => hi o' (List.mem_cons_of_mem _ ho)]
      exact putT_frame (hi o (List.mem_cons_self ..))
    have skip : ∀ (T : List Value), T = S.tmps → seqM P E none all l ⟨putT T o.dst undef, S.heap, S.nxt⟩ some = some Sp → Sp.heap = S.heap ∧ S.nxt ≤ Sp.nxt ∧ Sp.nxt ≤ S.nxt + 16 * (o :: l).length ∧ Sp.tmps.length = S.tmps.length ∧ ∀ i, (∀ o' ∈ o :: l, o'.dst ≠ some i) → nth Sp.tmps i = nth S.tmps i := by
      rintro T rfl hv
      obtain ⟨h1, h2, h3, h4, h5⟩ := seqM_frame hv
      refine ⟨h1, h2, by simp only [List.length_cons] at h3 ⊢; omega, by rw [h4]; exact putT_length, fun i hi => ?_⟩
      rw [h5 i fun o' ho => hi o' (List.mem_cons_of_mem _ ho)]
      exact putT_frame (hi o (List.mem_cons_self ..))
    unfold seqM at h
    split at h
    · exact step _ rfl h
    · rename_i j want hgd
      split at h
      · rename_i d hd
        split at h
        · rename_i b hb
          cases b <;> cases want <;> simp only [cond_true, cond_false, fS_eq] at h
          · exact step _ (setn_same hb) h
          · exact skip _ (setn_same hb) h
          · exact skip _ (setn_same hb) h
          · exact step _ (setn_same hb) h
        · simp only [fS_eq] at h
          exact skip _ rfl h
      · cases h
theorem mrgS_rel {all s : List Oper} {p : Oper} {d : Nat} {S Sp : St} (hd : p.dst = some d) (h : seqM P E none all (s ++ [p]) S some = some Sp) (hb : isBoolAt d Sp = true)
    {W0 : World} {out : Nat → Prop} {g0 : Nat → Nat} {n0 : Nat} {a : Act} {w : World} (hs : SRel W0 out g0 n0 Sp a w) : SRel W0 out g0 n0 (mrgS P E all s p d S) a w := by
  obtain ⟨h1, h2, h3, h4, h5⟩ := seqM_frame h
  have hJ : nth Sp.tmps d = .bool (seqM P E false all (s ++ [p]) S (boolAt d)) := by
    rw [seqM_at h]
    unfold isBoolAt at hb
    unfold boolAt
    split at hb
    · rename_i b hb'; rw [hb']
    · cases hb
  have hT : (mrgS P E all s p d S).tmps = Sp.tmps := by
    show setn (setAll _ s S.tmps) d _ = Sp.tmps
    have key : setAll (fun i => bif Nat.beq i d then .bool (seqM P E false all (s ++ [p]) S (boolAt d)) else seqM P E undef all (s ++ [p]) S fun S' => nth S'.tmps i) (s ++ [p]) S.tmps = Sp.tmps := by
      refine setAll_eq (fun o _ i _ => ?_) h4 h5
      cases hi : Nat.beq i d with
      | true => rw [Nat.eq_of_beq_eq_true hi, hJ]; rfl
      | false => exact seqM_at h _
    rw [← key, ← hJ]
    have app : ∀ (V : Nat → Value) (l : List Oper) (T : List Value), setAll V (l ++ [p]) T = setn (setAll V l T) d (V d) := by
      intro V l
      induction l with
      | nil => intro T; simp only [List.nil_append, setAll, hd]
      | cons o l ih => intro T; simp only [List.cons_append, setAll]; exact ih _
    rw [app]
    have hdd : Nat.beq d d = true := Nat.beq_refl d
    simp only [hdd, cond_true]
    -- the values of the others: where they differ, they are overwritten
    have ow : ∀ (V U : Nat → Value) (x : Value) (l : List Oper) (T T' : List Value), (∀ i, i ≠ d → V i = U i) → setn T d x = setn T' d x → setn (setAll V l T) d x = setn (setAll U l T') d x := by
      intro V U x l
      induction l with
      | nil => intro T T' _ hTT; exact hTT
      | cons o l ih =>
        intro T T' hVU hTT
        simp only [setAll]
        refine ih _ _ hVU ?_
        cases o.dst with
        | none => exact hTT
        | some i =>
          show setn (setn T i (V i)) d x = setn (setn T' i (U i)) d x
          by_cases hid : i = d
          · subst hid
            simp only [setn_set, List.set_set] at hTT ⊢
            exact hTT
          · rw [hVU i hid]
            simp only [setn_set] at hTT ⊢
            rw [List.set_comm _ _ hid, List.set_comm _ _ hid, hTT]
    refine ow _ _ _ s _ _ (fun i hi => ?_) rfl
    have : Nat.beq i d = false := by
      cases hi' : Nat.beq i d with
      | true => exact absurd (Nat.eq_of_beq_eq_true hi') hi
      | false => rfl
    simp only [this, cond_false]
  obtain ⟨g, hg, hn, tr, hr⟩ := hs
  have hN : Sp.nxt ≤ (mrgS P E all s p d S).nxt := by
    show Sp.nxt ≤ S.nxt + 16 * (s.length + 1)
    simpa using h3
  refine ⟨g, hg, Nat.le_trans hn hN, ?_, ?_⟩
  · rw [hT]; exact tr.mono hN
  · show HRel W0 out g S.heap _ w
    rw [← h1]; exact hr.mono hN
theorem cutSeg_spec : ∀ {l s : List Oper} {p : Oper} {d : Nat} {t : List Oper}, cutSeg l = some (s, p, d, t) → l = s ++ [p] ++ t ∧ p.dst = some d
  | [], s, p, d, t, h => by cases h
  | o :: r, s, p, d, t, h => by
    unfold cutSeg at h
    split at h
    · split at h
      · rename_i s' p' d' t' hc
        injection h with h
        injection h with h1 h2
        injection h2 with h2 h3
        injection h3 with h3 h4
        subst h1; subst h2; subst h3; subst h4
        obtain ⟨e, hd⟩ := cutSeg_spec hc
        exact ⟨by rw [e]; simp, hd⟩
      · cases h
    · split at h
      · rename_i hd
        injection h with h
        injection h with h1 h2
        injection h2 with h2 h3
        injection h3 with h3 h4
        subst h1; subst h2; subst h3; subst h4
        exact ⟨rfl, hd⟩
      · cases h
theorem seqS_sound (hE : EnvOk P E) {cf : Nat → List Value → Heap → Nat → (Value → Heap → Nat → Option R) → Option R} (hcf : CfOk P cf) {all : List Oper} {Q : Exit → Act → World → Prop} {W0 : World} {out : Nat → Prop} {g0 : Nat → Nat} {n0 : Nat} {r : R} {k : St → Option R}
    (hk : ∀ S' a' w', k S' = some r → SRel W0 out g0 n0 S' a' w' → Q .normal a' w') : ∀ (n : Nat) (rest : List Oper) (S : St), seqS P E cf all n rest S k = some r → ∀ (a : Act) (w : World), SRel W0 out g0 n0 S a w → wpList P all.toArray Q rest a w
  | 0, l, S, h, a, w, hs => seqK_sound hE hcf hk l S h a w hs
  | n + 1, [], S, h, a, w, hs => hk S a w h hs
  | n + 1, o :: rest, S, h, a, w, hs => by
    unfold seqS at h
    split at h
    · rename_i hgd
      unfold wpList
      rw [if_pos (by simp [Region.wanted, hgd])]
      exact .inl (stepK_sound hE hcf h hs _ Q fun S' a' w' h' hs' => seqS_sound hE hcf hk n rest S' h' a' w' hs')
    · split at h
      · rename_i s p d t hc
        obtain ⟨e, hd⟩ := cutSeg_spec hc
        cases hN : seqN P E all (s ++ [p]) [] S (isBoolAt d) with
        | false =>
          rw [hN] at h
          exact seqK_sound hE hcf hk _ S h a w hs
        | true =>
          rw [hN] at h
          simp only [cond_true, fS_eq] at h
          obtain ⟨Sp, hp, hbool⟩ := seqN_sound hN
          rw [e]
          exact seqM_sound hE (fun a' w' hs' => seqS_sound hE hcf hk n t _ h a' w' (mrgS_rel hd hp hbool hs')) (s ++ [p]) S hp a w hs
      · exact seqK_sound hE hcf hk _ S h a w hs

/-- A told loop is right. -/
def LOK (P : Program) (c : Code) (t : LSpec) : Prop :=
  ∀ (S : St) (x : X) (S' : St), t S = some (true, x, S') →
    ∀ (W0 : World) (out : Nat → Prop) (g0 : Nat → Nat) (n0 : Nat) (a : Act) (w : World) (Q : Exit → Act → World → Prop), SRel W0 out g0 n0 S a w →
      (∀ a' w', SRel W0 out g0 n0 S' a' w' → Q x.to a' w') → (Code.loop c).wp P Q a w
def LsOk (P : Program) (L : List (Nat × LSpec)) (c : Code) : Prop := ∀ p ∈ loopsIn c, ∀ t, look L p.1 = some t → LOK P p.2 t
theorem lsOk_nil {P : Program} {c : Code} : LsOk P [] c := fun p _ t h => by simp [look] at h
theorem exec_sound (hE : EnvOk P E) {L : List (Nat × LSpec)} {lf : Code → St → (X → St → Option R) → Option R} {cf : Nat → List Value → Heap → Nat → (Value → Heap → Nat → Option R) → Option R} (hlf : LfOk P lf) (hcf : CfOk P cf) (c : Code) (hL : LsOk P L c) :
    ∀ (S : St) (k : X → St → Option R) (r : R), exec P E L lf cf c S k = some r →
    ∀ (W0 : World) (out : Nat → Prop) (g0 : Nat → Nat) (n0 : Nat) (a : Act) (w : World) (Q : Exit → Act → World → Prop), SRel W0 out g0 n0 S a w →
      (∀ x S' a' w', k x S' = some r → SRel W0 out g0 n0 S' a' w' → Q x.to a' w') → c.wp P Q a w := by
  induction c with
  | skip => intro S k r h W0 out g0 n0 a w Q hs hk; exact wp_skip (hk .normal S a w h hs)
  | seq x y ihx ihy =>
    intro S k r h W0 out g0 n0 a w Q hs hk
    have hx : LsOk P L x := fun p hp => hL p (by simp only [loopsIn, List.mem_append]; exact .inl hp)
    have hy : LsOk P L y := fun p hp => hL p (by simp only [loopsIn, List.mem_append]; exact .inr hp)
    refine wp_seq (ihx hx S _ r h W0 out g0 n0 a w _ hs fun e S' a' w' h' hs' => ?_)
    cases e with
    | normal => exact ihy hy S' k r h' W0 out g0 n0 a' w' Q hs' hk
    | exit i => exact hk (.exit i) S' a' w' h' hs'
    | ret => exact hk .ret S' a' w' h' hs'
  | cond c x y ihx ihy =>
    intro S k r h W0 out g0 n0 a w Q hs hk
    have hx : LsOk P L x := fun p hp => hL p (by simp only [loopsIn, List.mem_append]; exact .inl hp)
    have hy : LsOk P L y := fun p hp => hL p (by simp only [loopsIn, List.mem_append]; exact .inr hp)
    unfold exec at h
    split at h
    · rename_i t
      split at h
      · rename_i b hb
        have hev : a.eval (.tmp t) = .bool b := by
          obtain ⟨g, _, _, tr, _⟩ := hs
          rw [tr.eval (x := .tmp t) rfl]
          simp [ev, hb]
        cases b with
        | true =>
          simp only [fS_eq, cond_true] at h
          rw [setn_same hb] at h
          exact wp_cond_true hev (ihx hx S k r h W0 out g0 n0 a w Q hs hk)
        | false =>
          simp only [fS_eq, cond_false] at h
          rw [setn_same hb] at h
          exact wp_cond_false hev (ihy hy S k r h W0 out g0 n0 a w Q hs hk)
      · simp at h
    · rename_i b
      cases b with
      | true => exact wp_cond_true rfl (ihx hx S k r h W0 out g0 n0 a w Q hs hk)
      | false => exact wp_cond_false rfl (ihy hy S k r h W0 out g0 n0 a w Q hs hk)
    · simp at h
  | block id x ihx =>
    intro S k r h W0 out g0 n0 a w Q hs hk
    have hx : LsOk P L x := fun p hp => hL p (by simp only [loopsIn, List.mem_append]; exact .inr hp)
    have fin : ∀ (e : X) (S' : St) (a' : Act) (w' : World), blkK id k e S' = some r → SRel W0 out g0 n0 S' a' w' → Exit.inBlock id Q e.to a' w' := by
      intro e S' a' w' h' hs'
      cases e with
      | normal => exact hk .normal S' a' w' h' hs'
      | exit i =>
        simp only [blkK] at h'
        show (if i = id then Q .normal a' w' else Q (.exit i) a' w')
        cases hb : Nat.beq i id with
        | true =>
          have := Nat.eq_of_beq_eq_true hb
          rw [hb] at h'
          rw [if_pos this]
          exact hk .normal S' a' w' h' hs'
        | false =>
          have hne : i ≠ id := fun e => by subst e; simp at hb
          rw [hb] at h'
          rw [if_neg hne]
          exact hk (.exit i) S' a' w' h' hs'
      | ret => exact hk .ret S' a' w' h' hs'
    unfold exec at h
    split at h
    · exact wp_block (ihx hx S _ r h W0 out g0 n0 a w _ hs fun e S' a' w' h' hs' => fin e S' a' w' h' hs')
    · rename_i t ht
      cases x <;> simp only [toldL] at ht <;> try (cases ht)
      rename_i c
      have hok := hL (id, c) (by simp [loopsIn]) t ht
      split at h
      · rename_i need e S' hts
        cases need with
        | false => simp at h
        | true =>
          simp only [cond_true, fS_eq] at h
          exact wp_block (hok S e S' hts W0 out g0 n0 a w _ hs fun a' w' hs' => fin e S' a' w' h hs')
      · simp at h
  | loop c _ => intro S k r h W0 out g0 n0 a w Q hs hk; exact hlf c S k r h W0 out g0 n0 a w Q hs hk
  | exit id => intro S k r h W0 out g0 n0 a w Q hs hk; exact wp_exit (hk (.exit id) S a w h hs)
  | ret => intro S k r h W0 out g0 n0 a w Q hs hk; exact wp_ret (hk .ret S a w h hs)
  | region id ops d =>
    intro S k r h W0 out g0 n0 a w Q hs hk
    unfold exec at h
    cases d with
    | false =>
      refine wp_region_list ?_
      simp only [cond_false] at h
      have := fun h => seqS_sound hE hcf (all := ops.toList) (Q := Q) (fun S' a' w' h' hs' => hk .normal S' a' w' h' hs') ops.size ops.toList S h a w hs
      have that := fun h => seqK_sound hE hcf (all := ops.toList) (Q := Q) (fun S' a' w' h' hs' => hk .normal S' a' w' h' hs') ops.toList S h a w hs
      cases hm : E.merges with
      | true => rw [hm] at h; simpa using this h
      | false => rw [hm] at h; simpa using that h
    | true =>
      obtain ⟨g, h1, h2, tr, hr⟩ := hs
      refine drawK_sound hE.spec hE.mixed h tr hr fun S' g' a' w' h' hag hle tr' hr' => ?_
      exact hk .normal S' a' w' h' ⟨g', fun n hn => by rw [hag n (by omega), h1 n hn], by omega, tr', hr'⟩
  | _ => intro S k r h; simp [exec] at h

theorem bnd_ress {g : Nat → Nat} {S : St} {W0 : World} {out : Nat → Prop} {a : Act} {w : World} (tr : TRel g S.tmps S.nxt a) (hr : HRel W0 out g S.heap S.nxt w) : ∀ (rs : List ResultVar) (vs : List Value), ress P S rs = some vs → ∀ v ∈ vs, Bnd S.nxt v
  | [], vs, h => by
    simp only [ress, Option.some.injEq] at h
    subst h; simp
  | x :: rs, vs, h => by
    simp only [ress] at h
    split at h
    · rename_i v vs' hv hvs
      injection h with h; subst h
      intro u hu
      cases hu with
      | tail _ hu => exact bnd_ress tr hr rs vs' hvs u hu
      | head =>
        cases x with
        | tmp t =>
          simp only [resV, Option.some.injEq] at hv
          subst hv
          exact tr.bndEv (.tmp t)
        | cell b t =>
          simp only [resV] at hv
          split at hv
          · unfold loadA at hv
            split at hv
            · rename_i hlk
              exact partA_mem hv (hr.bnd _ _ hlk)
            · simp at hv
          · simp at hv
    · simp at h
theorem run_resV {g : Nat → Nat} {S : St} {W0 : World} {out : Nat → Prop} {a : Act} {w : World} (tr : TRel g S.tmps S.nxt a) (hr : HRel W0 out g S.heap S.nxt w) {b : Tmp} {t : TypeId} {v : Value} (hv : resV P S (.cell b t) = some v) :
    (do loadVar t (← asAddr (a.tmps.getD b undef)) : Sem Value).run P w = .ok (ren g v) w := by
  simp only [resV] at hv
  split at hv
  · rename_i bl off hb
    unfold loadA at hv
    split at hv
    · rename_i C ty hlk
      have hm := hr.mem bl _ hlk
      have he : a.tmps.getD b undef = .pointer (some ⟨g bl, off, none⟩) := by rw [tr.nth, hb]; simp
      rw [he]
      simp only [Sem.run_bind, asAddr, Sem.run_pure, Result.andThen_ok]
      exact run_loadVar hm (partA_ren g hv)
    · simp at hv
  · simp at hv
theorem run_mapM {g : Nat → Nat} {S : St} {w : World} (F : ResultVar → Sem Value) (hF : ∀ x v, resV P S x = some v → (F x).run P w = .ok (ren g v) w) : ∀ (rs : List ResultVar) (vs : List Value), ress P S rs = some vs → (rs.mapM F).run P w = .ok (vs.map (ren g)) w
  | [], vs, h => by
    simp only [ress, Option.some.injEq] at h
    subst h; simp
  | x :: rs, vs, h => by
    simp only [ress] at h
    split at h
    · rename_i v vs' hv hvs
      injection h with h; subst h
      simp only [List.mapM_cons, Sem.run_bind, hF x v hv, Result.andThen_ok, run_mapM F hF rs vs' hvs, Sem.run_pure, List.map_cons]
    · simp at h
theorem ren_mkRes (g : Nat → Nat) (vs : List Value) : ren g (mkRes vs) = mkRes (vs.map (ren g)) := by
  unfold mkRes
  split
  · simp
  · rename_i hne
    rw [ren_tuple]
    split
    · rename_i v hv
      exfalso
      match vs, hv with
      | [x], _ => exact hne x rfl
    · rfl
theorem bnd_mkRes {n : Nat} {vs : List Value} (h : ∀ v ∈ vs, Bnd n v) : Bnd n (mkRes vs) := by
  unfold mkRes
  split
  · exact h _ (by simp)
  · exact Bnd.tuple h
theorem pad_eq : ∀ (n : Nat) (vs : List Value), pad n vs = vs ++ List.replicate (n - vs.length) undef
  | 0, vs => by simp [pad]
  | n + 1, [] => by simp [pad, pad_eq n [], List.replicate_succ]
  | n + 1, v :: r => by simp [pad, pad_eq n r]

theorem execFn_sound (hE : EnvOk P E) {L : List (Nat × LSpec)} {lf : Code → St → (X → St → Option R) → Option R} {cf : Nat → List Value → Heap → Nat → (Value → Heap → Nat → Option R) → Option R} (hlf : LfOk P lf) (hcf : CfOk P cf) {f : FuncId} {fn : Func} (hf : P.funcs[f]? = some fn)
    {vs : List Value} {H : Heap} {nx : Nat} {k : Value → Heap → Nat → Option R} {r : R} (hL : ∀ c, fn.body = some c → LsOk P L c) (h : execFn P E L lf cf fn vs H nx k = some r)
    {W0 : World} {out : Nat → Prop} {g : Nat → Nat} {w : World} (hr : HRel W0 out g H nx w) (hb : ∀ v ∈ vs, Bnd nx v) :
    Calls P f ⟨vs.map (ren g)⟩ w fun e w' => ∃ (v : Value) (g' : Nat → Nat) (H' : Heap) (nx' : Nat), e = .returned (ren g' v) ∧ k v H' nx' = some r ∧ (∀ n, n < nx → g' n = g n) ∧ nx ≤ nx' ∧ HRel W0 out g' H' nx' w' ∧ Bnd nx' v := by
  unfold execFn at h
  split at h
  · rename_i c hbody
    refine calls_of_wp hf hbody ?_
    simp only [fS_eq, fV_eq] at h
    have hs : SRel W0 out g nx ⟨pad fn.ntmps vs, H, nx⟩ { tmps := ⟨vs.map (ren g)⟩ ++ Array.replicate (fn.ntmps - (⟨vs.map (ren g)⟩ : Array Value).size) undef, defers := [] } w := by
      refine ⟨g, fun _ _ => rfl, Nat.le_refl _, ⟨?_, rfl, ?_⟩, hr⟩
      · simp [pad_eq]
      · intro v hv
        rw [pad_eq] at hv
        simp only [List.mem_append, List.mem_replicate] at hv
        rcases hv with hv | ⟨_, rfl⟩
        · exact hb v hv
        · exact Clo.undef.bnd _
    refine exec_sound hE hlf hcf c (hL c hbody) _ _ r h W0 out g nx _ w _ hs fun x S a w' hx hs' => ?_
    obtain ⟨g', hg', hn', tr', hr'⟩ := hs'
    have fin : ∀ rs, ress P S fn.results.toList = some rs → k (mkRes rs) S.heap S.nxt = some r →
        a.defers = [] ∧ ∃ v, (results fn a.tmps).run P w' = .ok v w' ∧ ∃ (v' : Value) (g' : Nat → Nat) (H' : Heap) (nx' : Nat), Ending.returned v = .returned (ren g' v') ∧ k v' H' nx' = some r ∧ (∀ n, n < nx → g' n = g n) ∧ nx ≤ nx' ∧ HRel W0 out g' H' nx' w' ∧ Bnd nx' v' := by
      intro rs hrs hkk
      have h1 := bnd_ress tr' hr' _ _ hrs
      refine ⟨tr'.df, ren g' (mkRes rs), ?_, mkRes rs, g', S.heap, S.nxt, rfl, hkk, hg', hn', hr', bnd_mkRes h1⟩
      unfold results
      rw [Array.mapM_eq_mapM_toList]
      simp only [Sem.run_bind, Sem.run_map]
      rw [run_mapM (g := g') (S := S) _ (fun x v hv => by
        cases x with
        | tmp t =>
          simp only [resV, Option.some.injEq] at hv
          subst hv
          simp only [Sem.run_pure, tr'.nth]
        | cell b t => exact run_resV tr' hr' hv) _ _ hrs]
      simp only [Result.andThen_ok, Sem.run_pure, Result.ok.injEq, and_true]
      rw [ren_mkRes]
      generalize rs.map (ren g') = l
      match l with
      | [] => rfl
      | [x] => rfl
      | x :: y :: l => simp [mkRes]
    cases x with
    | normal =>
      simp only at hx
      split at hx
      · rename_i rs hrs
        exact fin rs hrs hx
      · simp at hx
    | exit i => simp at hx
    | ret =>
      simp only at hx
      split at hx
      · rename_i rs hrs
        exact fin rs hrs hx
      · simp at hx
  · simp at h

theorem hs_ok (hE : EnvOk P E) : ∀ n, (∀ (c : Code) (S : St) (k : X → St → Option R) (r : R), (hs P E (R := R) n).lf c S k = some r →
    ∀ (W0 : World) (out : Nat → Prop) (g0 : Nat → Nat) (n0 : Nat) (a : Act) (w : World) (Q : Exit → Act → World → Prop), SRel W0 out g0 n0 S a w →
      (∀ x S' a' w', k x S' = some r → SRel W0 out g0 n0 S' a' w' → Q x.to a' w') → Code.rounds P c Q n a w) ∧ CfOk P (hs P E (R := R) n).cf := by
  intro n
  induction n with
  | zero =>
    refine ⟨fun c S k r h => ?_, fun f vs H nx k r h => ?_⟩
    · simp [hs] at h
    · simp [hs] at h
  | succ n ih =>
    obtain ⟨ih1, ih2⟩ := ih
    have hlf : LfOk P (hs P E (R := R) n).lf := fun c S k r h W0 out g0 n0 a w Q hsr hk => wp_loop_rounds n (ih1 c S k r h W0 out g0 n0 a w Q hsr hk)
    refine ⟨fun c S k r h W0 out g0 n0 a w Q hsr hk => ?_, fun f vs H nx k r h => ?_⟩
    · rw [rounds_succ]
      refine exec_sound hE hlf ih2 c lsOk_nil S _ r h W0 out g0 n0 a w _ hsr fun x S' a' w' hx hs' => ?_
      cases x with
      | normal => exact ih1 c S' k r hx W0 out g0 n0 a' w' Q hs' hk
      | exit i => exact hk (.exit i) S' a' w' hx hs'
      | ret => exact hk .ret S' a' w' hx hs'
    · simp only [hs] at h
      split at h
      · rename_i fn hfn
        obtain ⟨h1, h2, h3⟩ := hE.inl f fn hfn
        exact ⟨⟨fn, h1, h2, h3⟩, fun W0 out g w hr hb => execFn_sound hE hlf ih2 h1 (fun _ _ => lsOk_nil) h hr hb⟩
      · simp at h
theorem hs_lf (hE : EnvOk P E) (n : Nat) : LfOk P (hs P E (R := R) n).lf := fun c S k r h W0 out g0 n0 a w Q hsr hk => wp_loop_rounds n ((hs_ok hE n).1 c S k r h W0 out g0 n0 a w Q hsr hk)
theorem hs_cf (hE : EnvOk P E) (n : Nat) : CfOk P (hs P E (R := R) n).cf := (hs_ok hE n).2
end
end RX
