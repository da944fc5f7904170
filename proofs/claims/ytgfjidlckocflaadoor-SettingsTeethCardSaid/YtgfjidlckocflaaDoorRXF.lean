/- RX, part F: the same values, written out: so that a run's terms stay small in the kernel. -/
import Derived.Test.YtgfjidlckocflaaDoorRX7
namespace RX
open Go Go.RowKit
set_option linter.unusedVariables false

def fN {R : Type} (n : Nat) (k : Nat → R) : R :=
  match n with
  | 0 => k 0
  | m + 1 => k (m + 1)
theorem fN_eq {R : Type} (n : Nat) (k : Nat → R) : fN n k = k n := by cases n <;> rfl
def fLst {α R : Type} (f : α → (α → R) → R) : List α → (List α → R) → R
  | [], k => k []
  | x :: r, k => f x fun y => fLst f r fun s => k (y :: s)
theorem fLst_eq {α R : Type} (f : α → (α → R) → R) (hf : ∀ x k, f x k = k x) : ∀ (l : List α) (k : List α → R), fLst f l k = k l
  | [], k => rfl
  | x :: r, k => by simp only [fLst, hf, fLst_eq f hf r]
def fV {R : Type} : Nat → Value → (Value → R) → R
  | 0, v, k => k v
  | n + 1, v, k =>
    match v with
    | .bool b => k (.bool b)
    | .int i x => k (.int i x)
    | .string s => k (.string s)
    | .pointer none => k (.pointer none)
    | .pointer (some ⟨b, o, s⟩) => fN b fun b' => k (.pointer (some ⟨b', o, s⟩))
    | .slice none l c => k (.slice none l c)
    | .slice (some ⟨b, o, s⟩) l c => fN b fun b' => k (.slice (some ⟨b', o, s⟩) l c)
    | .agg ⟨cs⟩ => fLst (fV n) cs fun cs' => k (.agg ⟨cs'⟩)
    | .tuple ⟨cs⟩ => fLst (fV n) cs fun cs' => k (.tuple ⟨cs'⟩)
    | .func fn ⟨a⟩ ⟨b⟩ => fLst (fV n) a fun a' => fLst (fV n) b fun b' => k (.func fn ⟨a'⟩ ⟨b'⟩)
    | .iface t u => fV n u fun u' => k (.iface t u')
    | v => k v
theorem fV_eq {R : Type} : ∀ (n : Nat) (v : Value) (k : Value → R), fV n v k = k v
  | 0, v, k => rfl
  | n + 1, v, k => by
    unfold fV
    split <;> simp only [fN_eq, fLst_eq _ (fV_eq n), fV_eq n]
/-- A list's spine alone: what stands in it was written out where it was made. -/
def fSp {α R : Type} : List α → (List α → R) → R
  | [], k => k []
  | x :: r, k => fSp r fun s => k (x :: s)
theorem fSp_eq {α R : Type} : ∀ (l : List α) (k : List α → R), fSp l k = k l
  | [], k => rfl
  | x :: r, k => by simp only [fSp, fSp_eq r]
def fB {R : Type} (b : Blk) (k : Blk → R) : R :=
  match b with
  | .cs l t => fLst (fV 6) l fun l' => k (.cs l' t)
  | .is i xs t => k (.is i xs t)
theorem fB_eq {R : Type} (b : Blk) (k : Blk → R) : fB b k = k b := by
  cases b <;> simp only [fB, fLst_eq _ (fV_eq 6)]
def fHe {R : Type} (x : Nat × Blk) (k : Nat × Blk → R) : R :=
  match x with
  | (n, b) => fN n fun n' => fB b fun b' => k (n', b')
theorem fHe_eq {R : Type} (x : Nat × Blk) (k : Nat × Blk → R) : fHe x k = k x := by
  obtain ⟨n, b⟩ := x
  simp only [fHe, fN_eq, fB_eq]
def fT {R : Type} (T : List Value) (k : List Value → R) : R := fSp T k
theorem fT_eq {R : Type} (T : List Value) (k : List Value → R) : fT T k = k T := fSp_eq T k
def fH {R : Type} (H : Heap) (k : Heap → R) : R := fLst fHe H k
theorem fH_eq {R : Type} (H : Heap) (k : Heap → R) : fH H k = k H := fLst_eq _ fHe_eq H k
def fS {R : Type} (S : St) (k : St → R) : R :=
  match S with
  | ⟨T, H, n⟩ => fT T fun T' => fH H fun H' => fN n fun n' => k ⟨T', H', n'⟩
theorem fS_eq {R : Type} (S : St) (k : St → R) : fS S k = k S := by
  obtain ⟨T, H, n⟩ := S
  simp only [fS, fT_eq, fH_eq, fN_eq]
/-- A record, its parts written out. -/
def fR {R : Type} (r : Rec) (k : Rec → R) : R :=
  match r with
  | ⟨v, rs, ws⟩ => fV 6 v fun v' => fLst fN rs fun rs' => fH ws fun ws' => k ⟨v', rs', ws'⟩
theorem fR_eq {R : Type} (r : Rec) (k : Rec → R) : fR r k = k r := by
  obtain ⟨v, rs, ws⟩ := r
  simp only [fR, fV_eq, fLst_eq _ fN_eq, fH_eq]
/-! ### the same in a run whose numbers are all known: numbers are reckoned out at once -/
def fI {R : Type} (x : Int) (k : Int → R) : R :=
  match x with
  | .ofNat n => fN n fun n' => k (.ofNat n')
  | .negSucc n => fN n fun n' => k (.negSucc n')
theorem fI_eq {R : Type} (x : Int) (k : Int → R) : fI x k = k x := by cases x <;> simp only [fI, fN_eq]
def fY {R : Type} (s : ByteArray) (k : ByteArray → R) : R :=
  match s with
  | ⟨⟨l⟩⟩ => fLst (fun (b : UInt8) k => fN b.toNat fun n => k (UInt8.ofNat n)) l fun l' => k ⟨⟨l'⟩⟩
theorem fY_eq {R : Type} (s : ByteArray) (k : ByteArray → R) : fY s k = k s := by
  obtain ⟨⟨l⟩⟩ := s
  simp only [fY]
  exact fLst_eq _ (fun x k => by simp only [fN_eq]; rw [UInt8.ofNat_toNat]) l _
def fVc {R : Type} : Nat → Value → (Value → R) → R
  | 0, v, k => k v
  | n + 1, v, k =>
    match v with
    | .bool b => (match b with | true => k (.bool true) | false => k (.bool false))
    | .int i x => fI x fun x' => k (.int i x')
    | .string s => fY s fun s' => k (.string s')
    | .pointer none => k (.pointer none)
    | .pointer (some ⟨b, o, s⟩) => fN b fun b' => fN o fun o' => k (.pointer (some ⟨b', o', s⟩))
    | .slice none l c => fN l fun l' => fN c fun c' => k (.slice none l' c')
    | .slice (some ⟨b, o, s⟩) l c => fN b fun b' => fN o fun o' => fN l fun l' => fN c fun c' => k (.slice (some ⟨b', o', s⟩) l' c')
    | .agg ⟨cs⟩ => fLst (fVc n) cs fun cs' => k (.agg ⟨cs'⟩)
    | .tuple ⟨cs⟩ => fLst (fVc n) cs fun cs' => k (.tuple ⟨cs'⟩)
    | .func fn ⟨a⟩ ⟨b⟩ => fLst (fVc n) a fun a' => fLst (fVc n) b fun b' => k (.func fn ⟨a'⟩ ⟨b'⟩)
    | .iface t u => fVc n u fun u' => k (.iface t u')
    | v => k v
theorem fVc_eq {R : Type} : ∀ (n : Nat) (v : Value) (k : Value → R), fVc n v k = k v
  | 0, v, k => rfl
  | n + 1, v, k => by
    unfold fVc
    split <;> (try simp only [fN_eq, fI_eq, fY_eq, fLst_eq _ (fVc_eq n), fVc_eq n])
    rename_i b
    cases b <;> rfl
def fBc {R : Type} (b : Blk) (k : Blk → R) : R :=
  match b with
  | .cs l t => fLst (fVc 6) l fun l' => k (.cs l' t)
  | .is i xs t => k (.is i xs t)
theorem fBc_eq {R : Type} (b : Blk) (k : Blk → R) : fBc b k = k b := by
  cases b <;> simp only [fBc, fLst_eq _ (fVc_eq 6)]
def fHec {R : Type} (x : Nat × Blk) (k : Nat × Blk → R) : R :=
  match x with
  | (n, b) => fN n fun n' => fBc b fun b' => k (n', b')
theorem fHec_eq {R : Type} (x : Nat × Blk) (k : Nat × Blk → R) : fHec x k = k x := by
  obtain ⟨n, b⟩ := x
  simp only [fHec, fN_eq, fBc_eq]
def fRc {R : Type} (r : Rec) (k : Rec → R) : R :=
  match r with
  | ⟨v, rs, ws⟩ => fVc 6 v fun v' => fLst fN rs fun rs' => fLst fHec ws fun ws' => k ⟨v', rs', ws'⟩
theorem fRc_eq {R : Type} (r : Rec) (k : Rec → R) : fRc r k = k r := by
  obtain ⟨v, rs, ws⟩ := r
  simp only [fRc, fVc_eq, fLst_eq _ fN_eq, fLst_eq _ fHec_eq]
/-- A run whose numbers are all known says so by naming its first function twice. -/
def Env.closed (E : Env) : Bool := match E.inl with | (a, _) :: (b, _) :: _ => Nat.beq a b | _ => false
def fRm {R : Type} (E : Env) (r : Rec) (k : Rec → R) : R := bif E.closed then fRc r k else fR r k
theorem fRm_eq {R : Type} (E : Env) (r : Rec) (k : Rec → R) : fRm E r k = k r := by
  unfold fRm
  cases E.closed
  · exact fR_eq r k
  · exact fRc_eq r k
end RX
