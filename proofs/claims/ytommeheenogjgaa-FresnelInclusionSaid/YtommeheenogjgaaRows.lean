/-
  No cell of these rows narrows 'for every input' (looked for: loops, veiled, ifaces, maps, wideKeys, modest, calm, conditions, laid).
  DERIVED. THE GIVEN ROWS OF THIS SEAT. 6 by the template 'for every input the law returns true; each argument reads behind the call as it read before'; 0 by the template 'total and deterministic' (their statements: YtommeheenogjgaaTotals.lean).
  GIVEN WITH THE SEED: the statements are not yours to turn. If you find one false, say at which input.
  Laid BY PROGRAM, IN A SANDBOX (cutbox-rows.mjs): the forced cells as the released guide's own fill.sh prints them over the translation 36e9d723fa09aeb8… (all of the seat's roots in one cut). By AI agents, Wed Nov 11 2026. No macro, syntax, notation, axiom, sorry.
-/
import Derived.Test.YtommeheenogjgaaChecked
import GoSem.Claim
import GoSem.ClaimJoined
import GoSem.ClaimMapViews
import Derived.JoinedTies
import Derived.KernelRfl
namespace Go.Proofs.Ytommeheenogjgaa
/- THE CELL 'sum', in the pinned program and in every row, IS THE sha256 OF THE DUMP (.gsa) THAT YtommeheenogjgaaProg.lean LOADS. Nothing in Lean hashes anything: it is a label: what it is worth is what the hold of that sum in a sandbox is worth. -/
noncomputable def Try.pinned : Pinned := { name := "ytommeheenogjgaa", sum := "36e9d723fa09aeb8e337831f0d11921471c182660573e1dc4686afa1c744712a", checked := Try.checked }
namespace Rows
def none {H : Type} : Left H := { results := [], args := [] }

/-- 'culetlaw30.FresnelStraight': WHATEVER THE INPUT: true; the input reads as it did. -/
def fresnelStraightSpec : ChangeSpec := { name := "fresnelStraight", fn := fun _ => fun
  | [d1, d2] => { results := [.lit (.bool true)], args := [d1, d2] }
  | _ => none }
def fresnelStraightRow : OpenClaim := { program := "ytommeheenogjgaa", sum := "36e9d723fa09aeb8e337831f0d11921471c182660573e1dc4686afa1c744712a", func := "culet/culetlaw30.FresnelStraight", spec := "fresnelStraight", unfollowed := true, recurses := true, apart := false }
def FresnelStraightSaid : Prop := fresnelStraightRow.holds Try.pinned (OpenSpec.ofChange fresnelStraightSpec)

/-- ITS FALSE NEIGHBOUR: 'it returns false'. Refute it at one input. -/
def fresnelStraightWrong : ChangeSpec := { name := "fresnelStraight", fn := fun _ => fun
  | [d1, d2] => { results := [.lit (.bool false)], args := [d1, d2] }
  | _ => none }
def FresnelStraightWrongFalsely : Prop := fresnelStraightRow.holds Try.pinned (OpenSpec.ofChange fresnelStraightWrong)

/-- 'culetlaw30.FresnelGrazing': WHATEVER THE INPUT: true; the input reads as it did. -/
def fresnelGrazingSpec : ChangeSpec := { name := "fresnelGrazing", fn := fun _ => fun
  | [d] => { results := [.lit (.bool true)], args := [d] }
  | _ => none }
def fresnelGrazingRow : OpenClaim := { program := "ytommeheenogjgaa", sum := "36e9d723fa09aeb8e337831f0d11921471c182660573e1dc4686afa1c744712a", func := "culet/culetlaw30.FresnelGrazing", spec := "fresnelGrazing", unfollowed := true, recurses := true, apart := false }
def FresnelGrazingSaid : Prop := fresnelGrazingRow.holds Try.pinned (OpenSpec.ofChange fresnelGrazingSpec)

/-- ITS FALSE NEIGHBOUR: 'it returns false'. Refute it at one input. -/
def fresnelGrazingWrong : ChangeSpec := { name := "fresnelGrazing", fn := fun _ => fun
  | [d] => { results := [.lit (.bool false)], args := [d] }
  | _ => none }
def FresnelGrazingWrongFalsely : Prop := fresnelGrazingRow.holds Try.pinned (OpenSpec.ofChange fresnelGrazingWrong)

/-- 'culetlaw30.FresnelTurned': WHATEVER THE INPUT: true; the input reads as it did. -/
def fresnelTurnedSpec : ChangeSpec := { name := "fresnelTurned", fn := fun _ => fun
  | [d] => { results := [.lit (.bool true)], args := [d] }
  | _ => none }
def fresnelTurnedRow : OpenClaim := { program := "ytommeheenogjgaa", sum := "36e9d723fa09aeb8e337831f0d11921471c182660573e1dc4686afa1c744712a", func := "culet/culetlaw30.FresnelTurned", spec := "fresnelTurned", unfollowed := true, recurses := true, apart := false }
def FresnelTurnedSaid : Prop := fresnelTurnedRow.holds Try.pinned (OpenSpec.ofChange fresnelTurnedSpec)

/-- ITS FALSE NEIGHBOUR: 'it returns false'. Refute it at one input. -/
def fresnelTurnedWrong : ChangeSpec := { name := "fresnelTurned", fn := fun _ => fun
  | [d] => { results := [.lit (.bool false)], args := [d] }
  | _ => none }
def FresnelTurnedWrongFalsely : Prop := fresnelTurnedRow.holds Try.pinned (OpenSpec.ofChange fresnelTurnedWrong)

/-- 'culetlaw30.FresnelForms': WHATEVER THE INPUT: true; the input reads as it did. -/
def fresnelFormsSpec : ChangeSpec := { name := "fresnelForms", fn := fun _ => fun
  | [d] => { results := [.lit (.bool true)], args := [d] }
  | _ => none }
def fresnelFormsRow : OpenClaim := { program := "ytommeheenogjgaa", sum := "36e9d723fa09aeb8e337831f0d11921471c182660573e1dc4686afa1c744712a", func := "culet/culetlaw30.FresnelForms", spec := "fresnelForms", unfollowed := true, recurses := true, apart := false }
def FresnelFormsSaid : Prop := fresnelFormsRow.holds Try.pinned (OpenSpec.ofChange fresnelFormsSpec)

/-- ITS FALSE NEIGHBOUR: 'it returns false'. Refute it at one input. -/
def fresnelFormsWrong : ChangeSpec := { name := "fresnelForms", fn := fun _ => fun
  | [d] => { results := [.lit (.bool false)], args := [d] }
  | _ => none }
def FresnelFormsWrongFalsely : Prop := fresnelFormsRow.holds Try.pinned (OpenSpec.ofChange fresnelFormsWrong)

/-- 'culetlaw30.FresnelConserves': WHATEVER THE INPUT: true; the input reads as it did. -/
def fresnelConservesSpec : ChangeSpec := { name := "fresnelConserves", fn := fun _ => fun
  | [d] => { results := [.lit (.bool true)], args := [d] }
  | _ => none }
def fresnelConservesRow : OpenClaim := { program := "ytommeheenogjgaa", sum := "36e9d723fa09aeb8e337831f0d11921471c182660573e1dc4686afa1c744712a", func := "culet/culetlaw30.FresnelConserves", spec := "fresnelConserves", unfollowed := true, recurses := true, apart := false }
def FresnelConservesSaid : Prop := fresnelConservesRow.holds Try.pinned (OpenSpec.ofChange fresnelConservesSpec)

/-- ITS FALSE NEIGHBOUR: 'it returns false'. Refute it at one input. -/
def fresnelConservesWrong : ChangeSpec := { name := "fresnelConserves", fn := fun _ => fun
  | [d] => { results := [.lit (.bool false)], args := [d] }
  | _ => none }
def FresnelConservesWrongFalsely : Prop := fresnelConservesRow.holds Try.pinned (OpenSpec.ofChange fresnelConservesWrong)

/-- 'culetlaw30.FresnelInclusion': WHATEVER THE INPUT: true; the input reads as it did. -/
def fresnelInclusionSpec : ChangeSpec := { name := "fresnelInclusion", fn := fun _ => fun
  | [d1, d2] => { results := [.lit (.bool true)], args := [d1, d2] }
  | _ => none }
def fresnelInclusionRow : OpenClaim := { program := "ytommeheenogjgaa", sum := "36e9d723fa09aeb8e337831f0d11921471c182660573e1dc4686afa1c744712a", func := "culet/culetlaw30.FresnelInclusion", spec := "fresnelInclusion", unfollowed := true, recurses := true, apart := false }
def FresnelInclusionSaid : Prop := fresnelInclusionRow.holds Try.pinned (OpenSpec.ofChange fresnelInclusionSpec)

/-- ITS FALSE NEIGHBOUR: 'it returns false'. Refute it at one input. -/
def fresnelInclusionWrong : ChangeSpec := { name := "fresnelInclusion", fn := fun _ => fun
  | [d1, d2] => { results := [.lit (.bool false)], args := [d1, d2] }
  | _ => none }
def FresnelInclusionWrongFalsely : Prop := fresnelInclusionRow.holds Try.pinned (OpenSpec.ofChange fresnelInclusionWrong)

/- THE SECOND FORM. 'bulk': how many values and letters a reading holds, each counted each time it is reached (what is shared counts as often as it is met; a slice's spare places count too). A statement '..UptoSaid' is the law's where the arguments, and the package variables that the reading takes, are together of bulk at most 1048576: NARROWER than '..Said'. Prove '..Said' where nothing that the law and all that it calls make is longer than what came in: it says more and counts as full. Else prove '..UptoSaid'. A law counts once. -/
mutual
def uptoBulk {H : Type} : DataW H → Nat
  | .lit (.string bytes) => bytes.length + 1
  | .lit _ => 1
  | .nil => 1
  | .ptr d => uptoBulk d + 1
  | .slice elems spare => uptoBulkAll elems + uptoBulkAll spare + 1
  | .agg parts => uptoBulkAll parts + 1
  | .iface _ d => uptoBulk d + 1
  | .map entries => uptoBulkEntries entries + 1
  | .held _ => 1
def uptoBulkAll {H : Type} : List (DataW H) → Nat
  | [] => 0
  | d :: r => uptoBulk d + uptoBulkAll r
def uptoBulkEntries {H : Type} : List (Lit × DataW H) → Nat
  | [] => 0
  | x :: r => uptoBulkEntry x + uptoBulkEntries r
def uptoBulkEntry {H : Type} : Lit × DataW H → Nat
  | (.string bytes, d) => bytes.length + uptoBulk d + 1
  | (_, d) => uptoBulk d + 1
 end
def uptoSmall : (H : Type) → List (DataW H) → Bool := fun _ ds => decide (uptoBulkAll ds ≤ 1048576)
def OpenSpec.upto (s : _root_.Go.ChangeSpec) : _root_.Go.OpenSpec := { _root_.Go.OpenSpec.ofChange s with cond := some uptoSmall }

/-- 'culetlaw30.FresnelStraight', WHERE WHAT IT READS IS OF BULK AT MOST 1048576: true; the input reads as it did. -/
def fresnelStraightUptoRow : OpenClaim := { program := "ytommeheenogjgaa", sum := "36e9d723fa09aeb8e337831f0d11921471c182660573e1dc4686afa1c744712a", func := "culet/culetlaw30.FresnelStraight", spec := "fresnelStraight", unfollowed := true, recurses := true, apart := false, narrowed := true }
def FresnelStraightUptoSaid : Prop := fresnelStraightUptoRow.holds Try.pinned (OpenSpec.upto fresnelStraightSpec)

/-- 'culetlaw30.FresnelGrazing', WHERE WHAT IT READS IS OF BULK AT MOST 1048576: true; the input reads as it did. -/
def fresnelGrazingUptoRow : OpenClaim := { program := "ytommeheenogjgaa", sum := "36e9d723fa09aeb8e337831f0d11921471c182660573e1dc4686afa1c744712a", func := "culet/culetlaw30.FresnelGrazing", spec := "fresnelGrazing", unfollowed := true, recurses := true, apart := false, narrowed := true }
def FresnelGrazingUptoSaid : Prop := fresnelGrazingUptoRow.holds Try.pinned (OpenSpec.upto fresnelGrazingSpec)

/-- 'culetlaw30.FresnelTurned', WHERE WHAT IT READS IS OF BULK AT MOST 1048576: true; the input reads as it did. -/
def fresnelTurnedUptoRow : OpenClaim := { program := "ytommeheenogjgaa", sum := "36e9d723fa09aeb8e337831f0d11921471c182660573e1dc4686afa1c744712a", func := "culet/culetlaw30.FresnelTurned", spec := "fresnelTurned", unfollowed := true, recurses := true, apart := false, narrowed := true }
def FresnelTurnedUptoSaid : Prop := fresnelTurnedUptoRow.holds Try.pinned (OpenSpec.upto fresnelTurnedSpec)

/-- 'culetlaw30.FresnelForms', WHERE WHAT IT READS IS OF BULK AT MOST 1048576: true; the input reads as it did. -/
def fresnelFormsUptoRow : OpenClaim := { program := "ytommeheenogjgaa", sum := "36e9d723fa09aeb8e337831f0d11921471c182660573e1dc4686afa1c744712a", func := "culet/culetlaw30.FresnelForms", spec := "fresnelForms", unfollowed := true, recurses := true, apart := false, narrowed := true }
def FresnelFormsUptoSaid : Prop := fresnelFormsUptoRow.holds Try.pinned (OpenSpec.upto fresnelFormsSpec)

/-- 'culetlaw30.FresnelConserves', WHERE WHAT IT READS IS OF BULK AT MOST 1048576: true; the input reads as it did. -/
def fresnelConservesUptoRow : OpenClaim := { program := "ytommeheenogjgaa", sum := "36e9d723fa09aeb8e337831f0d11921471c182660573e1dc4686afa1c744712a", func := "culet/culetlaw30.FresnelConserves", spec := "fresnelConserves", unfollowed := true, recurses := true, apart := false, narrowed := true }
def FresnelConservesUptoSaid : Prop := fresnelConservesUptoRow.holds Try.pinned (OpenSpec.upto fresnelConservesSpec)

/-- 'culetlaw30.FresnelInclusion', WHERE WHAT IT READS IS OF BULK AT MOST 1048576: true; the input reads as it did. -/
def fresnelInclusionUptoRow : OpenClaim := { program := "ytommeheenogjgaa", sum := "36e9d723fa09aeb8e337831f0d11921471c182660573e1dc4686afa1c744712a", func := "culet/culetlaw30.FresnelInclusion", spec := "fresnelInclusion", unfollowed := true, recurses := true, apart := false, narrowed := true }
def FresnelInclusionUptoSaid : Prop := fresnelInclusionUptoRow.holds Try.pinned (OpenSpec.upto fresnelInclusionSpec)

end Rows
end Go.Proofs.Ytommeheenogjgaa
