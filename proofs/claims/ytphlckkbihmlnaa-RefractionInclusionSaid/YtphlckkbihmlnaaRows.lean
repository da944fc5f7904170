/-
  No cell of these rows narrows 'for every input' (looked for: loops, veiled, ifaces, maps, wideKeys, modest, calm, conditions, laid).
  DERIVED. THE GIVEN ROWS OF THIS SEAT. 5 by the template 'for every input the law returns true; each argument reads behind the call as it read before'; 0 by the template 'total and deterministic' (their statements: YtphlckkbihmlnaaTotals.lean).
  GIVEN WITH THE SEED: the statements are not yours to turn. If you find one false, say at which input.
  Laid BY PROGRAM, IN A SANDBOX (cutbox-rows.mjs): the forced cells as the released guide's own fill.sh prints them over the translation 798557f918dcc647… (all of the seat's roots in one cut). By AI agents, Wed Nov 11 2026. No macro, syntax, notation, axiom, sorry.
-/
import Derived.Test.YtphlckkbihmlnaaChecked
import GoSem.Claim
import GoSem.ClaimJoined
import GoSem.ClaimMapViews
import Derived.JoinedTies
import Derived.KernelRfl
namespace Go.Proofs.Ytphlckkbihmlnaa
/- THE CELL 'sum', in the pinned program and in every row, IS THE sha256 OF THE DUMP (.gsa) THAT YtphlckkbihmlnaaProg.lean LOADS. Nothing in Lean hashes anything: it is a label: what it is worth is what the hold of that sum in a sandbox is worth. -/
noncomputable def Try.pinned : Pinned := { name := "ytphlckkbihmlnaa", sum := "798557f918dcc647c176249d5d0e085f1e41355dbe0af400ffccc0aea78dcb71", checked := Try.checked }
namespace Rows
def none {H : Type} : Left H := { results := [], args := [] }

/-- 'culetlaw29.RefractionRefract': WHATEVER THE INPUT: true; the input reads as it did. -/
def refractionRefractSpec : ChangeSpec := { name := "refractionRefract", fn := fun _ => fun
  | [d1, d2, d3] => { results := [.lit (.bool true)], args := [d1, d2, d3] }
  | _ => none }
def refractionRefractRow : OpenClaim := { program := "ytphlckkbihmlnaa", sum := "798557f918dcc647c176249d5d0e085f1e41355dbe0af400ffccc0aea78dcb71", func := "culet/culetlaw29.RefractionRefract", spec := "refractionRefract", unfollowed := true, recurses := true, apart := false }
def RefractionRefractSaid : Prop := refractionRefractRow.holds Try.pinned (OpenSpec.ofChange refractionRefractSpec)

/-- ITS FALSE NEIGHBOUR: 'it returns false'. Refute it at one input. -/
def refractionRefractWrong : ChangeSpec := { name := "refractionRefract", fn := fun _ => fun
  | [d1, d2, d3] => { results := [.lit (.bool false)], args := [d1, d2, d3] }
  | _ => none }
def RefractionRefractWrongFalsely : Prop := refractionRefractRow.holds Try.pinned (OpenSpec.ofChange refractionRefractWrong)

/-- 'culetlaw29.RefractionTotal': WHATEVER THE INPUT: true; the input reads as it did. -/
def refractionTotalSpec : ChangeSpec := { name := "refractionTotal", fn := fun _ => fun
  | [d1, d2, d3] => { results := [.lit (.bool true)], args := [d1, d2, d3] }
  | _ => none }
def refractionTotalRow : OpenClaim := { program := "ytphlckkbihmlnaa", sum := "798557f918dcc647c176249d5d0e085f1e41355dbe0af400ffccc0aea78dcb71", func := "culet/culetlaw29.RefractionTotal", spec := "refractionTotal", unfollowed := true, recurses := true, apart := false }
def RefractionTotalSaid : Prop := refractionTotalRow.holds Try.pinned (OpenSpec.ofChange refractionTotalSpec)

/-- ITS FALSE NEIGHBOUR: 'it returns false'. Refute it at one input. -/
def refractionTotalWrong : ChangeSpec := { name := "refractionTotal", fn := fun _ => fun
  | [d1, d2, d3] => { results := [.lit (.bool false)], args := [d1, d2, d3] }
  | _ => none }
def RefractionTotalWrongFalsely : Prop := refractionTotalRow.holds Try.pinned (OpenSpec.ofChange refractionTotalWrong)

/-- 'culetlaw29.RefractionStraight': WHATEVER THE INPUT: true; the input reads as it did. -/
def refractionStraightSpec : ChangeSpec := { name := "refractionStraight", fn := fun _ => fun
  | [d1, d2] => { results := [.lit (.bool true)], args := [d1, d2] }
  | _ => none }
def refractionStraightRow : OpenClaim := { program := "ytphlckkbihmlnaa", sum := "798557f918dcc647c176249d5d0e085f1e41355dbe0af400ffccc0aea78dcb71", func := "culet/culetlaw29.RefractionStraight", spec := "refractionStraight", unfollowed := true, recurses := true, apart := false }
def RefractionStraightSaid : Prop := refractionStraightRow.holds Try.pinned (OpenSpec.ofChange refractionStraightSpec)

/-- ITS FALSE NEIGHBOUR: 'it returns false'. Refute it at one input. -/
def refractionStraightWrong : ChangeSpec := { name := "refractionStraight", fn := fun _ => fun
  | [d1, d2] => { results := [.lit (.bool false)], args := [d1, d2] }
  | _ => none }
def RefractionStraightWrongFalsely : Prop := refractionStraightRow.holds Try.pinned (OpenSpec.ofChange refractionStraightWrong)

/-- 'culetlaw29.RefractionForms': WHATEVER THE INPUT: true; the input reads as it did. -/
def refractionFormsSpec : ChangeSpec := { name := "refractionForms", fn := fun _ => fun
  | [d1, d2, d3] => { results := [.lit (.bool true)], args := [d1, d2, d3] }
  | _ => none }
def refractionFormsRow : OpenClaim := { program := "ytphlckkbihmlnaa", sum := "798557f918dcc647c176249d5d0e085f1e41355dbe0af400ffccc0aea78dcb71", func := "culet/culetlaw29.RefractionForms", spec := "refractionForms", unfollowed := true, recurses := true, apart := false }
def RefractionFormsSaid : Prop := refractionFormsRow.holds Try.pinned (OpenSpec.ofChange refractionFormsSpec)

/-- ITS FALSE NEIGHBOUR: 'it returns false'. Refute it at one input. -/
def refractionFormsWrong : ChangeSpec := { name := "refractionForms", fn := fun _ => fun
  | [d1, d2, d3] => { results := [.lit (.bool false)], args := [d1, d2, d3] }
  | _ => none }
def RefractionFormsWrongFalsely : Prop := refractionFormsRow.holds Try.pinned (OpenSpec.ofChange refractionFormsWrong)

/-- 'culetlaw29.RefractionInclusion': WHATEVER THE INPUT: true; the input reads as it did. -/
def refractionInclusionSpec : ChangeSpec := { name := "refractionInclusion", fn := fun _ => fun
  | [d1, d2, d3] => { results := [.lit (.bool true)], args := [d1, d2, d3] }
  | _ => none }
def refractionInclusionRow : OpenClaim := { program := "ytphlckkbihmlnaa", sum := "798557f918dcc647c176249d5d0e085f1e41355dbe0af400ffccc0aea78dcb71", func := "culet/culetlaw29.RefractionInclusion", spec := "refractionInclusion", unfollowed := true, recurses := true, apart := false }
def RefractionInclusionSaid : Prop := refractionInclusionRow.holds Try.pinned (OpenSpec.ofChange refractionInclusionSpec)

/-- ITS FALSE NEIGHBOUR: 'it returns false'. Refute it at one input. -/
def refractionInclusionWrong : ChangeSpec := { name := "refractionInclusion", fn := fun _ => fun
  | [d1, d2, d3] => { results := [.lit (.bool false)], args := [d1, d2, d3] }
  | _ => none }
def RefractionInclusionWrongFalsely : Prop := refractionInclusionRow.holds Try.pinned (OpenSpec.ofChange refractionInclusionWrong)

/- THE SECOND FORM. 'bulk': how many values and letters a reading holds, each counted each time it is reached (what is shared counts as often as it is met; a slice's spare places count too). A statement '..UptoSaid' is the law's where the arguments, and the package variables that the reading takes, are together of bulk at most 1048576: NARROWER than '..Said'. Prove '..Said' where nothing that the law and all that it calls make is longer than what came in: it says more and counts as full. Else prove '..UptoSaid'. A law counts once. -/
mutual
def uptoBulk {H : Type} : DataW H → Nat
  | .lit (.string bytes) => bytes.length + 1
  | .lit _ => 1
  | .nil => 1
  | .ptr d => uptoBulk d + 1
  | .slice elems spare => uptoBulkAll elems + uptoBulkAll spare + 1
  | .agg parts => uptoBulkAll parts + 1
  | .iface _ d => uptoBulk d + 1
  | .map entries => uptoBulkEntries entries + 1
  | .held _ => 1
def uptoBulkAll {H : Type} : List (DataW H) → Nat
  | [] => 0
  | d :: r => uptoBulk d + uptoBulkAll r
def uptoBulkEntries {H : Type} : List (Lit × DataW H) → Nat
  | [] => 0
  | x :: r => uptoBulkEntry x + uptoBulkEntries r
def uptoBulkEntry {H : Type} : Lit × DataW H → Nat
  | (.string bytes, d) => bytes.length + uptoBulk d + 1
  | (_, d) => uptoBulk d + 1
 end
def uptoSmall : (H : Type) → List (DataW H) → Bool := fun _ ds => decide (uptoBulkAll ds ≤ 1048576)
def OpenSpec.upto (s : _root_.Go.ChangeSpec) : _root_.Go.OpenSpec := { _root_.Go.OpenSpec.ofChange s with cond := some uptoSmall }

/-- 'culetlaw29.RefractionRefract', WHERE WHAT IT READS IS OF BULK AT MOST 1048576: true; the input reads as it did. -/
def refractionRefractUptoRow : OpenClaim := { program := "ytphlckkbihmlnaa", sum := "798557f918dcc647c176249d5d0e085f1e41355dbe0af400ffccc0aea78dcb71", func := "culet/culetlaw29.RefractionRefract", spec := "refractionRefract", unfollowed := true, recurses := true, apart := false, narrowed := true }
def RefractionRefractUptoSaid : Prop := refractionRefractUptoRow.holds Try.pinned (OpenSpec.upto refractionRefractSpec)

/-- 'culetlaw29.RefractionTotal', WHERE WHAT IT READS IS OF BULK AT MOST 1048576: true; the input reads as it did. -/
def refractionTotalUptoRow : OpenClaim := { program := "ytphlckkbihmlnaa", sum := "798557f918dcc647c176249d5d0e085f1e41355dbe0af400ffccc0aea78dcb71", func := "culet/culetlaw29.RefractionTotal", spec := "refractionTotal", unfollowed := true, recurses := true, apart := false, narrowed := true }
def RefractionTotalUptoSaid : Prop := refractionTotalUptoRow.holds Try.pinned (OpenSpec.upto refractionTotalSpec)

/-- 'culetlaw29.RefractionStraight', WHERE WHAT IT READS IS OF BULK AT MOST 1048576: true; the input reads as it did. -/
def refractionStraightUptoRow : OpenClaim := { program := "ytphlckkbihmlnaa", sum := "798557f918dcc647c176249d5d0e085f1e41355dbe0af400ffccc0aea78dcb71", func := "culet/culetlaw29.RefractionStraight", spec := "refractionStraight", unfollowed := true, recurses := true, apart := false, narrowed := true }
def RefractionStraightUptoSaid : Prop := refractionStraightUptoRow.holds Try.pinned (OpenSpec.upto refractionStraightSpec)

/-- 'culetlaw29.RefractionForms', WHERE WHAT IT READS IS OF BULK AT MOST 1048576: true; the input reads as it did. -/
def refractionFormsUptoRow : OpenClaim := { program := "ytphlckkbihmlnaa", sum := "798557f918dcc647c176249d5d0e085f1e41355dbe0af400ffccc0aea78dcb71", func := "culet/culetlaw29.RefractionForms", spec := "refractionForms", unfollowed := true, recurses := true, apart := false, narrowed := true }
def RefractionFormsUptoSaid : Prop := refractionFormsUptoRow.holds Try.pinned (OpenSpec.upto refractionFormsSpec)

/-- 'culetlaw29.RefractionInclusion', WHERE WHAT IT READS IS OF BULK AT MOST 1048576: true; the input reads as it did. -/
def refractionInclusionUptoRow : OpenClaim := { program := "ytphlckkbihmlnaa", sum := "798557f918dcc647c176249d5d0e085f1e41355dbe0af400ffccc0aea78dcb71", func := "culet/culetlaw29.RefractionInclusion", spec := "refractionInclusion", unfollowed := true, recurses := true, apart := false, narrowed := true }
def RefractionInclusionUptoSaid : Prop := refractionInclusionUptoRow.holds Try.pinned (OpenSpec.upto refractionInclusionSpec)

end Rows
end Go.Proofs.Ytphlckkbihmlnaa
