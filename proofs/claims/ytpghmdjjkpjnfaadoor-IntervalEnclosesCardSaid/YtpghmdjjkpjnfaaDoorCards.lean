/-
  DERIVED. GIVEN WITH THE SEED: THE CARDS: each row of YtpghmdjjkpjnfaaDoorRows.lean that lists a variable, with what it lists TIED to the program's text (the seventh form; the later family's looks); each row that meets fmt, with fmt's text TOLD by the authors' own Lean function (tested against real Go, not proved from fmt's source: count such statements apart). THE CARD IS WHAT COUNTS. Prove the row's statement (the work); the ties are given (YtpghmdjjkpjnfaaDoorTie.lean); close each card by the builder's one call (the guide's Derived/Test/ToyasCard.lean, 'card_holds'). Laid BY PROGRAM, IN A SANDBOX (cutbox-door.mjs). By AI agents, Wed Nov 11 2026. No macro, syntax, notation, axiom, sorry.
-/
import Derived.Test.YtpghmdjjkpjnfaaDoorRows
import GoSem.ClaimSeven
namespace Go.Proofs.YtpghmdjjkpjnfaaDoor
namespace Rows

/-- THE TIED CARD OF 'culetlaw27.IntervalArithmetic'. -/
def intervalArithmeticCard : Claim7 := { stood := { row := intervalArithmeticRow, standIns := [], harness := (true, "1a91ebe5bb8f998f58aefaddbca5793138ad296ff67d0580ebe1578ab8764309"), looks := false }, kinds := [], alts := [], laidByText := true, laidKinds := [.data, .data, .data, .data, .pinned], laidTests := true, laidLooks := .later }
def IntervalArithmeticCardSaid : Prop := Claim7.holds Tryd.pinned (.plain (OpenSpec.ofChange intervalArithmeticSpec)) intervalArithmeticCard

/-- THE TIED CARD OF 'culetlaw27.IntervalSets'. -/
def intervalSetsCard : Claim7 := { stood := { row := intervalSetsRow, standIns := [], harness := (true, "1a91ebe5bb8f998f58aefaddbca5793138ad296ff67d0580ebe1578ab8764309"), looks := false }, kinds := [], alts := [], laidByText := true, laidKinds := [.data, .data, .data, .data, .pinned], laidTests := true, laidLooks := .later }
def IntervalSetsCardSaid : Prop := Claim7.holds Tryd.pinned (.plain (OpenSpec.ofChange intervalSetsSpec)) intervalSetsCard

/-- THE TIED CARD OF 'culetlaw27.IntervalLeast'. -/
def intervalLeastCard : Claim7 := { stood := { row := intervalLeastRow, standIns := [], harness := (true, "1a91ebe5bb8f998f58aefaddbca5793138ad296ff67d0580ebe1578ab8764309"), looks := false }, kinds := [], alts := [], laidByText := true, laidKinds := [.data, .data, .data, .data, .pinned], laidTests := true, laidLooks := .later }
def IntervalLeastCardSaid : Prop := Claim7.holds Tryd.pinned (.plain (OpenSpec.ofChange intervalLeastSpec)) intervalLeastCard

/-- THE TIED CARD OF 'culetlaw27.IntervalRoots'. -/
def intervalRootsCard : Claim7 := { stood := { row := intervalRootsRow, standIns := [], harness := (true, "1a91ebe5bb8f998f58aefaddbca5793138ad296ff67d0580ebe1578ab8764309"), looks := false }, kinds := [], alts := [], laidByText := true, laidKinds := [.data, .data, .data, .data, .pinned], laidTests := true, laidLooks := .later }
def IntervalRootsCardSaid : Prop := Claim7.holds Tryd.pinned (.plain (OpenSpec.ofChange intervalRootsSpec)) intervalRootsCard

/-- THE TIED CARD OF 'culetlaw27.IntervalEncloses'. -/
def intervalEnclosesCard : Claim7 := { stood := { row := intervalEnclosesRow, standIns := [], harness := (true, "1a91ebe5bb8f998f58aefaddbca5793138ad296ff67d0580ebe1578ab8764309"), looks := false }, kinds := [], alts := [], laidByText := true, laidKinds := [.data, .data, .data, .data, .pinned], laidTests := true, laidLooks := .later }
def IntervalEnclosesCardSaid : Prop := Claim7.holds Tryd.pinned (.plain (OpenSpec.ofChange intervalEnclosesSpec)) intervalEnclosesCard

/-- THE TIED CARD OF 'culetlaw27.IntervalInclusion'. -/
def intervalInclusionCard : Claim7 := { stood := { row := intervalInclusionRow, standIns := [], harness := (true, "1a91ebe5bb8f998f58aefaddbca5793138ad296ff67d0580ebe1578ab8764309"), looks := false }, kinds := [], alts := [], laidByText := true, laidKinds := [.data, .data, .data, .data, .pinned], laidTests := true, laidLooks := .later }
def IntervalInclusionCardSaid : Prop := Claim7.holds Tryd.pinned (.plain (OpenSpec.ofChange intervalInclusionSpec)) intervalInclusionCard

/-- THE SECOND FORM's CARD OF 'culetlaw27.IntervalArithmetic'. -/
def intervalArithmeticUptoCard : Claim7 := { stood := { row := intervalArithmeticUptoRow, standIns := [], harness := (true, "1a91ebe5bb8f998f58aefaddbca5793138ad296ff67d0580ebe1578ab8764309"), looks := false }, kinds := [], alts := [], laidByText := true, laidKinds := [.data, .data, .data, .data, .pinned], laidTests := true, laidLooks := .later }
def IntervalArithmeticUptoCardSaid : Prop := Claim7.holds Tryd.pinned (.plain (OpenSpec.upto intervalArithmeticSpec)) intervalArithmeticUptoCard

/-- THE SECOND FORM's CARD OF 'culetlaw27.IntervalSets'. -/
def intervalSetsUptoCard : Claim7 := { stood := { row := intervalSetsUptoRow, standIns := [], harness := (true, "1a91ebe5bb8f998f58aefaddbca5793138ad296ff67d0580ebe1578ab8764309"), looks := false }, kinds := [], alts := [], laidByText := true, laidKinds := [.data, .data, .data, .data, .pinned], laidTests := true, laidLooks := .later }
def IntervalSetsUptoCardSaid : Prop := Claim7.holds Tryd.pinned (.plain (OpenSpec.upto intervalSetsSpec)) intervalSetsUptoCard

/-- THE SECOND FORM's CARD OF 'culetlaw27.IntervalLeast'. -/
def intervalLeastUptoCard : Claim7 := { stood := { row := intervalLeastUptoRow, standIns := [], harness := (true, "1a91ebe5bb8f998f58aefaddbca5793138ad296ff67d0580ebe1578ab8764309"), looks := false }, kinds := [], alts := [], laidByText := true, laidKinds := [.data, .data, .data, .data, .pinned], laidTests := true, laidLooks := .later }
def IntervalLeastUptoCardSaid : Prop := Claim7.holds Tryd.pinned (.plain (OpenSpec.upto intervalLeastSpec)) intervalLeastUptoCard

/-- THE SECOND FORM's CARD OF 'culetlaw27.IntervalRoots'. -/
def intervalRootsUptoCard : Claim7 := { stood := { row := intervalRootsUptoRow, standIns := [], harness := (true, "1a91ebe5bb8f998f58aefaddbca5793138ad296ff67d0580ebe1578ab8764309"), looks := false }, kinds := [], alts := [], laidByText := true, laidKinds := [.data, .data, .data, .data, .pinned], laidTests := true, laidLooks := .later }
def IntervalRootsUptoCardSaid : Prop := Claim7.holds Tryd.pinned (.plain (OpenSpec.upto intervalRootsSpec)) intervalRootsUptoCard

/-- THE SECOND FORM's CARD OF 'culetlaw27.IntervalEncloses'. -/
def intervalEnclosesUptoCard : Claim7 := { stood := { row := intervalEnclosesUptoRow, standIns := [], harness := (true, "1a91ebe5bb8f998f58aefaddbca5793138ad296ff67d0580ebe1578ab8764309"), looks := false }, kinds := [], alts := [], laidByText := true, laidKinds := [.data, .data, .data, .data, .pinned], laidTests := true, laidLooks := .later }
def IntervalEnclosesUptoCardSaid : Prop := Claim7.holds Tryd.pinned (.plain (OpenSpec.upto intervalEnclosesSpec)) intervalEnclosesUptoCard

/-- THE SECOND FORM's CARD OF 'culetlaw27.IntervalInclusion'. -/
def intervalInclusionUptoCard : Claim7 := { stood := { row := intervalInclusionUptoRow, standIns := [], harness := (true, "1a91ebe5bb8f998f58aefaddbca5793138ad296ff67d0580ebe1578ab8764309"), looks := false }, kinds := [], alts := [], laidByText := true, laidKinds := [.data, .data, .data, .data, .pinned], laidTests := true, laidLooks := .later }
def IntervalInclusionUptoCardSaid : Prop := Claim7.holds Tryd.pinned (.plain (OpenSpec.upto intervalInclusionSpec)) intervalInclusionUptoCard
end Rows
end Go.Proofs.YtpghmdjjkpjnfaaDoor
