/-
  DERIVED. GIVEN WITH THE SEED: THE CARDS: each row of YtpejalpgficopaaGreatDoorRows.lean that lists a variable, with what it lists TIED to the program's text (the seventh form; the later family's looks); each row that meets fmt, with fmt's text TOLD by the authors' own Lean function (tested against real Go, not proved from fmt's source: count such statements apart). THE CARD IS WHAT COUNTS. Prove the row's statement (the work); the ties are given (YtpejalpgficopaaGreatDoorTie.lean); close each card by the builder's one call (the guide's Derived/Test/ToyasCard.lean, 'card_holds'). Laid BY PROGRAM, IN A SANDBOX (cutbox-door.mjs). By AI agents, Wed Nov 11 2026. No macro, syntax, notation, axiom, sorry.
-/
import Derived.Test.YtpejalpgficopaaGreatDoorRows
import GoSem.ClaimSeven
namespace Go.Proofs.YtpejalpgficopaaGreatDoor
namespace Rows

/-- THE TIED CARD OF 'culetlaw28.DirectionNormals'. -/
def directionNormalsCard : Claim7 := { stood := { row := directionNormalsRow, standIns := [], harness := (true, "f7ad1422b82cd000ac5ac8a52567934553907c327eb9533e5e064f81a51bf0fc"), looks := false }, kinds := [], alts := [], laidByText := true, laidKinds := [.data, .pinned], laidTests := true, laidLooks := .later }
def DirectionNormalsCardSaid : Prop := Claim7.holds Tryz.pinned (.plain (OpenSpec.ofChange directionNormalsSpec)) directionNormalsCard

/-- THE TIED CARD OF 'culetlaw28.DirectionLength'. -/
def directionLengthCard : Claim7 := { stood := { row := directionLengthRow, standIns := [], harness := (true, "f7ad1422b82cd000ac5ac8a52567934553907c327eb9533e5e064f81a51bf0fc"), looks := false }, kinds := [], alts := [], laidByText := true, laidKinds := [.data, .pinned], laidTests := true, laidLooks := .later }
def DirectionLengthCardSaid : Prop := Claim7.holds Tryz.pinned (.plain (OpenSpec.ofChange directionLengthSpec)) directionLengthCard

/-- THE TIED CARD OF 'culetlaw28.DirectionArithmetic'. -/
def directionArithmeticCard : Claim7 := { stood := { row := directionArithmeticRow, standIns := [], harness := (true, "f7ad1422b82cd000ac5ac8a52567934553907c327eb9533e5e064f81a51bf0fc"), looks := false }, kinds := [], alts := [], laidByText := true, laidKinds := [.data, .pinned], laidTests := true, laidLooks := .later }
def DirectionArithmeticCardSaid : Prop := Claim7.holds Tryz.pinned (.plain (OpenSpec.ofChange directionArithmeticSpec)) directionArithmeticCard

/-- THE TIED CARD OF 'culetlaw28.DirectionInclusion'. -/
def directionInclusionCard : Claim7 := { stood := { row := directionInclusionRow, standIns := [], harness := (true, "f7ad1422b82cd000ac5ac8a52567934553907c327eb9533e5e064f81a51bf0fc"), looks := false }, kinds := [], alts := [], laidByText := true, laidKinds := [.data, .pinned], laidTests := true, laidLooks := .later }
def DirectionInclusionCardSaid : Prop := Claim7.holds Tryz.pinned (.plain (OpenSpec.ofChange directionInclusionSpec)) directionInclusionCard

/-- THE TIED CARD OF 'culetlaw28.DirectionExact'. -/
def directionExactCard : Claim7 := { stood := { row := directionExactRow, standIns := [], harness := (true, "f7ad1422b82cd000ac5ac8a52567934553907c327eb9533e5e064f81a51bf0fc"), looks := false }, kinds := [], alts := [], laidByText := true, laidKinds := [.data, .pinned], laidTests := true, laidLooks := .later }
def DirectionExactCardSaid : Prop := Claim7.holds Tryz.pinned (.plain (OpenSpec.ofChange directionExactSpec)) directionExactCard

/-- THE TIED CARD OF 'culetlaw28.DirectionPoints'. -/
def directionPointsCard : Claim7 := { stood := { row := directionPointsRow, standIns := [], harness := (true, "f7ad1422b82cd000ac5ac8a52567934553907c327eb9533e5e064f81a51bf0fc"), looks := false }, kinds := [], alts := [], laidByText := true, laidKinds := [.data, .pinned], laidTests := true, laidLooks := .later }
def DirectionPointsCardSaid : Prop := Claim7.holds Tryz.pinned (.plain (OpenSpec.ofChange directionPointsSpec)) directionPointsCard

/-- THE TIED CARD OF 'culetlaw28.DirectionOf'. -/
def directionOfCard : Claim7 := { stood := { row := directionOfRow, standIns := [], harness := (true, "f7ad1422b82cd000ac5ac8a52567934553907c327eb9533e5e064f81a51bf0fc"), looks := false }, kinds := [], alts := [], laidByText := true, laidKinds := [.data, .data, .data, .data, .pinned], laidTests := true, laidLooks := .later }
def DirectionOfCardSaid : Prop := Claim7.holds Tryz.pinned (.plain (OpenSpec.ofChange directionOfSpec)) directionOfCard

/-- THE SECOND FORM's CARD OF 'culetlaw28.DirectionNormals'. -/
def directionNormalsUptoCard : Claim7 := { stood := { row := directionNormalsUptoRow, standIns := [], harness := (true, "f7ad1422b82cd000ac5ac8a52567934553907c327eb9533e5e064f81a51bf0fc"), looks := false }, kinds := [], alts := [], laidByText := true, laidKinds := [.data, .pinned], laidTests := true, laidLooks := .later }
def DirectionNormalsUptoCardSaid : Prop := Claim7.holds Tryz.pinned (.plain (OpenSpec.upto directionNormalsSpec)) directionNormalsUptoCard

/-- THE SECOND FORM's CARD OF 'culetlaw28.DirectionLength'. -/
def directionLengthUptoCard : Claim7 := { stood := { row := directionLengthUptoRow, standIns := [], harness := (true, "f7ad1422b82cd000ac5ac8a52567934553907c327eb9533e5e064f81a51bf0fc"), looks := false }, kinds := [], alts := [], laidByText := true, laidKinds := [.data, .pinned], laidTests := true, laidLooks := .later }
def DirectionLengthUptoCardSaid : Prop := Claim7.holds Tryz.pinned (.plain (OpenSpec.upto directionLengthSpec)) directionLengthUptoCard

/-- THE SECOND FORM's CARD OF 'culetlaw28.DirectionArithmetic'. -/
def directionArithmeticUptoCard : Claim7 := { stood := { row := directionArithmeticUptoRow, standIns := [], harness := (true, "f7ad1422b82cd000ac5ac8a52567934553907c327eb9533e5e064f81a51bf0fc"), looks := false }, kinds := [], alts := [], laidByText := true, laidKinds := [.data, .pinned], laidTests := true, laidLooks := .later }
def DirectionArithmeticUptoCardSaid : Prop := Claim7.holds Tryz.pinned (.plain (OpenSpec.upto directionArithmeticSpec)) directionArithmeticUptoCard

/-- THE SECOND FORM's CARD OF 'culetlaw28.DirectionInclusion'. -/
def directionInclusionUptoCard : Claim7 := { stood := { row := directionInclusionUptoRow, standIns := [], harness := (true, "f7ad1422b82cd000ac5ac8a52567934553907c327eb9533e5e064f81a51bf0fc"), looks := false }, kinds := [], alts := [], laidByText := true, laidKinds := [.data, .pinned], laidTests := true, laidLooks := .later }
def DirectionInclusionUptoCardSaid : Prop := Claim7.holds Tryz.pinned (.plain (OpenSpec.upto directionInclusionSpec)) directionInclusionUptoCard

/-- THE SECOND FORM's CARD OF 'culetlaw28.DirectionExact'. -/
def directionExactUptoCard : Claim7 := { stood := { row := directionExactUptoRow, standIns := [], harness := (true, "f7ad1422b82cd000ac5ac8a52567934553907c327eb9533e5e064f81a51bf0fc"), looks := false }, kinds := [], alts := [], laidByText := true, laidKinds := [.data, .pinned], laidTests := true, laidLooks := .later }
def DirectionExactUptoCardSaid : Prop := Claim7.holds Tryz.pinned (.plain (OpenSpec.upto directionExactSpec)) directionExactUptoCard

/-- THE SECOND FORM's CARD OF 'culetlaw28.DirectionPoints'. -/
def directionPointsUptoCard : Claim7 := { stood := { row := directionPointsUptoRow, standIns := [], harness := (true, "f7ad1422b82cd000ac5ac8a52567934553907c327eb9533e5e064f81a51bf0fc"), looks := false }, kinds := [], alts := [], laidByText := true, laidKinds := [.data, .pinned], laidTests := true, laidLooks := .later }
def DirectionPointsUptoCardSaid : Prop := Claim7.holds Tryz.pinned (.plain (OpenSpec.upto directionPointsSpec)) directionPointsUptoCard

/-- THE SECOND FORM's CARD OF 'culetlaw28.DirectionOf'. -/
def directionOfUptoCard : Claim7 := { stood := { row := directionOfUptoRow, standIns := [], harness := (true, "f7ad1422b82cd000ac5ac8a52567934553907c327eb9533e5e064f81a51bf0fc"), looks := false }, kinds := [], alts := [], laidByText := true, laidKinds := [.data, .data, .data, .data, .pinned], laidTests := true, laidLooks := .later }
def DirectionOfUptoCardSaid : Prop := Claim7.holds Tryz.pinned (.plain (OpenSpec.upto directionOfSpec)) directionOfUptoCard
end Rows
end Go.Proofs.YtpejalpgficopaaGreatDoor
