/-
  DERIVED. GIVEN WITH THE SEED: THE CARDS: each row of YtphlckkbihmlnaaGreatDoorRows.lean that lists a variable, with what it lists TIED to the program's text (the seventh form; the later family's looks); each row that meets fmt, with fmt's text TOLD by the authors' own Lean function (tested against real Go, not proved from fmt's source: count such statements apart). THE CARD IS WHAT COUNTS. Prove the row's statement (the work); the ties are given (YtphlckkbihmlnaaGreatDoorTie.lean); close each card by the builder's one call (the guide's Derived/Test/ToyasCard.lean, 'card_holds'). Laid BY PROGRAM, IN A SANDBOX (cutbox-door.mjs). By AI agents, Wed Nov 11 2026. No macro, syntax, notation, axiom, sorry.
-/
import Derived.Test.YtphlckkbihmlnaaGreatDoorRows
import GoSem.ClaimSeven
namespace Go.Proofs.YtphlckkbihmlnaaGreatDoor
namespace Rows

/-- THE TIED CARD OF 'culetlaw29.RefractionBack'. -/
def refractionBackCard : Claim7 := { stood := { row := refractionBackRow, standIns := [], harness := (true, "12c8e7d58c70cb223f1f9a00a6388f234459a3814b3e37f7b39de63a34f17e6c"), looks := false }, kinds := [], alts := [], laidByText := true, laidKinds := [.data, .pinned], laidTests := true, laidLooks := .later }
def RefractionBackCardSaid : Prop := Claim7.holds Tryz.pinned (.plain (OpenSpec.ofChange refractionBackSpec)) refractionBackCard

/-- THE TIED CARD OF 'culetlaw29.RefractionTwice'. -/
def refractionTwiceCard : Claim7 := { stood := { row := refractionTwiceRow, standIns := [], harness := (true, "12c8e7d58c70cb223f1f9a00a6388f234459a3814b3e37f7b39de63a34f17e6c"), looks := false }, kinds := [], alts := [], laidByText := true, laidKinds := [.data, .pinned], laidTests := true, laidLooks := .later }
def RefractionTwiceCardSaid : Prop := Claim7.holds Tryz.pinned (.plain (OpenSpec.ofChange refractionTwiceSpec)) refractionTwiceCard

/-- THE SECOND FORM's CARD OF 'culetlaw29.RefractionBack'. -/
def refractionBackUptoCard : Claim7 := { stood := { row := refractionBackUptoRow, standIns := [], harness := (true, "12c8e7d58c70cb223f1f9a00a6388f234459a3814b3e37f7b39de63a34f17e6c"), looks := false }, kinds := [], alts := [], laidByText := true, laidKinds := [.data, .pinned], laidTests := true, laidLooks := .later }
def RefractionBackUptoCardSaid : Prop := Claim7.holds Tryz.pinned (.plain (OpenSpec.upto refractionBackSpec)) refractionBackUptoCard

/-- THE SECOND FORM's CARD OF 'culetlaw29.RefractionTwice'. -/
def refractionTwiceUptoCard : Claim7 := { stood := { row := refractionTwiceUptoRow, standIns := [], harness := (true, "12c8e7d58c70cb223f1f9a00a6388f234459a3814b3e37f7b39de63a34f17e6c"), looks := false }, kinds := [], alts := [], laidByText := true, laidKinds := [.data, .pinned], laidTests := true, laidLooks := .later }
def RefractionTwiceUptoCardSaid : Prop := Claim7.holds Tryz.pinned (.plain (OpenSpec.upto refractionTwiceSpec)) refractionTwiceUptoCard
end Rows
end Go.Proofs.YtphlckkbihmlnaaGreatDoor
