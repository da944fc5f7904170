/-
  DERIVED. GIVEN WITH THE SEED: THE CARDS: each row of YtdadecjefafflaaDoorRows.lean that lists a variable, with what it lists TIED to the program's text (the seventh form; the later family's looks); each row that meets fmt, with fmt's text TOLD by the authors' own Lean function (tested against real Go, not proved from fmt's source: count such statements apart). THE CARD IS WHAT COUNTS. Prove the row's statement (the work); the ties are given (YtdadecjefafflaaDoorTie.lean); close each card by the builder's one call (the guide's Derived/Test/ToyasCard.lean, 'card_holds'). Laid BY PROGRAM, IN A SANDBOX (cutbox-door.mjs). By AI agents, Wed Nov 11 2026. No macro, syntax, notation, axiom, sorry.
-/
import Derived.Test.YtdadecjefafflaaDoorRows
import GoSem.ClaimSeven
namespace Go.Proofs.YtdadecjefafflaaDoor
namespace Rows

/-- THE TIED CARD OF 'culetlaw55.ScheduleCheck'. -/
def scheduleCheckCard : Claim7 := { stood := { row := scheduleCheckRow, standIns := [], harness := (true, "d912ba0d30831ee2e61ed9eab6e33a6336158e07f3e26d94c728602a2c56caaa"), looks := false }, kinds := [], alts := [], laidByText := true, laidKinds := [.data, .data, .data], laidTests := true, laidLooks := .later }
def ScheduleCheckCardSaid : Prop := Claim7.holds Tryd.pinned (.plain (OpenSpec.ofChange scheduleCheckSpec)) scheduleCheckCard

/-- THE SECOND FORM's CARD OF 'culetlaw55.ScheduleCheck'. -/
def scheduleCheckUptoCard : Claim7 := { stood := { row := scheduleCheckUptoRow, standIns := [], harness := (true, "d912ba0d30831ee2e61ed9eab6e33a6336158e07f3e26d94c728602a2c56caaa"), looks := false }, kinds := [], alts := [], laidByText := true, laidKinds := [.data, .data, .data], laidTests := true, laidLooks := .later }
def ScheduleCheckUptoCardSaid : Prop := Claim7.holds Tryd.pinned (.plain (OpenSpec.upto scheduleCheckSpec)) scheduleCheckUptoCard
end Rows
end Go.Proofs.YtdadecjefafflaaDoor
