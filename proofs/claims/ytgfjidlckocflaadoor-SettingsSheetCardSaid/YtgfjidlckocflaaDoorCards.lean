/-
  DERIVED. GIVEN WITH THE SEED: THE CARDS: each row of YtgfjidlckocflaaDoorRows.lean that lists a variable, with what it lists TIED to the program's text (the seventh form; the later family's looks); each row that meets fmt, with fmt's text TOLD by the authors' own Lean function (tested against real Go, not proved from fmt's source: count such statements apart). THE CARD IS WHAT COUNTS. Prove the row's statement (the work); the ties are given (YtgfjidlckocflaaDoorTie.lean); close each card by the builder's one call (the guide's Derived/Test/ToyasCard.lean, 'card_holds'). Laid BY PROGRAM, IN A SANDBOX (cutbox-door.mjs). By AI agents, Wed Nov 11 2026. No macro, syntax, notation, axiom, sorry.
-/
import Derived.Test.YtgfjidlckocflaaDoorRows
import GoSem.ClaimSeven
namespace Go.Proofs.YtgfjidlckocflaaDoor
namespace Rows

/-- THE TIED CARD OF 'culetlaw48.SettingsTeeth'. -/
def settingsTeethCard : Claim7 := { stood := { row := settingsTeethRow, standIns := [], harness := (true, "d3232f25640f09ba5b7c0e8c9d3d620c65b670a9e2a7411513ed7b698431e22b"), looks := false }, kinds := [], alts := [], laidByText := true, laidKinds := [.data, .data, .data], laidTests := true, laidLooks := .later }
def SettingsTeethCardSaid : Prop := Claim7.holds Tryd.pinned (.plain (OpenSpec.ofChange settingsTeethSpec)) settingsTeethCard

/-- THE TIED CARD OF 'culetlaw48.SettingsTurned'. -/
def settingsTurnedCard : Claim7 := { stood := { row := settingsTurnedRow, standIns := [], harness := (true, "d3232f25640f09ba5b7c0e8c9d3d620c65b670a9e2a7411513ed7b698431e22b"), looks := false }, kinds := [], alts := [], laidByText := true, laidKinds := [.data, .data, .data], laidTests := true, laidLooks := .later }
def SettingsTurnedCardSaid : Prop := Claim7.holds Tryd.pinned (.plain (OpenSpec.ofChange settingsTurnedSpec)) settingsTurnedCard

/-- THE TIED CARD OF 'culetlaw48.SettingsOrder'. -/
def settingsOrderCard : Claim7 := { stood := { row := settingsOrderRow, standIns := [], harness := (true, "d3232f25640f09ba5b7c0e8c9d3d620c65b670a9e2a7411513ed7b698431e22b"), looks := false }, kinds := [], alts := [], laidByText := true, laidKinds := [.data, .data, .data], laidTests := true, laidLooks := .later }
def SettingsOrderCardSaid : Prop := Claim7.holds Tryd.pinned (.plain (OpenSpec.ofChange settingsOrderSpec)) settingsOrderCard

/-- THE TIED CARD OF 'culetlaw48.SettingsReduced'. -/
def settingsReducedCard : Claim7 := { stood := { row := settingsReducedRow, standIns := [], harness := (true, "d3232f25640f09ba5b7c0e8c9d3d620c65b670a9e2a7411513ed7b698431e22b"), looks := false }, kinds := [], alts := [], laidByText := true, laidKinds := [.data, .data, .data], laidTests := true, laidLooks := .later }
def SettingsReducedCardSaid : Prop := Claim7.holds Tryd.pinned (.plain (OpenSpec.ofChange settingsReducedSpec)) settingsReducedCard

/-- THE TIED CARD OF 'culetlaw48.SettingsSlide'. -/
def settingsSlideCard : Claim7 := { stood := { row := settingsSlideRow, standIns := [], harness := (true, "d3232f25640f09ba5b7c0e8c9d3d620c65b670a9e2a7411513ed7b698431e22b"), looks := false }, kinds := [], alts := [], laidByText := true, laidKinds := [.data, .data, .data], laidTests := true, laidLooks := .later }
def SettingsSlideCardSaid : Prop := Claim7.holds Tryd.pinned (.plain (OpenSpec.ofChange settingsSlideSpec)) settingsSlideCard

/-- THE TIED CARD OF 'culetlaw48.SettingsForms'. -/
def settingsFormsCard : Claim7 := { stood := { row := settingsFormsRow, standIns := [], harness := (true, "d3232f25640f09ba5b7c0e8c9d3d620c65b670a9e2a7411513ed7b698431e22b"), looks := false }, kinds := [], alts := [], laidByText := true, laidKinds := [.data, .data, .data], laidTests := true, laidLooks := .later }
def SettingsFormsCardSaid : Prop := Claim7.holds Tryd.pinned (.plain (OpenSpec.ofChange settingsFormsSpec)) settingsFormsCard

/-- THE TIED CARD OF 'culetlaw48.SettingsSheet'. -/
def settingsSheetCard : Claim7 := { stood := { row := settingsSheetRow, standIns := [], harness := (true, "d3232f25640f09ba5b7c0e8c9d3d620c65b670a9e2a7411513ed7b698431e22b"), looks := false }, kinds := [], alts := [], laidByText := true, laidKinds := [.data, .data, .data], laidTests := true, laidLooks := .later }
def SettingsSheetCardSaid : Prop := Claim7.holds Tryd.pinned (.plain (OpenSpec.ofChange settingsSheetSpec)) settingsSheetCard

/-- THE SECOND FORM's CARD OF 'culetlaw48.SettingsTeeth'. -/
def settingsTeethUptoCard : Claim7 := { stood := { row := settingsTeethUptoRow, standIns := [], harness := (true, "d3232f25640f09ba5b7c0e8c9d3d620c65b670a9e2a7411513ed7b698431e22b"), looks := false }, kinds := [], alts := [], laidByText := true, laidKinds := [.data, .data, .data], laidTests := true, laidLooks := .later }
def SettingsTeethUptoCardSaid : Prop := Claim7.holds Tryd.pinned (.plain (OpenSpec.upto settingsTeethSpec)) settingsTeethUptoCard

/-- THE SECOND FORM's CARD OF 'culetlaw48.SettingsTurned'. -/
def settingsTurnedUptoCard : Claim7 := { stood := { row := settingsTurnedUptoRow, standIns := [], harness := (true, "d3232f25640f09ba5b7c0e8c9d3d620c65b670a9e2a7411513ed7b698431e22b"), looks := false }, kinds := [], alts := [], laidByText := true, laidKinds := [.data, .data, .data], laidTests := true, laidLooks := .later }
def SettingsTurnedUptoCardSaid : Prop := Claim7.holds Tryd.pinned (.plain (OpenSpec.upto settingsTurnedSpec)) settingsTurnedUptoCard

/-- THE SECOND FORM's CARD OF 'culetlaw48.SettingsOrder'. -/
def settingsOrderUptoCard : Claim7 := { stood := { row := settingsOrderUptoRow, standIns := [], harness := (true, "d3232f25640f09ba5b7c0e8c9d3d620c65b670a9e2a7411513ed7b698431e22b"), looks := false }, kinds := [], alts := [], laidByText := true, laidKinds := [.data, .data, .data], laidTests := true, laidLooks := .later }
def SettingsOrderUptoCardSaid : Prop := Claim7.holds Tryd.pinned (.plain (OpenSpec.upto settingsOrderSpec)) settingsOrderUptoCard

/-- THE SECOND FORM's CARD OF 'culetlaw48.SettingsReduced'. -/
def settingsReducedUptoCard : Claim7 := { stood := { row := settingsReducedUptoRow, standIns := [], harness := (true, "d3232f25640f09ba5b7c0e8c9d3d620c65b670a9e2a7411513ed7b698431e22b"), looks := false }, kinds := [], alts := [], laidByText := true, laidKinds := [.data, .data, .data], laidTests := true, laidLooks := .later }
def SettingsReducedUptoCardSaid : Prop := Claim7.holds Tryd.pinned (.plain (OpenSpec.upto settingsReducedSpec)) settingsReducedUptoCard

/-- THE SECOND FORM's CARD OF 'culetlaw48.SettingsSlide'. -/
def settingsSlideUptoCard : Claim7 := { stood := { row := settingsSlideUptoRow, standIns := [], harness := (true, "d3232f25640f09ba5b7c0e8c9d3d620c65b670a9e2a7411513ed7b698431e22b"), looks := false }, kinds := [], alts := [], laidByText := true, laidKinds := [.data, .data, .data], laidTests := true, laidLooks := .later }
def SettingsSlideUptoCardSaid : Prop := Claim7.holds Tryd.pinned (.plain (OpenSpec.upto settingsSlideSpec)) settingsSlideUptoCard

/-- THE SECOND FORM's CARD OF 'culetlaw48.SettingsForms'. -/
def settingsFormsUptoCard : Claim7 := { stood := { row := settingsFormsUptoRow, standIns := [], harness := (true, "d3232f25640f09ba5b7c0e8c9d3d620c65b670a9e2a7411513ed7b698431e22b"), looks := false }, kinds := [], alts := [], laidByText := true, laidKinds := [.data, .data, .data], laidTests := true, laidLooks := .later }
def SettingsFormsUptoCardSaid : Prop := Claim7.holds Tryd.pinned (.plain (OpenSpec.upto settingsFormsSpec)) settingsFormsUptoCard

/-- THE SECOND FORM's CARD OF 'culetlaw48.SettingsSheet'. -/
def settingsSheetUptoCard : Claim7 := { stood := { row := settingsSheetUptoRow, standIns := [], harness := (true, "d3232f25640f09ba5b7c0e8c9d3d620c65b670a9e2a7411513ed7b698431e22b"), looks := false }, kinds := [], alts := [], laidByText := true, laidKinds := [.data, .data, .data], laidTests := true, laidLooks := .later }
def SettingsSheetUptoCardSaid : Prop := Claim7.holds Tryd.pinned (.plain (OpenSpec.upto settingsSheetSpec)) settingsSheetUptoCard
end Rows
end Go.Proofs.YtgfjidlckocflaaDoor
