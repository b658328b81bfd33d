/-
  DERIVED. GIVEN WITH THE SEED: THE CARDS: each row of YtddihnnodegkmaaDoorRows.lean that lists a variable, with what it lists TIED to the program's text (the seventh form; the later family's looks); each row that meets fmt, with fmt's text TOLD by the authors' own Lean function (tested against real Go, not proved from fmt's source: count such statements apart). THE CARD IS WHAT COUNTS. Prove the row's statement (the work); the ties are given (YtddihnnodegkmaaDoorTie.lean); close each card by the builder's one call (the guide's Derived/Test/ToyasCard.lean, 'card_holds'). Laid BY PROGRAM, IN A SANDBOX (cutbox-door.mjs). By AI agents, Wed Nov 11 2026. No macro, syntax, notation, axiom, sorry.
-/
import Derived.Test.YtddihnnodegkmaaDoorRows
import GoSem.ClaimSeven
namespace Go.Proofs.YtddihnnodegkmaaDoor
namespace Rows

/-- THE TIED CARD OF 'hopperlaw01.ConfigMay'. -/
def configMayCard : Claim7 := { stood := { row := configMayRow, standIns := [], harness := (true, "d00d809850d3cdfc9a9b609358cefb8e53d5fde0cab8c19ded3a078220fbc4a5"), looks := true }, kinds := [], alts := [], laidByText := true, laidKinds := [.handle], laidTests := true, laidLooks := .later }
def ConfigMayCardSaid : Prop := Claim7.holds Tryd.pinned (.plain (OpenSpec.ofChange configMaySpec)) configMayCard

/-- THE TIED CARD OF 'hopperlaw01.ConfigIs'. -/
def configIsCard : Claim7 := { stood := { row := configIsRow, standIns := [], harness := (true, "d00d809850d3cdfc9a9b609358cefb8e53d5fde0cab8c19ded3a078220fbc4a5"), looks := true }, kinds := [], alts := [], laidByText := true, laidKinds := [.handle], laidTests := true, laidLooks := .later }
def ConfigIsCardSaid : Prop := Claim7.holds Tryd.pinned (.plain (OpenSpec.ofChange configIsSpec)) configIsCard

/-- THE TIED CARD OF 'hopperlaw01.ConfigField'. -/
def configFieldCard : Claim7 := { stood := { row := configFieldRow, standIns := [], harness := (true, "d00d809850d3cdfc9a9b609358cefb8e53d5fde0cab8c19ded3a078220fbc4a5"), looks := true }, kinds := [], alts := [], laidByText := true, laidKinds := [.handle], laidTests := true, laidLooks := .later }
def ConfigFieldCardSaid : Prop := Claim7.holds Tryd.pinned (.plain (OpenSpec.ofChange configFieldSpec)) configFieldCard

/-- THE TIED CARD OF 'hopperlaw01.ConfigTells'. -/
def configTellsCard : Claim7 := { stood := { row := configTellsRow, standIns := [], harness := (true, "d00d809850d3cdfc9a9b609358cefb8e53d5fde0cab8c19ded3a078220fbc4a5"), looks := true }, kinds := [], alts := [], laidByText := true, laidKinds := [.data, .data, .data, .handle], laidTests := true, laidLooks := .later }
def ConfigTellsCardSaid : Prop := Claim7.holds Tryd.pinned (.plain (OpenSpec.ofChange configTellsSpec)) configTellsCard

/-- THE TIED CARD OF 'hopperlaw01.ConfigNobody'. -/
def configNobodyCard : Claim7 := { stood := { row := configNobodyRow, standIns := [], harness := (true, "d00d809850d3cdfc9a9b609358cefb8e53d5fde0cab8c19ded3a078220fbc4a5"), looks := true }, kinds := [], alts := [], laidByText := true, laidKinds := [.data, .data, .data, .handle], laidTests := true, laidLooks := .later }
def ConfigNobodyCardSaid : Prop := Claim7.holds Tryd.pinned (.plain (OpenSpec.ofChange configNobodySpec)) configNobodyCard

/-- THE TIED CARD OF 'hopperlaw20.ScriptBack'. -/
def scriptBackCard : Claim7 := { stood := { row := scriptBackRow, standIns := [], harness := (true, "d00d809850d3cdfc9a9b609358cefb8e53d5fde0cab8c19ded3a078220fbc4a5"), looks := true }, kinds := [], alts := [], laidByText := true, laidKinds := [.data, .data, .data, .data, .handle, .sentinel, .sentinel, .pinned], laidTests := true, laidLooks := .later }
def ScriptBackCardSaid : Prop := Claim7.holds Tryd.pinned (.plain (OpenSpec.ofChange scriptBackSpec)) scriptBackCard

/-- THE TIED CARD OF 'hopperlaw20.ScriptOnce'. -/
def scriptOnceCard : Claim7 := { stood := { row := scriptOnceRow, standIns := [], harness := (true, "d00d809850d3cdfc9a9b609358cefb8e53d5fde0cab8c19ded3a078220fbc4a5"), looks := true }, kinds := [], alts := [], laidByText := true, laidKinds := [.data, .data, .data, .data, .handle, .sentinel, .sentinel, .pinned], laidTests := true, laidLooks := .later }
def ScriptOnceCardSaid : Prop := Claim7.holds Tryd.pinned (.plain (OpenSpec.ofChange scriptOnceSpec)) scriptOnceCard

/-- THE TIED CARD OF 'hopperlaw20.ScriptJoins'. -/
def scriptJoinsCard : Claim7 := { stood := { row := scriptJoinsRow, standIns := [], harness := (true, "d00d809850d3cdfc9a9b609358cefb8e53d5fde0cab8c19ded3a078220fbc4a5"), looks := true }, kinds := [], alts := [], laidByText := true, laidKinds := [.data, .data, .data, .data, .handle, .sentinel, .sentinel, .pinned], laidTests := true, laidLooks := .later }
def ScriptJoinsCardSaid : Prop := Claim7.holds Tryd.pinned (.plain (OpenSpec.ofChange scriptJoinsSpec)) scriptJoinsCard

/-- THE SECOND FORM's CARD OF 'hopperlaw01.ConfigMay'. -/
def configMayUptoCard : Claim7 := { stood := { row := configMayUptoRow, standIns := [], harness := (true, "d00d809850d3cdfc9a9b609358cefb8e53d5fde0cab8c19ded3a078220fbc4a5"), looks := true }, kinds := [], alts := [], laidByText := true, laidKinds := [.handle], laidTests := true, laidLooks := .later }
def ConfigMayUptoCardSaid : Prop := Claim7.holds Tryd.pinned (.plain (OpenSpec.upto configMaySpec)) configMayUptoCard

/-- THE SECOND FORM's CARD OF 'hopperlaw01.ConfigIs'. -/
def configIsUptoCard : Claim7 := { stood := { row := configIsUptoRow, standIns := [], harness := (true, "d00d809850d3cdfc9a9b609358cefb8e53d5fde0cab8c19ded3a078220fbc4a5"), looks := true }, kinds := [], alts := [], laidByText := true, laidKinds := [.handle], laidTests := true, laidLooks := .later }
def ConfigIsUptoCardSaid : Prop := Claim7.holds Tryd.pinned (.plain (OpenSpec.upto configIsSpec)) configIsUptoCard

/-- THE SECOND FORM's CARD OF 'hopperlaw01.ConfigField'. -/
def configFieldUptoCard : Claim7 := { stood := { row := configFieldUptoRow, standIns := [], harness := (true, "d00d809850d3cdfc9a9b609358cefb8e53d5fde0cab8c19ded3a078220fbc4a5"), looks := true }, kinds := [], alts := [], laidByText := true, laidKinds := [.handle], laidTests := true, laidLooks := .later }
def ConfigFieldUptoCardSaid : Prop := Claim7.holds Tryd.pinned (.plain (OpenSpec.upto configFieldSpec)) configFieldUptoCard

/-- THE SECOND FORM's CARD OF 'hopperlaw01.ConfigTells'. -/
def configTellsUptoCard : Claim7 := { stood := { row := configTellsUptoRow, standIns := [], harness := (true, "d00d809850d3cdfc9a9b609358cefb8e53d5fde0cab8c19ded3a078220fbc4a5"), looks := true }, kinds := [], alts := [], laidByText := true, laidKinds := [.data, .data, .data, .handle], laidTests := true, laidLooks := .later }
def ConfigTellsUptoCardSaid : Prop := Claim7.holds Tryd.pinned (.plain (OpenSpec.upto configTellsSpec)) configTellsUptoCard

/-- THE SECOND FORM's CARD OF 'hopperlaw01.ConfigNobody'. -/
def configNobodyUptoCard : Claim7 := { stood := { row := configNobodyUptoRow, standIns := [], harness := (true, "d00d809850d3cdfc9a9b609358cefb8e53d5fde0cab8c19ded3a078220fbc4a5"), looks := true }, kinds := [], alts := [], laidByText := true, laidKinds := [.data, .data, .data, .handle], laidTests := true, laidLooks := .later }
def ConfigNobodyUptoCardSaid : Prop := Claim7.holds Tryd.pinned (.plain (OpenSpec.upto configNobodySpec)) configNobodyUptoCard

/-- THE SECOND FORM's CARD OF 'hopperlaw20.ScriptBack'. -/
def scriptBackUptoCard : Claim7 := { stood := { row := scriptBackUptoRow, standIns := [], harness := (true, "d00d809850d3cdfc9a9b609358cefb8e53d5fde0cab8c19ded3a078220fbc4a5"), looks := true }, kinds := [], alts := [], laidByText := true, laidKinds := [.data, .data, .data, .data, .handle, .sentinel, .sentinel, .pinned], laidTests := true, laidLooks := .later }
def ScriptBackUptoCardSaid : Prop := Claim7.holds Tryd.pinned (.plain (OpenSpec.upto scriptBackSpec)) scriptBackUptoCard

/-- THE SECOND FORM's CARD OF 'hopperlaw20.ScriptOnce'. -/
def scriptOnceUptoCard : Claim7 := { stood := { row := scriptOnceUptoRow, standIns := [], harness := (true, "d00d809850d3cdfc9a9b609358cefb8e53d5fde0cab8c19ded3a078220fbc4a5"), looks := true }, kinds := [], alts := [], laidByText := true, laidKinds := [.data, .data, .data, .data, .handle, .sentinel, .sentinel, .pinned], laidTests := true, laidLooks := .later }
def ScriptOnceUptoCardSaid : Prop := Claim7.holds Tryd.pinned (.plain (OpenSpec.upto scriptOnceSpec)) scriptOnceUptoCard

/-- THE SECOND FORM's CARD OF 'hopperlaw20.ScriptJoins'. -/
def scriptJoinsUptoCard : Claim7 := { stood := { row := scriptJoinsUptoRow, standIns := [], harness := (true, "d00d809850d3cdfc9a9b609358cefb8e53d5fde0cab8c19ded3a078220fbc4a5"), looks := true }, kinds := [], alts := [], laidByText := true, laidKinds := [.data, .data, .data, .data, .handle, .sentinel, .sentinel, .pinned], laidTests := true, laidLooks := .later }
def ScriptJoinsUptoCardSaid : Prop := Claim7.holds Tryd.pinned (.plain (OpenSpec.upto scriptJoinsSpec)) scriptJoinsUptoCard
end Rows
end Go.Proofs.YtddihnnodegkmaaDoor
