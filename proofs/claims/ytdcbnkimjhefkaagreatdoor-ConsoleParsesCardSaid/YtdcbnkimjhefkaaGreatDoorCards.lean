/-
  DERIVED. GIVEN WITH THE SEED: THE CARDS: each row of YtdcbnkimjhefkaaGreatDoorRows.lean that lists a variable, with what it lists TIED to the program's text (the seventh form; the later family's looks); each row that meets fmt, with fmt's text TOLD by the authors' own Lean function (tested against real Go, not proved from fmt's source: count such statements apart). THE CARD IS WHAT COUNTS. Prove the row's statement (the work); the ties are given (YtdcbnkimjhefkaaGreatDoorTie.lean); close each card by the builder's one call (the guide's Derived/Test/ToyasCard.lean, 'card_holds'). Laid BY PROGRAM, IN A SANDBOX (cutbox-door.mjs). By AI agents, Wed Nov 11 2026. No macro, syntax, notation, axiom, sorry.
-/
import Derived.Test.YtdcbnkimjhefkaaGreatDoorRows
import GoSem.ClaimSeven
namespace Go.Proofs.YtdcbnkimjhefkaaGreatDoor
namespace Rows

/-- THE TIED CARD OF 'payrolllaw46.ConsoleLaws'. -/
def consoleLawsCard : Claim7 := { stood := { row := consoleLawsRow, standIns := [], harness := (true, "0c94eda7e4ea826f0feda428a811546b8974f2a28bf50c10fab726b3592c074e"), looks := true }, kinds := [], alts := [], laidByText := true, laidKinds := [.pinned, .data, .data, .sentinel, .sentinel, .data, .data, .data, .data, .data, .data], laidTests := true, laidLooks := .later }
def ConsoleLawsCardSaid : Prop := Claim7.holds Tryz.pinned (.plain (OpenSpec.ofChange consoleLawsSpec)) consoleLawsCard

/-- THE TIED CARD OF 'payrolllaw46.ConsoleParses'. -/
def consoleParsesCard : Claim7 := { stood := { row := consoleParsesRow, standIns := [], harness := (true, "0c94eda7e4ea826f0feda428a811546b8974f2a28bf50c10fab726b3592c074e"), looks := true }, kinds := [], alts := [], laidByText := true, laidKinds := [.pinned, .data, .data, .sentinel, .sentinel, .data, .data, .data, .data, .data, .data], laidTests := true, laidLooks := .later }
def ConsoleParsesCardSaid : Prop := Claim7.holds Tryz.pinned (.plain (OpenSpec.ofChange consoleParsesSpec)) consoleParsesCard

/-- THE TIED CARD OF 'payrolllaw46.ConsoleFormats'. -/
def consoleFormatsCard : Claim7 := { stood := { row := consoleFormatsRow, standIns := [], harness := (true, "0c94eda7e4ea826f0feda428a811546b8974f2a28bf50c10fab726b3592c074e"), looks := true }, kinds := [], alts := [], laidByText := true, laidKinds := [.pinned, .data, .data, .sentinel, .sentinel, .data, .data, .data, .data, .data, .data], laidTests := true, laidLooks := .later }
def ConsoleFormatsCardSaid : Prop := Claim7.holds Tryz.pinned (.plain (OpenSpec.ofChange consoleFormatsSpec)) consoleFormatsCard

/-- THE TIED CARD OF 'payrolllaw46.ConsoleReturns'. -/
def consoleReturnsCard : Claim7 := { stood := { row := consoleReturnsRow, standIns := [], harness := (true, "0c94eda7e4ea826f0feda428a811546b8974f2a28bf50c10fab726b3592c074e"), looks := true }, kinds := [], alts := [], laidByText := true, laidKinds := [.data, .data, .data, .data, .pinned, .data, .sentinel, .sentinel, .data, .data, .data], laidTests := true, laidLooks := .later }
def ConsoleReturnsCardSaid : Prop := Claim7.holds Tryz.pinned (.plain (OpenSpec.ofChange consoleReturnsSpec)) consoleReturnsCard

/-- THE TIED CARD OF 'payrolllaw46.ConsoleLimits'. -/
def consoleLimitsCard : Claim7 := { stood := { row := consoleLimitsRow, standIns := [], harness := (true, "0c94eda7e4ea826f0feda428a811546b8974f2a28bf50c10fab726b3592c074e"), looks := true }, kinds := [], alts := [], laidByText := true, laidKinds := [.pinned, .data, .data, .sentinel, .sentinel, .data, .data, .data, .data, .data, .data], laidTests := true, laidLooks := .later }
def ConsoleLimitsCardSaid : Prop := Claim7.holds Tryz.pinned (.plain (OpenSpec.ofChange consoleLimitsSpec)) consoleLimitsCard

/-- THE SECOND FORM's CARD OF 'payrolllaw46.ConsoleLaws'. -/
def consoleLawsUptoCard : Claim7 := { stood := { row := consoleLawsUptoRow, standIns := [], harness := (true, "0c94eda7e4ea826f0feda428a811546b8974f2a28bf50c10fab726b3592c074e"), looks := true }, kinds := [], alts := [], laidByText := true, laidKinds := [.pinned, .data, .data, .sentinel, .sentinel, .data, .data, .data, .data, .data, .data], laidTests := true, laidLooks := .later }
def ConsoleLawsUptoCardSaid : Prop := Claim7.holds Tryz.pinned (.plain (OpenSpec.upto consoleLawsSpec)) consoleLawsUptoCard

/-- THE SECOND FORM's CARD OF 'payrolllaw46.ConsoleParses'. -/
def consoleParsesUptoCard : Claim7 := { stood := { row := consoleParsesUptoRow, standIns := [], harness := (true, "0c94eda7e4ea826f0feda428a811546b8974f2a28bf50c10fab726b3592c074e"), looks := true }, kinds := [], alts := [], laidByText := true, laidKinds := [.pinned, .data, .data, .sentinel, .sentinel, .data, .data, .data, .data, .data, .data], laidTests := true, laidLooks := .later }
def ConsoleParsesUptoCardSaid : Prop := Claim7.holds Tryz.pinned (.plain (OpenSpec.upto consoleParsesSpec)) consoleParsesUptoCard

/-- THE SECOND FORM's CARD OF 'payrolllaw46.ConsoleFormats'. -/
def consoleFormatsUptoCard : Claim7 := { stood := { row := consoleFormatsUptoRow, standIns := [], harness := (true, "0c94eda7e4ea826f0feda428a811546b8974f2a28bf50c10fab726b3592c074e"), looks := true }, kinds := [], alts := [], laidByText := true, laidKinds := [.pinned, .data, .data, .sentinel, .sentinel, .data, .data, .data, .data, .data, .data], laidTests := true, laidLooks := .later }
def ConsoleFormatsUptoCardSaid : Prop := Claim7.holds Tryz.pinned (.plain (OpenSpec.upto consoleFormatsSpec)) consoleFormatsUptoCard

/-- THE SECOND FORM's CARD OF 'payrolllaw46.ConsoleReturns'. -/
def consoleReturnsUptoCard : Claim7 := { stood := { row := consoleReturnsUptoRow, standIns := [], harness := (true, "0c94eda7e4ea826f0feda428a811546b8974f2a28bf50c10fab726b3592c074e"), looks := true }, kinds := [], alts := [], laidByText := true, laidKinds := [.data, .data, .data, .data, .pinned, .data, .sentinel, .sentinel, .data, .data, .data], laidTests := true, laidLooks := .later }
def ConsoleReturnsUptoCardSaid : Prop := Claim7.holds Tryz.pinned (.plain (OpenSpec.upto consoleReturnsSpec)) consoleReturnsUptoCard

/-- THE SECOND FORM's CARD OF 'payrolllaw46.ConsoleLimits'. -/
def consoleLimitsUptoCard : Claim7 := { stood := { row := consoleLimitsUptoRow, standIns := [], harness := (true, "0c94eda7e4ea826f0feda428a811546b8974f2a28bf50c10fab726b3592c074e"), looks := true }, kinds := [], alts := [], laidByText := true, laidKinds := [.pinned, .data, .data, .sentinel, .sentinel, .data, .data, .data, .data, .data, .data], laidTests := true, laidLooks := .later }
def ConsoleLimitsUptoCardSaid : Prop := Claim7.holds Tryz.pinned (.plain (OpenSpec.upto consoleLimitsSpec)) consoleLimitsUptoCard
end Rows
end Go.Proofs.YtdcbnkimjhefkaaGreatDoor
