/-
  DERIVED. GIVEN WITH THE SEED: THE CARDS: each row of YtmcpjkcggfmcmaaGreatDoorRows.lean that lists a variable, with what it lists TIED to the program's text (the seventh form; the later family's looks); each row that meets fmt, with fmt's text TOLD by the authors' own Lean function (tested against real Go, not proved from fmt's source: count such statements apart). THE CARD IS WHAT COUNTS. Prove the row's statement (the work); the ties are given (YtmcpjkcggfmcmaaGreatDoorTie.lean); close each card by the builder's one call (the guide's Derived/Test/ToyasCard.lean, 'card_holds'). Laid BY PROGRAM, IN A SANDBOX (cutbox-door.mjs). By AI agents, Wed Nov 11 2026. No macro, syntax, notation, axiom, sorry.
-/
import Derived.Test.YtmcpjkcggfmcmaaGreatDoorRows
import GoSem.ClaimSeven
namespace Go.Proofs.YtmcpjkcggfmcmaaGreatDoor
namespace Rows

/-- THE TIED CARD OF 'payrolllaw23.CompilerLimits'. -/
def compilerLimitsCard : Claim7 := { stood := { row := compilerLimitsRow, standIns := [], harness := (true, "dbef33d49dad9f097a727b0fefe6274a7fb5fd656fb9a04dc536b7a00f443b3e"), looks := false }, kinds := [], alts := [], laidByText := true, laidKinds := [.data, .data, .data, .data], laidTests := true, laidLooks := .later }
def CompilerLimitsCardSaid : Prop := Claim7.holds Tryz.pinned (.plain (OpenSpec.ofChange compilerLimitsSpec)) compilerLimitsCard

/-- THE TIED CARD OF 'payrolllaw23.CompilerCompiles'. -/
def compilerCompilesCard : Claim7 := { stood := { row := compilerCompilesRow, standIns := [], harness := (true, "dbef33d49dad9f097a727b0fefe6274a7fb5fd656fb9a04dc536b7a00f443b3e"), looks := false }, kinds := [], alts := [], laidByText := true, laidKinds := [.data, .data, .data, .data], laidTests := true, laidLooks := .later }
def CompilerCompilesCardSaid : Prop := Claim7.holds Tryz.pinned (.plain (OpenSpec.ofChange compilerCompilesSpec)) compilerCompilesCard

/-- THE TIED CARD OF 'payrolllaw23.CompilerDays'. -/
def compilerDaysCard : Claim7 := { stood := { row := compilerDaysRow, standIns := [], harness := (true, "dbef33d49dad9f097a727b0fefe6274a7fb5fd656fb9a04dc536b7a00f443b3e"), looks := false }, kinds := [], alts := [], laidByText := true, laidKinds := [.data, .data, .data, .data], laidTests := true, laidLooks := .later }
def CompilerDaysCardSaid : Prop := Claim7.holds Tryz.pinned (.plain (OpenSpec.ofChange compilerDaysSpec)) compilerDaysCard

/-- THE SECOND FORM's CARD OF 'payrolllaw23.CompilerLimits'. -/
def compilerLimitsUptoCard : Claim7 := { stood := { row := compilerLimitsUptoRow, standIns := [], harness := (true, "dbef33d49dad9f097a727b0fefe6274a7fb5fd656fb9a04dc536b7a00f443b3e"), looks := false }, kinds := [], alts := [], laidByText := true, laidKinds := [.data, .data, .data, .data], laidTests := true, laidLooks := .later }
def CompilerLimitsUptoCardSaid : Prop := Claim7.holds Tryz.pinned (.plain (OpenSpec.upto compilerLimitsSpec)) compilerLimitsUptoCard

/-- THE SECOND FORM's CARD OF 'payrolllaw23.CompilerCompiles'. -/
def compilerCompilesUptoCard : Claim7 := { stood := { row := compilerCompilesUptoRow, standIns := [], harness := (true, "dbef33d49dad9f097a727b0fefe6274a7fb5fd656fb9a04dc536b7a00f443b3e"), looks := false }, kinds := [], alts := [], laidByText := true, laidKinds := [.data, .data, .data, .data], laidTests := true, laidLooks := .later }
def CompilerCompilesUptoCardSaid : Prop := Claim7.holds Tryz.pinned (.plain (OpenSpec.upto compilerCompilesSpec)) compilerCompilesUptoCard

/-- THE SECOND FORM's CARD OF 'payrolllaw23.CompilerDays'. -/
def compilerDaysUptoCard : Claim7 := { stood := { row := compilerDaysUptoRow, standIns := [], harness := (true, "dbef33d49dad9f097a727b0fefe6274a7fb5fd656fb9a04dc536b7a00f443b3e"), looks := false }, kinds := [], alts := [], laidByText := true, laidKinds := [.data, .data, .data, .data], laidTests := true, laidLooks := .later }
def CompilerDaysUptoCardSaid : Prop := Claim7.holds Tryz.pinned (.plain (OpenSpec.upto compilerDaysSpec)) compilerDaysUptoCard
end Rows
end Go.Proofs.YtmcpjkcggfmcmaaGreatDoor
