/-
  DERIVED. GIVEN WITH THE SEED: THE CARDS: each row of YtpdbkbadjgellaaDoorRows.lean that lists a variable, with what it lists TIED to the program's text (the seventh form; the later family's looks); each row that meets fmt, with fmt's text TOLD by the authors' own Lean function (tested against real Go, not proved from fmt's source: count such statements apart). THE CARD IS WHAT COUNTS. Prove the row's statement (the work); the ties are given (YtpdbkbadjgellaaDoorTie.lean); close each card by the builder's one call (the guide's Derived/Test/ToyasCard.lean, 'card_holds'). Laid BY PROGRAM, IN A SANDBOX (cutbox-door.mjs). By AI agents, Wed Nov 11 2026. No macro, syntax, notation, axiom, sorry.
-/
import Derived.Test.YtpdbkbadjgellaaDoorRows
import GoSem.ClaimSeven
namespace Go.Proofs.YtpdbkbadjgellaaDoor
namespace Rows

/-- THE TIED CARD OF 'payrolllaw17.TokenLimits'. -/
def tokenLimitsCard : Claim7 := { stood := { row := tokenLimitsRow, standIns := [], harness := (true, "3bd887b6d38e3e64ccd46cfbd9d3dfee8d237fdc48e124b428ed3f53b34c37aa"), looks := false }, kinds := [], alts := [], laidByText := true, laidKinds := [.data, .data, .data, .data, .data, .pinned], laidTests := true, laidLooks := .later }
def TokenLimitsCardSaid : Prop := Claim7.holds Tryd.pinned (.plain (OpenSpec.ofChange tokenLimitsSpec)) tokenLimitsCard

/-- THE TIED CARD OF 'payrolllaw17.TokenRoundTrip'. -/
def tokenRoundTripCard : Claim7 := { stood := { row := tokenRoundTripRow, standIns := [], harness := (true, "3bd887b6d38e3e64ccd46cfbd9d3dfee8d237fdc48e124b428ed3f53b34c37aa"), looks := false }, kinds := [], alts := [], laidByText := true, laidKinds := [.data, .data, .data, .data, .data, .pinned], laidTests := true, laidLooks := .later }
def TokenRoundTripCardSaid : Prop := Claim7.holds Tryd.pinned (.plain (OpenSpec.ofChange tokenRoundTripSpec)) tokenRoundTripCard

/-- THE TIED CARD OF 'payrolllaw17.TokenBlanks'. -/
def tokenBlanksCard : Claim7 := { stood := { row := tokenBlanksRow, standIns := [], harness := (true, "3bd887b6d38e3e64ccd46cfbd9d3dfee8d237fdc48e124b428ed3f53b34c37aa"), looks := false }, kinds := [], alts := [], laidByText := true, laidKinds := [.data, .data, .data, .data, .data, .pinned], laidTests := true, laidLooks := .later }
def TokenBlanksCardSaid : Prop := Claim7.holds Tryd.pinned (.plain (OpenSpec.ofChange tokenBlanksSpec)) tokenBlanksCard

/-- THE TIED CARD OF 'payrolllaw17.TokenNumbers'. -/
def tokenNumbersCard : Claim7 := { stood := { row := tokenNumbersRow, standIns := [], harness := (true, "3bd887b6d38e3e64ccd46cfbd9d3dfee8d237fdc48e124b428ed3f53b34c37aa"), looks := false }, kinds := [], alts := [], laidByText := true, laidKinds := [.data, .data, .data, .data, .data, .pinned], laidTests := true, laidLooks := .later }
def TokenNumbersCardSaid : Prop := Claim7.holds Tryd.pinned (.plain (OpenSpec.ofChange tokenNumbersSpec)) tokenNumbersCard

/-- THE SECOND FORM's CARD OF 'payrolllaw17.TokenLimits'. -/
def tokenLimitsUptoCard : Claim7 := { stood := { row := tokenLimitsUptoRow, standIns := [], harness := (true, "3bd887b6d38e3e64ccd46cfbd9d3dfee8d237fdc48e124b428ed3f53b34c37aa"), looks := false }, kinds := [], alts := [], laidByText := true, laidKinds := [.data, .data, .data, .data, .data, .pinned], laidTests := true, laidLooks := .later }
def TokenLimitsUptoCardSaid : Prop := Claim7.holds Tryd.pinned (.plain (OpenSpec.upto tokenLimitsSpec)) tokenLimitsUptoCard

/-- THE SECOND FORM's CARD OF 'payrolllaw17.TokenRoundTrip'. -/
def tokenRoundTripUptoCard : Claim7 := { stood := { row := tokenRoundTripUptoRow, standIns := [], harness := (true, "3bd887b6d38e3e64ccd46cfbd9d3dfee8d237fdc48e124b428ed3f53b34c37aa"), looks := false }, kinds := [], alts := [], laidByText := true, laidKinds := [.data, .data, .data, .data, .data, .pinned], laidTests := true, laidLooks := .later }
def TokenRoundTripUptoCardSaid : Prop := Claim7.holds Tryd.pinned (.plain (OpenSpec.upto tokenRoundTripSpec)) tokenRoundTripUptoCard

/-- THE SECOND FORM's CARD OF 'payrolllaw17.TokenBlanks'. -/
def tokenBlanksUptoCard : Claim7 := { stood := { row := tokenBlanksUptoRow, standIns := [], harness := (true, "3bd887b6d38e3e64ccd46cfbd9d3dfee8d237fdc48e124b428ed3f53b34c37aa"), looks := false }, kinds := [], alts := [], laidByText := true, laidKinds := [.data, .data, .data, .data, .data, .pinned], laidTests := true, laidLooks := .later }
def TokenBlanksUptoCardSaid : Prop := Claim7.holds Tryd.pinned (.plain (OpenSpec.upto tokenBlanksSpec)) tokenBlanksUptoCard

/-- THE SECOND FORM's CARD OF 'payrolllaw17.TokenNumbers'. -/
def tokenNumbersUptoCard : Claim7 := { stood := { row := tokenNumbersUptoRow, standIns := [], harness := (true, "3bd887b6d38e3e64ccd46cfbd9d3dfee8d237fdc48e124b428ed3f53b34c37aa"), looks := false }, kinds := [], alts := [], laidByText := true, laidKinds := [.data, .data, .data, .data, .data, .pinned], laidTests := true, laidLooks := .later }
def TokenNumbersUptoCardSaid : Prop := Claim7.holds Tryd.pinned (.plain (OpenSpec.upto tokenNumbersSpec)) tokenNumbersUptoCard
end Rows
end Go.Proofs.YtpdbkbadjgellaaDoor
