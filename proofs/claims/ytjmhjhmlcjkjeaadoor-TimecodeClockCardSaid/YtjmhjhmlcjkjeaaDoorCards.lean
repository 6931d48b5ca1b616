/-
  DERIVED. GIVEN WITH THE SEED: THE CARDS: each row of YtjmhjhmlcjkjeaaDoorRows.lean that lists a variable, with what it lists TIED to the program's text (the seventh form; the later family's looks); each row that meets fmt, with fmt's text TOLD by the authors' own Lean function (tested against real Go, not proved from fmt's source: count such statements apart). THE CARD IS WHAT COUNTS. Prove the row's statement (the work); the ties are given (YtjmhjhmlcjkjeaaDoorTie.lean); close each card by the builder's one call (the guide's Derived/Test/ToyasCard.lean, 'card_holds'). Laid BY PROGRAM, IN A SANDBOX (cutbox-door.mjs). By AI agents, Wed Nov 11 2026. No macro, syntax, notation, axiom, sorry.
-/
import Derived.Test.YtjmhjhmlcjkjeaaDoorRows
import GoSem.ClaimSeven
namespace Go.Proofs.YtjmhjhmlcjkjeaaDoor
namespace Rows

/-- THE TIED CARD OF 'dailieslaw18.TimecodeBack'. -/
def timecodeBackCard : Claim7 := { stood := { row := timecodeBackRow, standIns := [], harness := (true, "6c896fbda61ced21a95e259483043d9333b2030e9b428651e9d81825994c16fb"), looks := true }, kinds := [], alts := [], laidByText := true, laidKinds := [.data], laidTests := true, laidLooks := .later }
def TimecodeBackCardSaid : Prop := Claim7.holds Tryd.pinned (.plain (OpenSpec.ofChange timecodeBackSpec)) timecodeBackCard

/-- THE TIED CARD OF 'dailieslaw18.TimecodeConverts'. -/
def timecodeConvertsCard : Claim7 := { stood := { row := timecodeConvertsRow, standIns := [], harness := (true, "6c896fbda61ced21a95e259483043d9333b2030e9b428651e9d81825994c16fb"), looks := true }, kinds := [], alts := [], laidByText := true, laidKinds := [.data], laidTests := true, laidLooks := .later }
def TimecodeConvertsCardSaid : Prop := Claim7.holds Tryd.pinned (.plain (OpenSpec.ofChange timecodeConvertsSpec)) timecodeConvertsCard

/-- THE TIED CARD OF 'dailieslaw18.TimecodeNumbers'. -/
def timecodeNumbersCard : Claim7 := { stood := { row := timecodeNumbersRow, standIns := [], harness := (true, "6c896fbda61ced21a95e259483043d9333b2030e9b428651e9d81825994c16fb"), looks := true }, kinds := [], alts := [], laidByText := true, laidKinds := [.data], laidTests := true, laidLooks := .later }
def TimecodeNumbersCardSaid : Prop := Claim7.holds Tryd.pinned (.plain (OpenSpec.ofChange timecodeNumbersSpec)) timecodeNumbersCard

/-- THE TIED CARD OF 'dailieslaw18.TimecodeClock'. -/
def timecodeClockCard : Claim7 := { stood := { row := timecodeClockRow, standIns := [], harness := (true, "6c896fbda61ced21a95e259483043d9333b2030e9b428651e9d81825994c16fb"), looks := true }, kinds := [], alts := [], laidByText := true, laidKinds := [.data], laidTests := true, laidLooks := .later }
def TimecodeClockCardSaid : Prop := Claim7.holds Tryd.pinned (.plain (OpenSpec.ofChange timecodeClockSpec)) timecodeClockCard

/-- THE TIED CARD OF 'dailieslaw18.TimecodeAlong'. -/
def timecodeAlongCard : Claim7 := { stood := { row := timecodeAlongRow, standIns := [], harness := (true, "6c896fbda61ced21a95e259483043d9333b2030e9b428651e9d81825994c16fb"), looks := true }, kinds := [], alts := [], laidByText := true, laidKinds := [.data], laidTests := true, laidLooks := .later }
def TimecodeAlongCardSaid : Prop := Claim7.holds Tryd.pinned (.plain (OpenSpec.ofChange timecodeAlongSpec)) timecodeAlongCard

/-- THE TIED CARD OF 'dailieslaw18.TimecodeReads'. -/
def timecodeReadsCard : Claim7 := { stood := { row := timecodeReadsRow, standIns := [], harness := (true, "6c896fbda61ced21a95e259483043d9333b2030e9b428651e9d81825994c16fb"), looks := true }, kinds := [], alts := [], laidByText := true, laidKinds := [.handle, .data], laidTests := true, laidLooks := .later }
def TimecodeReadsCardSaid : Prop := Claim7.holds Tryd.pinned (.plain (OpenSpec.ofChange timecodeReadsSpec)) timecodeReadsCard

/-- THE SECOND FORM's CARD OF 'dailieslaw18.TimecodeBack'. -/
def timecodeBackUptoCard : Claim7 := { stood := { row := timecodeBackUptoRow, standIns := [], harness := (true, "6c896fbda61ced21a95e259483043d9333b2030e9b428651e9d81825994c16fb"), looks := true }, kinds := [], alts := [], laidByText := true, laidKinds := [.data], laidTests := true, laidLooks := .later }
def TimecodeBackUptoCardSaid : Prop := Claim7.holds Tryd.pinned (.plain (OpenSpec.upto timecodeBackSpec)) timecodeBackUptoCard

/-- THE SECOND FORM's CARD OF 'dailieslaw18.TimecodeConverts'. -/
def timecodeConvertsUptoCard : Claim7 := { stood := { row := timecodeConvertsUptoRow, standIns := [], harness := (true, "6c896fbda61ced21a95e259483043d9333b2030e9b428651e9d81825994c16fb"), looks := true }, kinds := [], alts := [], laidByText := true, laidKinds := [.data], laidTests := true, laidLooks := .later }
def TimecodeConvertsUptoCardSaid : Prop := Claim7.holds Tryd.pinned (.plain (OpenSpec.upto timecodeConvertsSpec)) timecodeConvertsUptoCard

/-- THE SECOND FORM's CARD OF 'dailieslaw18.TimecodeNumbers'. -/
def timecodeNumbersUptoCard : Claim7 := { stood := { row := timecodeNumbersUptoRow, standIns := [], harness := (true, "6c896fbda61ced21a95e259483043d9333b2030e9b428651e9d81825994c16fb"), looks := true }, kinds := [], alts := [], laidByText := true, laidKinds := [.data], laidTests := true, laidLooks := .later }
def TimecodeNumbersUptoCardSaid : Prop := Claim7.holds Tryd.pinned (.plain (OpenSpec.upto timecodeNumbersSpec)) timecodeNumbersUptoCard

/-- THE SECOND FORM's CARD OF 'dailieslaw18.TimecodeClock'. -/
def timecodeClockUptoCard : Claim7 := { stood := { row := timecodeClockUptoRow, standIns := [], harness := (true, "6c896fbda61ced21a95e259483043d9333b2030e9b428651e9d81825994c16fb"), looks := true }, kinds := [], alts := [], laidByText := true, laidKinds := [.data], laidTests := true, laidLooks := .later }
def TimecodeClockUptoCardSaid : Prop := Claim7.holds Tryd.pinned (.plain (OpenSpec.upto timecodeClockSpec)) timecodeClockUptoCard

/-- THE SECOND FORM's CARD OF 'dailieslaw18.TimecodeAlong'. -/
def timecodeAlongUptoCard : Claim7 := { stood := { row := timecodeAlongUptoRow, standIns := [], harness := (true, "6c896fbda61ced21a95e259483043d9333b2030e9b428651e9d81825994c16fb"), looks := true }, kinds := [], alts := [], laidByText := true, laidKinds := [.data], laidTests := true, laidLooks := .later }
def TimecodeAlongUptoCardSaid : Prop := Claim7.holds Tryd.pinned (.plain (OpenSpec.upto timecodeAlongSpec)) timecodeAlongUptoCard

/-- THE SECOND FORM's CARD OF 'dailieslaw18.TimecodeReads'. -/
def timecodeReadsUptoCard : Claim7 := { stood := { row := timecodeReadsUptoRow, standIns := [], harness := (true, "6c896fbda61ced21a95e259483043d9333b2030e9b428651e9d81825994c16fb"), looks := true }, kinds := [], alts := [], laidByText := true, laidKinds := [.handle, .data], laidTests := true, laidLooks := .later }
def TimecodeReadsUptoCardSaid : Prop := Claim7.holds Tryd.pinned (.plain (OpenSpec.upto timecodeReadsSpec)) timecodeReadsUptoCard
end Rows
end Go.Proofs.YtjmhjhmlcjkjeaaDoor
