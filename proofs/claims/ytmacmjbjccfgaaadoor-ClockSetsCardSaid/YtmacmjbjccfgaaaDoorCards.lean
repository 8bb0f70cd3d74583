/-
  DERIVED. GIVEN WITH THE SEED: THE CARDS: each row of YtmacmjbjccfgaaaDoorRows.lean that lists a variable, with what it lists TIED to the program's text (the seventh form; the later family's looks); each row that meets fmt, with fmt's text TOLD by the authors' own Lean function (tested against real Go, not proved from fmt's source: count such statements apart). THE CARD IS WHAT COUNTS. Prove the row's statement (the work); the ties are given (YtmacmjbjccfgaaaDoorTie.lean); close each card by the builder's one call (the guide's Derived/Test/ToyasCard.lean, 'card_holds'). Laid BY PROGRAM, IN A SANDBOX (cutbox-door.mjs). By AI agents, Wed Nov 11 2026. No macro, syntax, notation, axiom, sorry.
-/
import Derived.Test.YtmacmjbjccfgaaaDoorRows
import GoSem.ClaimSeven
namespace Go.Proofs.YtmacmjbjccfgaaaDoor
namespace Rows

/-- THE TIED CARD OF 'vesperslaw03.ClockSets'. -/
def clockSetsCard : Claim7 := { stood := { row := clockSetsRow, standIns := [], harness := (true, "7b4c31f10e99bb23bde45cbf2053ec19a54322df0ccbe4a46201c36b4fd99ee1"), looks := false }, kinds := [], alts := [], laidByText := true, laidKinds := [.listed, .data], laidTests := true, laidLooks := .later }
def ClockSetsCardSaid : Prop := Claim7.holds Tryd.pinned (.plain (OpenSpec.ofChange clockSetsSpec)) clockSetsCard

/-- THE TIED CARD OF 'vesperslaw03.ClockWeekdays'. -/
def clockWeekdaysCard : Claim7 := { stood := { row := clockWeekdaysRow, standIns := [], harness := (true, "7b4c31f10e99bb23bde45cbf2053ec19a54322df0ccbe4a46201c36b4fd99ee1"), looks := false }, kinds := [], alts := [], laidByText := true, laidKinds := [.data, .listed, .data, .pinned], laidTests := true, laidLooks := .later }
def ClockWeekdaysCardSaid : Prop := Claim7.holds Tryd.pinned (.plain (OpenSpec.ofChange clockWeekdaysSpec)) clockWeekdaysCard

/-- THE SECOND FORM's CARD OF 'vesperslaw03.ClockSets'. -/
def clockSetsUptoCard : Claim7 := { stood := { row := clockSetsUptoRow, standIns := [], harness := (true, "7b4c31f10e99bb23bde45cbf2053ec19a54322df0ccbe4a46201c36b4fd99ee1"), looks := false }, kinds := [], alts := [], laidByText := true, laidKinds := [.listed, .data], laidTests := true, laidLooks := .later }
def ClockSetsUptoCardSaid : Prop := Claim7.holds Tryd.pinned (.plain (OpenSpec.upto clockSetsSpec)) clockSetsUptoCard

/-- THE SECOND FORM's CARD OF 'vesperslaw03.ClockWeekdays'. -/
def clockWeekdaysUptoCard : Claim7 := { stood := { row := clockWeekdaysUptoRow, standIns := [], harness := (true, "7b4c31f10e99bb23bde45cbf2053ec19a54322df0ccbe4a46201c36b4fd99ee1"), looks := false }, kinds := [], alts := [], laidByText := true, laidKinds := [.data, .listed, .data, .pinned], laidTests := true, laidLooks := .later }
def ClockWeekdaysUptoCardSaid : Prop := Claim7.holds Tryd.pinned (.plain (OpenSpec.upto clockWeekdaysSpec)) clockWeekdaysUptoCard
end Rows
end Go.Proofs.YtmacmjbjccfgaaaDoor
