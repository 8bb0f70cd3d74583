/-
  DERIVED. GIVEN WITH THE SEED: THE CARDS: each row of YtkbnjigoejalgaaDoorRows.lean that lists a variable, with what it lists TIED to the program's text (the seventh form; the later family's looks); each row that meets fmt, with fmt's text TOLD by the authors' own Lean function (tested against real Go, not proved from fmt's source: count such statements apart). THE CARD IS WHAT COUNTS. Prove the row's statement (the work); the ties are given (YtkbnjigoejalgaaDoorTie.lean); close each card by the builder's one call (the guide's Derived/Test/ToyasCard.lean, 'card_holds'). Laid BY PROGRAM, IN A SANDBOX (cutbox-door.mjs). By AI agents, Wed Nov 11 2026. No macro, syntax, notation, axiom, sorry.
-/
import Derived.Test.YtkbnjigoejalgaaDoorRows
import GoSem.ClaimSeven
namespace Go.Proofs.YtkbnjigoejalgaaDoor
namespace Rows

/-- THE TIED CARD OF 'vesperslaw03.ClockWeekdays'. -/
def clockWeekdaysCard : Claim7 := { stood := { row := clockWeekdaysRow, standIns := [], harness := (true, "34411da5e3a94cb4dbd128a2af065c212958fa40e7cfb4e7e0999d0483761be4"), looks := false }, kinds := [], alts := [], laidByText := true, laidKinds := [.data, .listed, .data, .pinned], laidTests := true, laidLooks := .later }
def ClockWeekdaysCardSaid : Prop := Claim7.holds Tryd.pinned (.plain (OpenSpec.ofChange clockWeekdaysSpec)) clockWeekdaysCard

/-- THE SECOND FORM's CARD OF 'vesperslaw03.ClockWeekdays'. -/
def clockWeekdaysUptoCard : Claim7 := { stood := { row := clockWeekdaysUptoRow, standIns := [], harness := (true, "34411da5e3a94cb4dbd128a2af065c212958fa40e7cfb4e7e0999d0483761be4"), looks := false }, kinds := [], alts := [], laidByText := true, laidKinds := [.data, .listed, .data, .pinned], laidTests := true, laidLooks := .later }
def ClockWeekdaysUptoCardSaid : Prop := Claim7.holds Tryd.pinned (.plain (OpenSpec.upto clockWeekdaysSpec)) clockWeekdaysUptoCard
end Rows
end Go.Proofs.YtkbnjigoejalgaaDoor
