/-
  No cell of these rows narrows 'for every input' (looked for: loops, veiled, ifaces, maps, wideKeys, modest, calm, conditions, laid).
  DERIVED. THE GIVEN ROWS OF THIS SEAT. 5 by the template 'for every input the law returns true; each argument reads behind the call as it read before'; 0 by the template 'total and deterministic' (their statements: YtmacmjbjccfgaaaTotals.lean).
  GIVEN WITH THE SEED: the statements are not yours to turn. If you find one false, say at which input.
  Laid BY PROGRAM, IN A SANDBOX (cutbox-rows.mjs): the forced cells as the released guide's own fill.sh prints them over the translation db8e21aa37db67ef… (all of the seat's roots in one cut). By AI agents, Wed Nov 11 2026. No macro, syntax, notation, axiom, sorry.
-/
import Derived.Test.YtmacmjbjccfgaaaChecked
import GoSem.Claim
import GoSem.ClaimJoined
import GoSem.ClaimMapViews
import Derived.JoinedTies
import Derived.KernelRfl
namespace Go.Proofs.Ytmacmjbjccfgaaa
/- THE CELL 'sum', in the pinned program and in every row, IS THE sha256 OF THE DUMP (.gsa) THAT YtmacmjbjccfgaaaProg.lean LOADS. Nothing in Lean hashes anything: it is a label: what it is worth is what the hold of that sum in a sandbox is worth. -/
noncomputable def Try.pinned : Pinned := { name := "ytmacmjbjccfgaaa", sum := "db8e21aa37db67efe1ae426b4ffd5534fa5372a8909b2b467361e34350740d83", checked := Try.checked }
namespace Rows
def none {H : Type} : Left H := { results := [], args := [] }

/-- 'vesperslaw03.ClockOrder': WHATEVER THE INPUT: true; the input reads as it did. -/
def clockOrderSpec : ChangeSpec := { name := "clockOrder", fn := fun _ => fun
  | [d1, d2, d3, d4] => { results := [.lit (.bool true)], args := [d1, d2, d3, d4] }
  | _ => none }
def clockOrderRow : OpenClaim := { program := "ytmacmjbjccfgaaa", sum := "db8e21aa37db67efe1ae426b4ffd5534fa5372a8909b2b467361e34350740d83", func := "vespers/vesperslaw03.ClockOrder", spec := "clockOrder", apart := false }
def ClockOrderSaid : Prop := clockOrderRow.holds Try.pinned (OpenSpec.ofChange clockOrderSpec)

/-- ITS FALSE NEIGHBOUR: 'it returns false'. Refute it at one input. -/
def clockOrderWrong : ChangeSpec := { name := "clockOrder", fn := fun _ => fun
  | [d1, d2, d3, d4] => { results := [.lit (.bool false)], args := [d1, d2, d3, d4] }
  | _ => none }
def ClockOrderWrongFalsely : Prop := clockOrderRow.holds Try.pinned (OpenSpec.ofChange clockOrderWrong)

/-- 'vesperslaw03.ClockMinutes': WHATEVER THE INPUT: true; the input reads as it did. -/
def clockMinutesSpec : ChangeSpec := { name := "clockMinutes", fn := fun _ => fun
  | [d1, d2] => { results := [.lit (.bool true)], args := [d1, d2] }
  | _ => none }
def clockMinutesRow : OpenClaim := { program := "ytmacmjbjccfgaaa", sum := "db8e21aa37db67efe1ae426b4ffd5534fa5372a8909b2b467361e34350740d83", func := "vespers/vesperslaw03.ClockMinutes", spec := "clockMinutes", apart := false }
def ClockMinutesSaid : Prop := clockMinutesRow.holds Try.pinned (OpenSpec.ofChange clockMinutesSpec)

/-- ITS FALSE NEIGHBOUR: 'it returns false'. Refute it at one input. -/
def clockMinutesWrong : ChangeSpec := { name := "clockMinutes", fn := fun _ => fun
  | [d1, d2] => { results := [.lit (.bool false)], args := [d1, d2] }
  | _ => none }
def ClockMinutesWrongFalsely : Prop := clockMinutesRow.holds Try.pinned (OpenSpec.ofChange clockMinutesWrong)

/-- 'vesperslaw03.ClockLabels': WHATEVER THE INPUT: true; the input reads as it did. -/
def clockLabelsSpec : ChangeSpec := { name := "clockLabels", fn := fun _ => fun
  | [d] => { results := [.lit (.bool true)], args := [d] }
  | _ => none }
def clockLabelsRow : OpenClaim := { program := "ytmacmjbjccfgaaa", sum := "db8e21aa37db67efe1ae426b4ffd5534fa5372a8909b2b467361e34350740d83", func := "vespers/vesperslaw03.ClockLabels", spec := "clockLabels", apart := false }
def ClockLabelsSaid : Prop := clockLabelsRow.holds Try.pinned (OpenSpec.ofChange clockLabelsSpec)

/-- ITS FALSE NEIGHBOUR: 'it returns false'. Refute it at one input. -/
def clockLabelsWrong : ChangeSpec := { name := "clockLabels", fn := fun _ => fun
  | [d] => { results := [.lit (.bool false)], args := [d] }
  | _ => none }
def ClockLabelsWrongFalsely : Prop := clockLabelsRow.holds Try.pinned (OpenSpec.ofChange clockLabelsWrong)

/-- 'vesperslaw03.ClockJoins': WHATEVER THE INPUT: true; the input reads as it did. -/
def clockJoinsSpec : ChangeSpec := { name := "clockJoins", fn := fun _ => fun
  | [d1, d2] => { results := [.lit (.bool true)], args := [d1, d2] }
  | _ => none }
def clockJoinsRow : OpenClaim := { program := "ytmacmjbjccfgaaa", sum := "db8e21aa37db67efe1ae426b4ffd5534fa5372a8909b2b467361e34350740d83", func := "vespers/vesperslaw03.ClockJoins", spec := "clockJoins", apart := false }
def ClockJoinsSaid : Prop := clockJoinsRow.holds Try.pinned (OpenSpec.ofChange clockJoinsSpec)

/-- ITS FALSE NEIGHBOUR: 'it returns false'. Refute it at one input. -/
def clockJoinsWrong : ChangeSpec := { name := "clockJoins", fn := fun _ => fun
  | [d1, d2] => { results := [.lit (.bool false)], args := [d1, d2] }
  | _ => none }
def ClockJoinsWrongFalsely : Prop := clockJoinsRow.holds Try.pinned (OpenSpec.ofChange clockJoinsWrong)

/-- 'vesperslaw03.ClockStamps': WHATEVER THE INPUT: true; the input reads as it did. -/
def clockStampsSpec : ChangeSpec := { name := "clockStamps", fn := fun _ => fun
  | [d1, d2] => { results := [.lit (.bool true)], args := [d1, d2] }
  | _ => none }
def clockStampsRow : OpenClaim := { program := "ytmacmjbjccfgaaa", sum := "db8e21aa37db67efe1ae426b4ffd5534fa5372a8909b2b467361e34350740d83", func := "vespers/vesperslaw03.ClockStamps", spec := "clockStamps", apart := false }
def ClockStampsSaid : Prop := clockStampsRow.holds Try.pinned (OpenSpec.ofChange clockStampsSpec)

/-- ITS FALSE NEIGHBOUR: 'it returns false'. Refute it at one input. -/
def clockStampsWrong : ChangeSpec := { name := "clockStamps", fn := fun _ => fun
  | [d1, d2] => { results := [.lit (.bool false)], args := [d1, d2] }
  | _ => none }
def ClockStampsWrongFalsely : Prop := clockStampsRow.holds Try.pinned (OpenSpec.ofChange clockStampsWrong)

/- THE SECOND FORM. 'bulk': how many values and letters a reading holds, each counted each time it is reached (what is shared counts as often as it is met; a slice's spare places count too). A statement '..UptoSaid' is the law's where the arguments, and the package variables that the reading takes, are together of bulk at most 1048576: NARROWER than '..Said'. Prove '..Said' where nothing that the law and all that it calls make is longer than what came in: it says more and counts as full. Else prove '..UptoSaid'. A law counts once. -/
mutual
def uptoBulk {H : Type} : DataW H → Nat
  | .lit (.string bytes) => bytes.length + 1
  | .lit _ => 1
  | .nil => 1
  | .ptr d => uptoBulk d + 1
  | .slice elems spare => uptoBulkAll elems + uptoBulkAll spare + 1
  | .agg parts => uptoBulkAll parts + 1
  | .iface _ d => uptoBulk d + 1
  | .map entries => uptoBulkEntries entries + 1
  | .held _ => 1
def uptoBulkAll {H : Type} : List (DataW H) → Nat
  | [] => 0
  | d :: r => uptoBulk d + uptoBulkAll r
def uptoBulkEntries {H : Type} : List (Lit × DataW H) → Nat
  | [] => 0
  | x :: r => uptoBulkEntry x + uptoBulkEntries r
def uptoBulkEntry {H : Type} : Lit × DataW H → Nat
  | (.string bytes, d) => bytes.length + uptoBulk d + 1
  | (_, d) => uptoBulk d + 1
 end
def uptoSmall : (H : Type) → List (DataW H) → Bool := fun _ ds => decide (uptoBulkAll ds ≤ 1048576)
def OpenSpec.upto (s : _root_.Go.ChangeSpec) : _root_.Go.OpenSpec := { _root_.Go.OpenSpec.ofChange s with cond := some uptoSmall }

/-- 'vesperslaw03.ClockOrder', WHERE WHAT IT READS IS OF BULK AT MOST 1048576: true; the input reads as it did. -/
def clockOrderUptoRow : OpenClaim := { program := "ytmacmjbjccfgaaa", sum := "db8e21aa37db67efe1ae426b4ffd5534fa5372a8909b2b467361e34350740d83", func := "vespers/vesperslaw03.ClockOrder", spec := "clockOrder", apart := false, narrowed := true }
def ClockOrderUptoSaid : Prop := clockOrderUptoRow.holds Try.pinned (OpenSpec.upto clockOrderSpec)

/-- 'vesperslaw03.ClockMinutes', WHERE WHAT IT READS IS OF BULK AT MOST 1048576: true; the input reads as it did. -/
def clockMinutesUptoRow : OpenClaim := { program := "ytmacmjbjccfgaaa", sum := "db8e21aa37db67efe1ae426b4ffd5534fa5372a8909b2b467361e34350740d83", func := "vespers/vesperslaw03.ClockMinutes", spec := "clockMinutes", apart := false, narrowed := true }
def ClockMinutesUptoSaid : Prop := clockMinutesUptoRow.holds Try.pinned (OpenSpec.upto clockMinutesSpec)

/-- 'vesperslaw03.ClockLabels', WHERE WHAT IT READS IS OF BULK AT MOST 1048576: true; the input reads as it did. -/
def clockLabelsUptoRow : OpenClaim := { program := "ytmacmjbjccfgaaa", sum := "db8e21aa37db67efe1ae426b4ffd5534fa5372a8909b2b467361e34350740d83", func := "vespers/vesperslaw03.ClockLabels", spec := "clockLabels", apart := false, narrowed := true }
def ClockLabelsUptoSaid : Prop := clockLabelsUptoRow.holds Try.pinned (OpenSpec.upto clockLabelsSpec)

/-- 'vesperslaw03.ClockJoins', WHERE WHAT IT READS IS OF BULK AT MOST 1048576: true; the input reads as it did. -/
def clockJoinsUptoRow : OpenClaim := { program := "ytmacmjbjccfgaaa", sum := "db8e21aa37db67efe1ae426b4ffd5534fa5372a8909b2b467361e34350740d83", func := "vespers/vesperslaw03.ClockJoins", spec := "clockJoins", apart := false, narrowed := true }
def ClockJoinsUptoSaid : Prop := clockJoinsUptoRow.holds Try.pinned (OpenSpec.upto clockJoinsSpec)

/-- 'vesperslaw03.ClockStamps', WHERE WHAT IT READS IS OF BULK AT MOST 1048576: true; the input reads as it did. -/
def clockStampsUptoRow : OpenClaim := { program := "ytmacmjbjccfgaaa", sum := "db8e21aa37db67efe1ae426b4ffd5534fa5372a8909b2b467361e34350740d83", func := "vespers/vesperslaw03.ClockStamps", spec := "clockStamps", apart := false, narrowed := true }
def ClockStampsUptoSaid : Prop := clockStampsUptoRow.holds Try.pinned (OpenSpec.upto clockStampsSpec)

end Rows
end Go.Proofs.Ytmacmjbjccfgaaa
