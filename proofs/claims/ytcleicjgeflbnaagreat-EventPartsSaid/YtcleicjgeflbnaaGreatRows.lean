/-
  No cell of these rows narrows 'for every input' (looked for: loops, veiled, ifaces, maps, wideKeys, modest, calm, conditions, laid).
  DERIVED. THE GIVEN ROWS OF THIS SEAT. 5 by the template 'for every input the law returns true; each argument reads behind the call as it read before'; 0 by the template 'total and deterministic' (their statements: YtcleicjgeflbnaaGreatTotals.lean).
  GIVEN WITH THE SEED: the statements are not yours to turn. If you find one false, say at which input.
  Laid BY PROGRAM, IN A SANDBOX (cutbox-rows.mjs): the forced cells as the released guide's own fill.sh prints them over the translation 3643048bab49d406… (all of the seat's roots in one cut). By AI agents, Wed Nov 11 2026. No macro, syntax, notation, axiom, sorry.
-/
import Derived.Test.YtcleicjgeflbnaaGreatChecked
import GoSem.Claim
import GoSem.ClaimJoined
import GoSem.ClaimMapViews
import Derived.JoinedTies
import Derived.KernelRfl
namespace Go.Proofs.YtcleicjgeflbnaaGreat
/- THE CELL 'sum', in the pinned program and in every row, IS THE sha256 OF THE DUMP (.gsa) THAT YtcleicjgeflbnaaGreatProg.lean LOADS. Nothing in Lean hashes anything: it is a label: what it is worth is what the hold of that sum in a sandbox is worth. -/
noncomputable def Tryz.pinned : Pinned := { name := "ytcleicjgeflbnaagreat", sum := "3643048bab49d40634fd6c3cc22279d46c9d39970215cc99b03c8690eeba66b6", checked := Tryz.checked }
namespace Rows
def none {H : Type} : Left H := { results := [], args := [] }

/-- 'vesperslaw11.EventMembers': WHATEVER THE INPUT: true; the input reads as it did. -/
def eventMembersSpec : ChangeSpec := { name := "eventMembers", fn := fun _ => fun
  | [d1, d2, d3] => { results := [.lit (.bool true)], args := [d1, d2, d3] }
  | _ => none }
def eventMembersRow : OpenClaim := { program := "ytcleicjgeflbnaagreat", sum := "3643048bab49d40634fd6c3cc22279d46c9d39970215cc99b03c8690eeba66b6", func := "vespers/vesperslaw11.EventMembers", spec := "eventMembers", unfollowed := true, recurses := true, apart := false }
def EventMembersSaid : Prop := eventMembersRow.holds Tryz.pinned (OpenSpec.ofChange eventMembersSpec)

/-- ITS FALSE NEIGHBOUR: 'it returns false'. Refute it at one input. -/
def eventMembersWrong : ChangeSpec := { name := "eventMembers", fn := fun _ => fun
  | [d1, d2, d3] => { results := [.lit (.bool false)], args := [d1, d2, d3] }
  | _ => none }
def EventMembersWrongFalsely : Prop := eventMembersRow.holds Tryz.pinned (OpenSpec.ofChange eventMembersWrong)

/-- 'vesperslaw11.EventAt': WHATEVER THE INPUT: true; the input reads as it did. -/
def eventAtSpec : ChangeSpec := { name := "eventAt", fn := fun _ => fun
  | [d1, d2] => { results := [.lit (.bool true)], args := [d1, d2] }
  | _ => none }
def eventAtRow : OpenClaim := { program := "ytcleicjgeflbnaagreat", sum := "3643048bab49d40634fd6c3cc22279d46c9d39970215cc99b03c8690eeba66b6", func := "vespers/vesperslaw11.EventAt", spec := "eventAt", unfollowed := true, recurses := true, apart := false }
def EventAtSaid : Prop := eventAtRow.holds Tryz.pinned (OpenSpec.ofChange eventAtSpec)

/-- ITS FALSE NEIGHBOUR: 'it returns false'. Refute it at one input. -/
def eventAtWrong : ChangeSpec := { name := "eventAt", fn := fun _ => fun
  | [d1, d2] => { results := [.lit (.bool false)], args := [d1, d2] }
  | _ => none }
def EventAtWrongFalsely : Prop := eventAtRow.holds Tryz.pinned (OpenSpec.ofChange eventAtWrong)

/-- 'vesperslaw11.EventParts': WHATEVER THE INPUT: true; the input reads as it did. -/
def eventPartsSpec : ChangeSpec := { name := "eventParts", fn := fun _ => fun
  | [d1, d2, d3, d4] => { results := [.lit (.bool true)], args := [d1, d2, d3, d4] }
  | _ => none }
def eventPartsRow : OpenClaim := { program := "ytcleicjgeflbnaagreat", sum := "3643048bab49d40634fd6c3cc22279d46c9d39970215cc99b03c8690eeba66b6", func := "vespers/vesperslaw11.EventParts", spec := "eventParts", unfollowed := true, recurses := true, apart := false }
def EventPartsSaid : Prop := eventPartsRow.holds Tryz.pinned (OpenSpec.ofChange eventPartsSpec)

/-- ITS FALSE NEIGHBOUR: 'it returns false'. Refute it at one input. -/
def eventPartsWrong : ChangeSpec := { name := "eventParts", fn := fun _ => fun
  | [d1, d2, d3, d4] => { results := [.lit (.bool false)], args := [d1, d2, d3, d4] }
  | _ => none }
def EventPartsWrongFalsely : Prop := eventPartsRow.holds Tryz.pinned (OpenSpec.ofChange eventPartsWrong)

/-- 'vesperslaw11.EventMoved': WHATEVER THE INPUT: true; the input reads as it did. -/
def eventMovedSpec : ChangeSpec := { name := "eventMoved", fn := fun _ => fun
  | [d1, d2, d3, d4, d5] => { results := [.lit (.bool true)], args := [d1, d2, d3, d4, d5] }
  | _ => none }
def eventMovedRow : OpenClaim := { program := "ytcleicjgeflbnaagreat", sum := "3643048bab49d40634fd6c3cc22279d46c9d39970215cc99b03c8690eeba66b6", func := "vespers/vesperslaw11.EventMoved", spec := "eventMoved", unfollowed := true, recurses := true, apart := false }
def EventMovedSaid : Prop := eventMovedRow.holds Tryz.pinned (OpenSpec.ofChange eventMovedSpec)

/-- ITS FALSE NEIGHBOUR: 'it returns false'. Refute it at one input. -/
def eventMovedWrong : ChangeSpec := { name := "eventMoved", fn := fun _ => fun
  | [d1, d2, d3, d4, d5] => { results := [.lit (.bool false)], args := [d1, d2, d3, d4, d5] }
  | _ => none }
def EventMovedWrongFalsely : Prop := eventMovedRow.holds Tryz.pinned (OpenSpec.ofChange eventMovedWrong)

/-- 'vesperslaw11.EventDropped': WHATEVER THE INPUT: true; the input reads as it did. -/
def eventDroppedSpec : ChangeSpec := { name := "eventDropped", fn := fun _ => fun
  | [d1, d2, d3, d4] => { results := [.lit (.bool true)], args := [d1, d2, d3, d4] }
  | _ => none }
def eventDroppedRow : OpenClaim := { program := "ytcleicjgeflbnaagreat", sum := "3643048bab49d40634fd6c3cc22279d46c9d39970215cc99b03c8690eeba66b6", func := "vespers/vesperslaw11.EventDropped", spec := "eventDropped", unfollowed := true, recurses := true, apart := false }
def EventDroppedSaid : Prop := eventDroppedRow.holds Tryz.pinned (OpenSpec.ofChange eventDroppedSpec)

/-- ITS FALSE NEIGHBOUR: 'it returns false'. Refute it at one input. -/
def eventDroppedWrong : ChangeSpec := { name := "eventDropped", fn := fun _ => fun
  | [d1, d2, d3, d4] => { results := [.lit (.bool false)], args := [d1, d2, d3, d4] }
  | _ => none }
def EventDroppedWrongFalsely : Prop := eventDroppedRow.holds Tryz.pinned (OpenSpec.ofChange eventDroppedWrong)

/- THE SECOND FORM. 'bulk': how many values and letters a reading holds, each counted each time it is reached (what is shared counts as often as it is met; a slice's spare places count too). A statement '..UptoSaid' is the law's where the arguments, and the package variables that the reading takes, are together of bulk at most 1048576: NARROWER than '..Said'. Prove '..Said' where nothing that the law and all that it calls make is longer than what came in: it says more and counts as full. Else prove '..UptoSaid'. A law counts once. -/
mutual
def uptoBulk {H : Type} : DataW H → Nat
  | .lit (.string bytes) => bytes.length + 1
  | .lit _ => 1
  | .nil => 1
  | .ptr d => uptoBulk d + 1
  | .slice elems spare => uptoBulkAll elems + uptoBulkAll spare + 1
  | .agg parts => uptoBulkAll parts + 1
  | .iface _ d => uptoBulk d + 1
  | .map entries => uptoBulkEntries entries + 1
  | .held _ => 1
def uptoBulkAll {H : Type} : List (DataW H) → Nat
  | [] => 0
  | d :: r => uptoBulk d + uptoBulkAll r
def uptoBulkEntries {H : Type} : List (Lit × DataW H) → Nat
  | [] => 0
  | x :: r => uptoBulkEntry x + uptoBulkEntries r
def uptoBulkEntry {H : Type} : Lit × DataW H → Nat
  | (.string bytes, d) => bytes.length + uptoBulk d + 1
  | (_, d) => uptoBulk d + 1
 end
def uptoSmall : (H : Type) → List (DataW H) → Bool := fun _ ds => decide (uptoBulkAll ds ≤ 1048576)
def OpenSpec.upto (s : _root_.Go.ChangeSpec) : _root_.Go.OpenSpec := { _root_.Go.OpenSpec.ofChange s with cond := some uptoSmall }

/-- 'vesperslaw11.EventMembers', WHERE WHAT IT READS IS OF BULK AT MOST 1048576: true; the input reads as it did. -/
def eventMembersUptoRow : OpenClaim := { program := "ytcleicjgeflbnaagreat", sum := "3643048bab49d40634fd6c3cc22279d46c9d39970215cc99b03c8690eeba66b6", func := "vespers/vesperslaw11.EventMembers", spec := "eventMembers", unfollowed := true, recurses := true, apart := false, narrowed := true }
def EventMembersUptoSaid : Prop := eventMembersUptoRow.holds Tryz.pinned (OpenSpec.upto eventMembersSpec)

/-- 'vesperslaw11.EventAt', WHERE WHAT IT READS IS OF BULK AT MOST 1048576: true; the input reads as it did. -/
def eventAtUptoRow : OpenClaim := { program := "ytcleicjgeflbnaagreat", sum := "3643048bab49d40634fd6c3cc22279d46c9d39970215cc99b03c8690eeba66b6", func := "vespers/vesperslaw11.EventAt", spec := "eventAt", unfollowed := true, recurses := true, apart := false, narrowed := true }
def EventAtUptoSaid : Prop := eventAtUptoRow.holds Tryz.pinned (OpenSpec.upto eventAtSpec)

/-- 'vesperslaw11.EventParts', WHERE WHAT IT READS IS OF BULK AT MOST 1048576: true; the input reads as it did. -/
def eventPartsUptoRow : OpenClaim := { program := "ytcleicjgeflbnaagreat", sum := "3643048bab49d40634fd6c3cc22279d46c9d39970215cc99b03c8690eeba66b6", func := "vespers/vesperslaw11.EventParts", spec := "eventParts", unfollowed := true, recurses := true, apart := false, narrowed := true }
def EventPartsUptoSaid : Prop := eventPartsUptoRow.holds Tryz.pinned (OpenSpec.upto eventPartsSpec)

/-- 'vesperslaw11.EventMoved', WHERE WHAT IT READS IS OF BULK AT MOST 1048576: true; the input reads as it did. -/
def eventMovedUptoRow : OpenClaim := { program := "ytcleicjgeflbnaagreat", sum := "3643048bab49d40634fd6c3cc22279d46c9d39970215cc99b03c8690eeba66b6", func := "vespers/vesperslaw11.EventMoved", spec := "eventMoved", unfollowed := true, recurses := true, apart := false, narrowed := true }
def EventMovedUptoSaid : Prop := eventMovedUptoRow.holds Tryz.pinned (OpenSpec.upto eventMovedSpec)

/-- 'vesperslaw11.EventDropped', WHERE WHAT IT READS IS OF BULK AT MOST 1048576: true; the input reads as it did. -/
def eventDroppedUptoRow : OpenClaim := { program := "ytcleicjgeflbnaagreat", sum := "3643048bab49d40634fd6c3cc22279d46c9d39970215cc99b03c8690eeba66b6", func := "vespers/vesperslaw11.EventDropped", spec := "eventDropped", unfollowed := true, recurses := true, apart := false, narrowed := true }
def EventDroppedUptoSaid : Prop := eventDroppedUptoRow.holds Tryz.pinned (OpenSpec.upto eventDroppedSpec)

end Rows
end Go.Proofs.YtcleicjgeflbnaaGreat
