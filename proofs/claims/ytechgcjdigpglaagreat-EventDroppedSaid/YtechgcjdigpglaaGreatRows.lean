/-
  No cell of these rows narrows 'for every input' (looked for: loops, veiled, ifaces, maps, wideKeys, modest, calm, conditions, laid).
  DERIVED. THE GIVEN ROWS OF THIS SEAT. 8 by the template 'for every input the law returns true; each argument reads behind the call as it read before'; 0 by the template 'total and deterministic' (their statements: YtechgcjdigpglaaGreatTotals.lean).
  GIVEN WITH THE SEED: the statements are not yours to turn. If you find one false, say at which input.
  Laid BY PROGRAM, IN A SANDBOX (cutbox-rows.mjs): the forced cells as the released guide's own fill.sh prints them over the translation b59c283afe3d154a… (all of the seat's roots in one cut). By AI agents, Wed Nov 11 2026. No macro, syntax, notation, axiom, sorry.
-/
import Derived.Test.YtechgcjdigpglaaGreatChecked
import GoSem.Claim
import GoSem.ClaimJoined
import GoSem.ClaimMapViews
import Derived.JoinedTies
import Derived.KernelRfl
namespace Go.Proofs.YtechgcjdigpglaaGreat
/- THE CELL 'sum', in the pinned program and in every row, IS THE sha256 OF THE DUMP (.gsa) THAT YtechgcjdigpglaaGreatProg.lean LOADS. Nothing in Lean hashes anything: it is a label: what it is worth is what the hold of that sum in a sandbox is worth. -/
noncomputable def Tryz.pinned : Pinned := { name := "ytechgcjdigpglaagreat", sum := "b59c283afe3d154a30cb64439c4bd61fd27583d3cfd0eab21b081caa8c615279", checked := Tryz.checked }
namespace Rows
def none {H : Type} : Left H := { results := [], args := [] }

/-- 'vesperslaw11.EventMembers': WHATEVER THE INPUT: true; the input reads as it did. -/
def eventMembersSpec : ChangeSpec := { name := "eventMembers", fn := fun _ => fun
  | [d1, d2, d3] => { results := [.lit (.bool true)], args := [d1, d2, d3] }
  | _ => none }
def eventMembersRow : OpenClaim := { program := "ytechgcjdigpglaagreat", sum := "b59c283afe3d154a30cb64439c4bd61fd27583d3cfd0eab21b081caa8c615279", func := "vespers/vesperslaw11.EventMembers", spec := "eventMembers", unfollowed := true, recurses := true, apart := false }
def EventMembersSaid : Prop := eventMembersRow.holds Tryz.pinned (OpenSpec.ofChange eventMembersSpec)

/-- ITS FALSE NEIGHBOUR: 'it returns false'. Refute it at one input. -/
def eventMembersWrong : ChangeSpec := { name := "eventMembers", fn := fun _ => fun
  | [d1, d2, d3] => { results := [.lit (.bool false)], args := [d1, d2, d3] }
  | _ => none }
def EventMembersWrongFalsely : Prop := eventMembersRow.holds Tryz.pinned (OpenSpec.ofChange eventMembersWrong)

/-- 'vesperslaw11.EventAt': WHATEVER THE INPUT: true; the input reads as it did. -/
def eventAtSpec : ChangeSpec := { name := "eventAt", fn := fun _ => fun
  | [d1, d2] => { results := [.lit (.bool true)], args := [d1, d2] }
  | _ => none }
def eventAtRow : OpenClaim := { program := "ytechgcjdigpglaagreat", sum := "b59c283afe3d154a30cb64439c4bd61fd27583d3cfd0eab21b081caa8c615279", func := "vespers/vesperslaw11.EventAt", spec := "eventAt", unfollowed := true, recurses := true, apart := false }
def EventAtSaid : Prop := eventAtRow.holds Tryz.pinned (OpenSpec.ofChange eventAtSpec)

/-- ITS FALSE NEIGHBOUR: 'it returns false'. Refute it at one input. -/
def eventAtWrong : ChangeSpec := { name := "eventAt", fn := fun _ => fun
  | [d1, d2] => { results := [.lit (.bool false)], args := [d1, d2] }
  | _ => none }
def EventAtWrongFalsely : Prop := eventAtRow.holds Tryz.pinned (OpenSpec.ofChange eventAtWrong)

/-- 'vesperslaw11.EventDropped': WHATEVER THE INPUT: true; the input reads as it did. -/
def eventDroppedSpec : ChangeSpec := { name := "eventDropped", fn := fun _ => fun
  | [d1, d2, d3, d4] => { results := [.lit (.bool true)], args := [d1, d2, d3, d4] }
  | _ => none }
def eventDroppedRow : OpenClaim := { program := "ytechgcjdigpglaagreat", sum := "b59c283afe3d154a30cb64439c4bd61fd27583d3cfd0eab21b081caa8c615279", func := "vespers/vesperslaw11.EventDropped", spec := "eventDropped", unfollowed := true, recurses := true, apart := false }
def EventDroppedSaid : Prop := eventDroppedRow.holds Tryz.pinned (OpenSpec.ofChange eventDroppedSpec)

/-- ITS FALSE NEIGHBOUR: 'it returns false'. Refute it at one input. -/
def eventDroppedWrong : ChangeSpec := { name := "eventDropped", fn := fun _ => fun
  | [d1, d2, d3, d4] => { results := [.lit (.bool false)], args := [d1, d2, d3, d4] }
  | _ => none }
def EventDroppedWrongFalsely : Prop := eventDroppedRow.holds Tryz.pinned (OpenSpec.ofChange eventDroppedWrong)

/-- 'vesperslaw19.BusyMinutes': WHATEVER THE INPUT: true; the input reads as it did. -/
def busyMinutesSpec : ChangeSpec := { name := "busyMinutes", fn := fun _ => fun
  | [d1, d2] => { results := [.lit (.bool true)], args := [d1, d2] }
  | _ => none }
def busyMinutesRow : OpenClaim := { program := "ytechgcjdigpglaagreat", sum := "b59c283afe3d154a30cb64439c4bd61fd27583d3cfd0eab21b081caa8c615279", func := "vespers/vesperslaw19.BusyMinutes", spec := "busyMinutes", unfollowed := true, recurses := true, apart := false }
def BusyMinutesSaid : Prop := busyMinutesRow.holds Tryz.pinned (OpenSpec.ofChange busyMinutesSpec)

/-- ITS FALSE NEIGHBOUR: 'it returns false'. Refute it at one input. -/
def busyMinutesWrong : ChangeSpec := { name := "busyMinutes", fn := fun _ => fun
  | [d1, d2] => { results := [.lit (.bool false)], args := [d1, d2] }
  | _ => none }
def BusyMinutesWrongFalsely : Prop := busyMinutesRow.holds Tryz.pinned (OpenSpec.ofChange busyMinutesWrong)

/-- 'vesperslaw19.BusyMore': WHATEVER THE INPUT: true; the input reads as it did. -/
def busyMoreSpec : ChangeSpec := { name := "busyMore", fn := fun _ => fun
  | [d1, d2, d3, d4, d5, d6] => { results := [.lit (.bool true)], args := [d1, d2, d3, d4, d5, d6] }
  | _ => none }
def busyMoreRow : OpenClaim := { program := "ytechgcjdigpglaagreat", sum := "b59c283afe3d154a30cb64439c4bd61fd27583d3cfd0eab21b081caa8c615279", func := "vespers/vesperslaw19.BusyMore", spec := "busyMore", unfollowed := true, recurses := true, apart := false }
def BusyMoreSaid : Prop := busyMoreRow.holds Tryz.pinned (OpenSpec.ofChange busyMoreSpec)

/-- ITS FALSE NEIGHBOUR: 'it returns false'. Refute it at one input. -/
def busyMoreWrong : ChangeSpec := { name := "busyMore", fn := fun _ => fun
  | [d1, d2, d3, d4, d5, d6] => { results := [.lit (.bool false)], args := [d1, d2, d3, d4, d5, d6] }
  | _ => none }
def BusyMoreWrongFalsely : Prop := busyMoreRow.holds Tryz.pinned (OpenSpec.ofChange busyMoreWrong)

/-- 'vesperslaw19.BusyParts': WHATEVER THE INPUT: true; the input reads as it did. -/
def busyPartsSpec : ChangeSpec := { name := "busyParts", fn := fun _ => fun
  | [d1, d2, d3] => { results := [.lit (.bool true)], args := [d1, d2, d3] }
  | _ => none }
def busyPartsRow : OpenClaim := { program := "ytechgcjdigpglaagreat", sum := "b59c283afe3d154a30cb64439c4bd61fd27583d3cfd0eab21b081caa8c615279", func := "vespers/vesperslaw19.BusyParts", spec := "busyParts", unfollowed := true, recurses := true, apart := false }
def BusyPartsSaid : Prop := busyPartsRow.holds Tryz.pinned (OpenSpec.ofChange busyPartsSpec)

/-- ITS FALSE NEIGHBOUR: 'it returns false'. Refute it at one input. -/
def busyPartsWrong : ChangeSpec := { name := "busyParts", fn := fun _ => fun
  | [d1, d2, d3] => { results := [.lit (.bool false)], args := [d1, d2, d3] }
  | _ => none }
def BusyPartsWrongFalsely : Prop := busyPartsRow.holds Tryz.pinned (OpenSpec.ofChange busyPartsWrong)

/-- 'vesperslaw19.BusyMay': WHATEVER THE INPUT: true; the input reads as it did. -/
def busyMaySpec : ChangeSpec := { name := "busyMay", fn := fun _ => fun
  | [d1, d2, d3] => { results := [.lit (.bool true)], args := [d1, d2, d3] }
  | _ => none }
def busyMayRow : OpenClaim := { program := "ytechgcjdigpglaagreat", sum := "b59c283afe3d154a30cb64439c4bd61fd27583d3cfd0eab21b081caa8c615279", func := "vespers/vesperslaw19.BusyMay", spec := "busyMay", unfollowed := true, recurses := true, apart := false }
def BusyMaySaid : Prop := busyMayRow.holds Tryz.pinned (OpenSpec.ofChange busyMaySpec)

/-- ITS FALSE NEIGHBOUR: 'it returns false'. Refute it at one input. -/
def busyMayWrong : ChangeSpec := { name := "busyMay", fn := fun _ => fun
  | [d1, d2, d3] => { results := [.lit (.bool false)], args := [d1, d2, d3] }
  | _ => none }
def BusyMayWrongFalsely : Prop := busyMayRow.holds Tryz.pinned (OpenSpec.ofChange busyMayWrong)

/-- 'vesperslaw19.BusyStream': WHATEVER THE INPUT: true; the input reads as it did. -/
def busyStreamSpec : ChangeSpec := { name := "busyStream", fn := fun _ => fun
  | [d1, d2] => { results := [.lit (.bool true)], args := [d1, d2] }
  | _ => none }
def busyStreamRow : OpenClaim := { program := "ytechgcjdigpglaagreat", sum := "b59c283afe3d154a30cb64439c4bd61fd27583d3cfd0eab21b081caa8c615279", func := "vespers/vesperslaw19.BusyStream", spec := "busyStream", unfollowed := true, recurses := true, apart := false }
def BusyStreamSaid : Prop := busyStreamRow.holds Tryz.pinned (OpenSpec.ofChange busyStreamSpec)

/-- ITS FALSE NEIGHBOUR: 'it returns false'. Refute it at one input. -/
def busyStreamWrong : ChangeSpec := { name := "busyStream", fn := fun _ => fun
  | [d1, d2] => { results := [.lit (.bool false)], args := [d1, d2] }
  | _ => none }
def BusyStreamWrongFalsely : Prop := busyStreamRow.holds Tryz.pinned (OpenSpec.ofChange busyStreamWrong)

/- THE SECOND FORM. 'bulk': how many values and letters a reading holds, each counted each time it is reached (what is shared counts as often as it is met; a slice's spare places count too). A statement '..UptoSaid' is the law's where the arguments, and the package variables that the reading takes, are together of bulk at most 1048576: NARROWER than '..Said'. Prove '..Said' where nothing that the law and all that it calls make is longer than what came in: it says more and counts as full. Else prove '..UptoSaid'. A law counts once. -/
mutual
def uptoBulk {H : Type} : DataW H → Nat
  | .lit (.string bytes) => bytes.length + 1
  | .lit _ => 1
  | .nil => 1
  | .ptr d => uptoBulk d + 1
  | .slice elems spare => uptoBulkAll elems + uptoBulkAll spare + 1
  | .agg parts => uptoBulkAll parts + 1
  | .iface _ d => uptoBulk d + 1
  | .map entries => uptoBulkEntries entries + 1
  | .held _ => 1
def uptoBulkAll {H : Type} : List (DataW H) → Nat
  | [] => 0
  | d :: r => uptoBulk d + uptoBulkAll r
def uptoBulkEntries {H : Type} : List (Lit × DataW H) → Nat
  | [] => 0
  | x :: r => uptoBulkEntry x + uptoBulkEntries r
def uptoBulkEntry {H : Type} : Lit × DataW H → Nat
  | (.string bytes, d) => bytes.length + uptoBulk d + 1
  | (_, d) => uptoBulk d + 1
 end
def uptoSmall : (H : Type) → List (DataW H) → Bool := fun _ ds => decide (uptoBulkAll ds ≤ 1048576)
def OpenSpec.upto (s : _root_.Go.ChangeSpec) : _root_.Go.OpenSpec := { _root_.Go.OpenSpec.ofChange s with cond := some uptoSmall }

/-- 'vesperslaw11.EventMembers', WHERE WHAT IT READS IS OF BULK AT MOST 1048576: true; the input reads as it did. -/
def eventMembersUptoRow : OpenClaim := { program := "ytechgcjdigpglaagreat", sum := "b59c283afe3d154a30cb64439c4bd61fd27583d3cfd0eab21b081caa8c615279", func := "vespers/vesperslaw11.EventMembers", spec := "eventMembers", unfollowed := true, recurses := true, apart := false, narrowed := true }
def EventMembersUptoSaid : Prop := eventMembersUptoRow.holds Tryz.pinned (OpenSpec.upto eventMembersSpec)

/-- 'vesperslaw11.EventAt', WHERE WHAT IT READS IS OF BULK AT MOST 1048576: true; the input reads as it did. -/
def eventAtUptoRow : OpenClaim := { program := "ytechgcjdigpglaagreat", sum := "b59c283afe3d154a30cb64439c4bd61fd27583d3cfd0eab21b081caa8c615279", func := "vespers/vesperslaw11.EventAt", spec := "eventAt", unfollowed := true, recurses := true, apart := false, narrowed := true }
def EventAtUptoSaid : Prop := eventAtUptoRow.holds Tryz.pinned (OpenSpec.upto eventAtSpec)

/-- 'vesperslaw11.EventDropped', WHERE WHAT IT READS IS OF BULK AT MOST 1048576: true; the input reads as it did. -/
def eventDroppedUptoRow : OpenClaim := { program := "ytechgcjdigpglaagreat", sum := "b59c283afe3d154a30cb64439c4bd61fd27583d3cfd0eab21b081caa8c615279", func := "vespers/vesperslaw11.EventDropped", spec := "eventDropped", unfollowed := true, recurses := true, apart := false, narrowed := true }
def EventDroppedUptoSaid : Prop := eventDroppedUptoRow.holds Tryz.pinned (OpenSpec.upto eventDroppedSpec)

/-- 'vesperslaw19.BusyMinutes', WHERE WHAT IT READS IS OF BULK AT MOST 1048576: true; the input reads as it did. -/
def busyMinutesUptoRow : OpenClaim := { program := "ytechgcjdigpglaagreat", sum := "b59c283afe3d154a30cb64439c4bd61fd27583d3cfd0eab21b081caa8c615279", func := "vespers/vesperslaw19.BusyMinutes", spec := "busyMinutes", unfollowed := true, recurses := true, apart := false, narrowed := true }
def BusyMinutesUptoSaid : Prop := busyMinutesUptoRow.holds Tryz.pinned (OpenSpec.upto busyMinutesSpec)

/-- 'vesperslaw19.BusyMore', WHERE WHAT IT READS IS OF BULK AT MOST 1048576: true; the input reads as it did. -/
def busyMoreUptoRow : OpenClaim := { program := "ytechgcjdigpglaagreat", sum := "b59c283afe3d154a30cb64439c4bd61fd27583d3cfd0eab21b081caa8c615279", func := "vespers/vesperslaw19.BusyMore", spec := "busyMore", unfollowed := true, recurses := true, apart := false, narrowed := true }
def BusyMoreUptoSaid : Prop := busyMoreUptoRow.holds Tryz.pinned (OpenSpec.upto busyMoreSpec)

/-- 'vesperslaw19.BusyParts', WHERE WHAT IT READS IS OF BULK AT MOST 1048576: true; the input reads as it did. -/
def busyPartsUptoRow : OpenClaim := { program := "ytechgcjdigpglaagreat", sum := "b59c283afe3d154a30cb64439c4bd61fd27583d3cfd0eab21b081caa8c615279", func := "vespers/vesperslaw19.BusyParts", spec := "busyParts", unfollowed := true, recurses := true, apart := false, narrowed := true }
def BusyPartsUptoSaid : Prop := busyPartsUptoRow.holds Tryz.pinned (OpenSpec.upto busyPartsSpec)

/-- 'vesperslaw19.BusyMay', WHERE WHAT IT READS IS OF BULK AT MOST 1048576: true; the input reads as it did. -/
def busyMayUptoRow : OpenClaim := { program := "ytechgcjdigpglaagreat", sum := "b59c283afe3d154a30cb64439c4bd61fd27583d3cfd0eab21b081caa8c615279", func := "vespers/vesperslaw19.BusyMay", spec := "busyMay", unfollowed := true, recurses := true, apart := false, narrowed := true }
def BusyMayUptoSaid : Prop := busyMayUptoRow.holds Tryz.pinned (OpenSpec.upto busyMaySpec)

/-- 'vesperslaw19.BusyStream', WHERE WHAT IT READS IS OF BULK AT MOST 1048576: true; the input reads as it did. -/
def busyStreamUptoRow : OpenClaim := { program := "ytechgcjdigpglaagreat", sum := "b59c283afe3d154a30cb64439c4bd61fd27583d3cfd0eab21b081caa8c615279", func := "vespers/vesperslaw19.BusyStream", spec := "busyStream", unfollowed := true, recurses := true, apart := false, narrowed := true }
def BusyStreamUptoSaid : Prop := busyStreamUptoRow.holds Tryz.pinned (OpenSpec.upto busyStreamSpec)

end Rows
end Go.Proofs.YtechgcjdigpglaaGreat
