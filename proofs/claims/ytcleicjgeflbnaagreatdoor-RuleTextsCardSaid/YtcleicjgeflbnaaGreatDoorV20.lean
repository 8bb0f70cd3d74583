/- A world for the witness: its listed variables hold what the program's text lays. No condition. -/
import Derived.Test.YtcleicjgeflbnaaGreatDoorV18
namespace Go.Proofs.YtcleicjgeflbnaaGreatDoor
open Go.ChangeShapes Go.WideShapes Go.ChangeAt Go.RowKit
set_option linter.all false
theorem laid_met (os : Os) : laidMet Tryz.prog LL ((laidWorld os).forCall (fun _ _ => 0) ⟨#[], #[zeroR], []⟩).memory :=
  laidMet_of_run3 10 (by kernel_rfl) (by kernel_rfl) (by kernel_rfl)
end Go.Proofs.YtcleicjgeflbnaaGreatDoor
