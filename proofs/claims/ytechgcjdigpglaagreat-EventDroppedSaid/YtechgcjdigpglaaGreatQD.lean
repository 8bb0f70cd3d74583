/- event.Members: what it hands back. Plain words. -/
import Derived.Test.YtechgcjdigpglaaGreatQ5
import Derived.Test.YtechgcjdigpglaaGreatQ12
namespace Go.Proofs.YtechgcjdigpglaaGreat
open Go.RowKit Go.ChangeShapes Go.WideShapes Go.Deep
set_option linter.all false

/-- May a window be asked of an event in a zone. -/
def askOk (z : ZoneD) (e : EventD) (f t : Int) : Prop := mayE e ∧ mayZ z ∧ f < t ∧ -1099511627776 ≤ f ∧ t ≤ 1099511627776 ∧ t - f ≤ 528480
/-- Which spans are the members that meet a window, in any order. -/
structure MemIs (z : ZoneD) (e : EventD) (f t : Int) (L : List (Int × Int)) : Prop where
  none : ¬ askOk z e f t → L = []
  world : askOk z e f t → e.world = true → L = if e.start < t ∧ f < e.start + e.long then [(e.start, e.start + e.long)] else []
  own : askOk z e f t → e.world = false → ∃ l : List Int, l.Pairwise (· < ·) ∧ (∀ x, x ∈ l ↔ plnP e (f - e.long - 1800) (t + 1800) x) ∧
    L.Perm (l.flatMap (fun x => memF z x e.long f t) ++ (e.changes.filter fun c => dec (atE e c.at_)).flatMap fun c => memF z c.start c.long f t)
/-- What event.Members hands back. -/
def MemEnd (z : ZoneD) (e : EventD) (f t : Int) (w : World) (q : Ending) (w' : World) : Prop :=
  ∃ v L, q = .returned v ∧ w'.ownsRow w.heap.size 34 2 v L.length (spC L) ∧ L.Pairwise spLe ∧ MemIs z e f t L ∧ Below w.heap.size w w'

end Go.Proofs.YtechgcjdigpglaaGreat
