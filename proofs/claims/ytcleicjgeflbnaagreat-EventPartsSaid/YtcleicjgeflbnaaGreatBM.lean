/- Boxes that are written. Plain laws of the model. -/
import Derived.Test.YtcleicjgeflbnaaGreatE0
namespace Go.Proofs.YtcleicjgeflbnaaGreat
open Go.RowKit Go.ChangeShapes Go.WideShapes Go.Deep
set_option linter.all false

/-- A box that is written. -/
structure BxM (b : Nat) (vals : Array Value) (t : TypeId) (W : World) : Prop where
  heap : W.heap[b]? = some (.cells vals t (0, 0))
section
variable {b : Nat} {vals : Array Value} {t : TypeId} {W : World}
theorem BxM.cell (h : BxM b vals t W) (j : Nat) : W.cell? ⟨b, j, none⟩ = vals[j]? := by
  simp [World.cell?, h.heap]
theorem BxM.frz (h : BxM b vals t W) (j : Nat) : W.frozen? ⟨b, j, none⟩ = false := by
  simp [World.frozen?, h.heap]
theorem BxM.lt (h : BxM b vals t W) : b < W.heap.size := (Array.getElem?_eq_some_iff.1 h.heap).1
theorem BxM.below {W' : World} (h : BxM b vals t W) (hb : Below W.heap.size W W') : BxM b vals t W' := ⟨(hb.block _ h.lt).trans h.heap⟩
theorem BxM.drew (h : BxM b vals t W) : BxM b vals t W.drew := ⟨h.heap⟩
theorem BxM.new (W : World) (vals : Array Value) (t : TypeId) : BxM W.heap.size vals t (W.alloc (.cells vals t)) := ⟨heap_alloc_new W _⟩
theorem BxM.alloc (h : BxM b vals t W) (o : Obj) : BxM b vals t (W.alloc o) := h.below ((Below.refl _ _).alloc (Nat.le_refl _) _)
theorem BxM.set (h : BxM b vals t W) (j : Nat) (v : Value) : BxM b (vals.setIfInBounds j v) t (W.setCell ⟨b, j, none⟩ v) := ⟨heap_setCell_same W b j vals t v h.heap⟩
theorem BxM.other (h : BxM b vals t W) {a : Addr} (ha : b ≠ a.block) (v : Value) : BxM b vals t (W.setCell a v) := ⟨(heap_setCell_other W a b v ha).trans h.heap⟩
theorem BxM.at (h : BxM b vals t W) : BxAt b vals W := ⟨h.cell, h.lt⟩
end
end Go.Proofs.YtcleicjgeflbnaaGreat
