/- Boxes of a zone, an event and a window beside each other. Plain. -/
import Derived.Test.YtechgcjdigpglaaGreatU14
namespace Go.Proofs.YtechgcjdigpglaaGreat
open Go.RowKit Go.ChangeShapes Go.WideShapes Go.Deep
set_option linter.all false

structure ZE (zb eb sb : Array Value) (w wr : World) : Prop where
  bel : Below w.heap.size w wr
  xz : BxM w.heap.size zb 24 wr
  xe : BxM (w.heap.size + 1) eb 32 wr
  xs : BxM (w.heap.size + 2) sb 34 wr
theorem ZE.below {zb eb sb : Array Value} {w wr w' : World} (h : ZE zb eb sb w wr) (hb : Below wr.heap.size wr w') : ZE zb eb sb w w' :=
  ⟨h.bel.trans (hb.mono h.bel.size), h.xz.below hb, h.xe.below hb, h.xs.below hb⟩
theorem ZE.drew {zb eb sb : Array Value} {w wr : World} (h : ZE zb eb sb w wr) : ZE zb eb sb w wr.drew := h.below (Below.refl _ _).drew
theorem ZE.new (zb eb sb : Array Value) (w : World) : ZE zb eb sb w (((w.alloc (.cells zb 24)).alloc (.cells eb 32)).alloc (.cells sb 34)) := by
  have x1 := BxM.new (w.alloc (.cells zb 24)) eb 32
  rw [show (w.alloc (.cells zb 24)).heap.size = w.heap.size + 1 by simp] at x1
  have x2 := BxM.new ((w.alloc (.cells zb 24)).alloc (.cells eb 32)) sb 34
  rw [show ((w.alloc (.cells zb 24)).alloc (.cells eb 32)).heap.size = w.heap.size + 2 by simp] at x2
  exact ⟨belowA _ (belowA _ (belowA _ (Below.refl _ _))), ((BxM.new w zb _).alloc _).alloc _, x1.alloc _, x2⟩
end Go.Proofs.YtechgcjdigpglaaGreat
