/- What the texts of this seat share: worlds that keep what lay; boxes. No condition. -/
import Derived.Test.YtcleicjgeflbnaaGreatR10
namespace Go.Proofs.YtcleicjgeflbnaaGreat
open Go.RowKit Go.ChangeShapes Go.WideShapes Go.Deep
set_option linter.all false

theorem belowS {w0 W : World} (a : Addr) (v : Value) (h : Below w0.heap.size w0 W) (ha : w0.heap.size ≤ a.block) : Below w0.heap.size w0 (W.setCell a v) := h.setCell ha v
theorem belowA {w0 W : World} (o : Obj) (h : Below w0.heap.size w0 W) : Below w0.heap.size w0 (W.alloc o) := h.alloc h.size o
theorem ret_s {a b : ByteArray} (h : a = b) : Ending.returned (.string a) = Ending.returned (.string b) := by rw [h]
theorem ret_i {a b : Int} (h : a = b) : Ending.returned (.int .i64 a) = Ending.returned (.int .i64 b) := by rw [h]
theorem ret_b {a b : Bool} (h : a = b) : Ending.returned (.bool a) = Ending.returned (.bool b) := by rw [h]
/-- A box of the caller's lies as it was laid. -/
structure BxAt (b : Nat) (bx : Array Value) (W : World) : Prop where
  cell : ∀ j, W.cell? ⟨b, j, none⟩ = bx[j]?
  lt : b < W.heap.size
theorem BxAt.below {b : Nat} {bx : Array Value} {W W' : World} (h : BxAt b bx W) (hb : Below W.heap.size W W') : BxAt b bx W' :=
  ⟨fun j => (hb.cell (p := ⟨b, j, none⟩) h.lt).trans (h.cell j), Nat.lt_of_lt_of_le h.lt hb.size⟩
theorem BxAt.drew {b : Nat} {bx : Array Value} {W : World} (h : BxAt b bx W) : BxAt b bx W.drew := ⟨h.cell, h.lt⟩
theorem BxAt.new (W : World) (bx : Array Value) (t : TypeId) : BxAt W.heap.size bx (W.alloc (.cells bx t)) :=
  ⟨fun j => cell_of_row _ _ _ _ _ _ (heap_alloc_new W (.cells bx t)), by simp⟩
end Go.Proofs.YtcleicjgeflbnaaGreat
