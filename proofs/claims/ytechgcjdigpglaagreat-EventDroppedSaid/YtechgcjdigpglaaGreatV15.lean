/- What the texts of this seat share: worlds that keep what lay; boxes. No condition. Boxes that are written. Plain laws of the model. ref.Great. No condition. -/
import Derived.Test.YtechgcjdigpglaaGreatR10
namespace Go.Proofs.YtechgcjdigpglaaGreat
open Go.RowKit Go.ChangeShapes Go.WideShapes Go.Deep
set_option linter.all false

theorem belowS {w0 W : World} (a : Addr) (v : Value) (h : Below w0.heap.size w0 W) (ha : w0.heap.size ≤ a.block) : Below w0.heap.size w0 (W.setCell a v) := h.setCell ha v
theorem belowA {w0 W : World} (o : Obj) (h : Below w0.heap.size w0 W) : Below w0.heap.size w0 (W.alloc o) := h.alloc h.size o
theorem ret_s {a b : ByteArray} (h : a = b) : Ending.returned (.string a) = Ending.returned (.string b) := by rw [h]
theorem ret_i {a b : Int} (h : a = b) : Ending.returned (.int .i64 a) = Ending.returned (.int .i64 b) := by rw [h]
theorem ret_b {a b : Bool} (h : a = b) : Ending.returned (.bool a) = Ending.returned (.bool b) := by rw [h]
/-- A box of the caller's lies as it was laid. -/
structure BxAt (b : Nat) (bx : Array Value) (W : World) : Prop where
  cell : ∀ j, W.cell? ⟨b, j, none⟩ = bx[j]?
  lt : b < W.heap.size
theorem BxAt.below {b : Nat} {bx : Array Value} {W W' : World} (h : BxAt b bx W) (hb : Below W.heap.size W W') : BxAt b bx W' :=
  ⟨fun j => (hb.cell (p := ⟨b, j, none⟩) h.lt).trans (h.cell j), Nat.lt_of_lt_of_le h.lt hb.size⟩
theorem BxAt.drew {b : Nat} {bx : Array Value} {W : World} (h : BxAt b bx W) : BxAt b bx W.drew := ⟨h.cell, h.lt⟩
theorem BxAt.new (W : World) (bx : Array Value) (t : TypeId) : BxAt W.heap.size bx (W.alloc (.cells bx t)) :=
  ⟨fun j => cell_of_row _ _ _ _ _ _ (heap_alloc_new W (.cells bx t)), by simp⟩
end Go.Proofs.YtechgcjdigpglaaGreat
namespace Go.Proofs.YtechgcjdigpglaaGreat
open Go.RowKit Go.ChangeShapes Go.WideShapes Go.Deep
set_option linter.all false

/-- A box that is written. -/
structure BxM (b : Nat) (vals : Array Value) (t : TypeId) (W : World) : Prop where
  heap : W.heap[b]? = some (.cells vals t (0, 0))
section
variable {b : Nat} {vals : Array Value} {t : TypeId} {W : World}
theorem BxM.cell (h : BxM b vals t W) (j : Nat) : W.cell? ⟨b, j, none⟩ = vals[j]? := by
  simp [World.cell?, h.heap]
theorem BxM.frz (h : BxM b vals t W) (j : Nat) : W.frozen? ⟨b, j, none⟩ = false := by
  simp [World.frozen?, h.heap]
theorem BxM.lt (h : BxM b vals t W) : b < W.heap.size := (Array.getElem?_eq_some_iff.1 h.heap).1
theorem BxM.below {W' : World} (h : BxM b vals t W) (hb : Below W.heap.size W W') : BxM b vals t W' := ⟨(hb.block _ h.lt).trans h.heap⟩
theorem BxM.drew (h : BxM b vals t W) : BxM b vals t W.drew := ⟨h.heap⟩
theorem BxM.new (W : World) (vals : Array Value) (t : TypeId) : BxM W.heap.size vals t (W.alloc (.cells vals t)) := ⟨heap_alloc_new W _⟩
theorem BxM.alloc (h : BxM b vals t W) (o : Obj) : BxM b vals t (W.alloc o) := h.below ((Below.refl _ _).alloc (Nat.le_refl _) _)
theorem BxM.set (h : BxM b vals t W) (j : Nat) (v : Value) : BxM b (vals.setIfInBounds j v) t (W.setCell ⟨b, j, none⟩ v) := ⟨heap_setCell_same W b j vals t v h.heap⟩
theorem BxM.other (h : BxM b vals t W) {a : Addr} (ha : b ≠ a.block) (v : Value) : BxM b vals t (W.setCell a v) := ⟨(heap_setCell_other W a b v ha).trans h.heap⟩
theorem BxM.at (h : BxM b vals t W) : BxAt b vals W := ⟨h.cell, h.lt⟩
end
end Go.Proofs.YtechgcjdigpglaaGreat
namespace Go.Proofs.YtechgcjdigpglaaGreat
open Go.RowKit Go.ChangeShapes Go.WideShapes Go.Deep
set_option linter.all false

def greatR (r : RuleD) : Prop := 100 < r.byMonth.length ∨ 100 < r.byMonthDay.length ∨ 200 < r.byDay.length ∨ 900 < r.bySetPos.length
theorem few_of {r : RuleD} (h : ¬ greatR r) : fewR r := by
  unfold greatR at h
  exact ⟨by omega, by omega, by omega, by omega⟩
set_option maxRecDepth 100000 in
set_option maxHeartbeats 8000000 in
theorem great_any (cs : List Value) (r : RuleD) (w : World) (h : rRule w cs r) :
    Calls Tryz.prog 40 #[.agg cs.toArray] w fun e w' => e = .returned (.bool (dec (greatR r))) ∧ Below w.heap.size w w' := by
  obtain ⟨m, d, y, p, rfl, -, -, -, -, -, hmm, hd, hy, hp⟩ := h
  obtain ⟨om, nm, cm, rfl, lm, -, -, RM⟩ := hmm.open
  obtain ⟨od, nd, cd, rfl, ld, -, -, RD⟩ := hd.open
  obtain ⟨oy, ny, cy, rfl, ly, -, -, RY⟩ := hy.open
  obtain ⟨op, np, cp, rfl, lp, -, -, RP⟩ := hp.open
  have HG := Lib.hid (show greatR r ↔ (100 < nm ∨ 100 < nd ∨ 200 < ny ∨ 900 < np) by unfold greatR; rw [lm, ld, ly, lp])
  clear hmm hd hy hp RM RD RY RP lm ld ly lp
  go_enter Tryz.func40, Tryz.ntmps40
  go_wp2_with fail
  all_goals
    go_ret
    refine ⟨?_, belowA _ (Below.refl _ _)⟩
    refine ret_dec (?_ : _ = true ↔ _)
    rw [HG.out]
    first
      | (simp only [true_iff]; omega)
      | (simp only [Bool.or_eq_true, decide_eq_true_eq]; omega)
end Go.Proofs.YtechgcjdigpglaaGreat
