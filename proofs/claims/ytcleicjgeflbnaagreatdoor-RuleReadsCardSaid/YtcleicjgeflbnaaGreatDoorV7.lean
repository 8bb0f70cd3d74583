/- rule.parts$1: what the part FREQ says. Conditions: the tables are laid, the rule lies in a box. -/
import Derived.Test.YtcleicjgeflbnaaGreatDoorV6
namespace Go.Proofs.YtcleicjgeflbnaaGreatDoor
open Go.RowKit Go.ChangeShapes Go.WideShapes Go.Deep
set_option linter.all false

/-- The rule's box holds what is told, whatever else lay there lies as it lay. -/
structure Sets (R : Nat) (cs : Array Value) (w w' : World) : Prop where
  os : w'.os = w.os
  tape : w'.tape = w.tape
  output : w'.output = w.output
  size : w.heap.size ≤ w'.heap.size
  box : w'.heap[R]? = some (.cells cs 26 (0, 0))
  block : ∀ k, k < w.heap.size → k ≠ R → w'.heap[k]? = w.heap[k]?
theorem Sets.store {R : Nat} {cs : Array Value} {w W : World} (hb : Below w.heap.size w W) (hR : w.heap[R]? = some (.cells cs 26 (0, 0))) (i : Nat) (v : Value) : Sets R (cs.setIfInBounds i v) w (W.setCell ⟨R, i, none⟩ v) := by
  have hlt : R < w.heap.size := (Array.getElem?_eq_some_iff.1 hR).1
  refine ⟨hb.os, hb.tape, hb.output, by simpa [World.setCell] using hb.size, heap_setCell_same _ _ _ _ _ _ ((hb.block R hlt).trans hR), fun k hk hne => (Below.heap_setCell _ _ _ _ hne).trans (hb.block k hk)⟩
theorem Sets.drew {R : Nat} {cs : Array Value} {w W : World} (h : Sets R cs w W) : Sets R cs w W.drew := ⟨h.os, h.tape, h.output, h.size, h.box, h.block⟩
theorem Sets.alloc {R : Nat} {cs : Array Value} {w W : World} (h : Sets R cs w W) (o : Obj) : Sets R cs w (W.alloc o) :=
  ⟨h.os, h.tape, h.output, by rw [World.size_alloc]; have := h.size; omega, (Below.heap_alloc _ _ _ (Array.getElem?_eq_some_iff.1 h.box).1).trans h.box, fun k hk hne => (Below.heap_alloc _ _ _ (by have := h.size; omega)).trans (h.block k hk hne)⟩
theorem idx_le (s : List UInt8) : ∀ xs : List (List UInt8), -1 ≤ idxL xs s ∧ idxL xs s < xs.length
  | [] => by simp [idxL]
  | x :: r => by
    have ih := idx_le s r
    rw [idxL, List.length_cons]
    split
    · omega
    · split <;> omega

set_option maxRecDepth 100000 in
set_option maxHeartbeats 4000000 in
theorem takeFreq (s : ByteArray) (B R : Nat) (cs : Array Value) (w : World) (hL : Laid w) (hB : w.cell? ⟨B, 0, none⟩ = some (.pointer (some ⟨R, 0, none⟩))) (hR : w.heap[R]? = some (.cells cs 26 (0, 0))) (h9 : cs.size = 9) :
    Calls Tryz.prog 37 #[.string s, .pointer (some ⟨B, 0, none⟩)] w fun e w' => e = .returned (.tuple #[]) ∧ Sets R (cs.setIfInBounds 0 (.int .i64 (idxL freqsL s.data.toList + 1))) w w' := by
  have hlt : R < w.heap.size := (Array.getElem?_eq_some_iff.1 hR).1
  have hBl : B < w.heap.size := World.block_lt_of_cell? w ⟨B, 0, none⟩ hB
  have HL := Lib.hid hL
  have hib := idx_le s.data.toList freqsL
  have FF := Lib.hid (fun (W : World) (hb : Below w.heap.size w W) => freqsF W (HL.out.later hb))
  have IX := Lib.hid (fun (W : World) (hb : W.heap[w.heap.size]? = some (.cells freqsC 9 (0, 0))) => (show Calls Tryz.prog 38 #[.slice (some ⟨w.heap.size, 0, none⟩) 4 4, .string s] W _ from index_any freqsL s w.heap.size 4 W (fun j x hx => by
    rw [cell_of_row _ _ _ _ _ _ hb]
    show (freqsL.map fun l => Value.string ⟨l.toArray⟩).toArray[j]? = _
    rw [List.getElem?_toArray, List.getElem?_map, hx]
    rfl) (by decide)))
  obtain ⟨i, hi⟩ : ∃ i, i = idxL freqsL s.data.toList := ⟨_, rfl⟩
  rw [← hi] at IX hib ⊢
  have hil : -1 ≤ i ∧ i < 4 := hib
  obtain ⟨hi1, hi2⟩ := hil
  have hw1 : IntKind.i64.wrap (i + 1) = i + 1 := by rw [IntKind.wrap_i64]; omega
  have hw2 : wrap64 (i + 1) = i + 1 := by unfold wrap64; omega
  have hc0 : ∃ v, w.cell? ⟨R, 0, none⟩ = some v := by
    rw [cell_of_row _ _ _ _ _ _ hR]
    exact ⟨cs[0]'(by omega), Array.getElem?_eq_getElem _⟩
  obtain ⟨v0, hc0⟩ := hc0
  have hf0 : w.frozen? ⟨R, 0, none⟩ = false := frozen_of_row _ _ _ _ _ hR
  have HN := Lib.hid (heap_alloc_new w (.cells freqsC 9))
  have HB0 := Lib.hid (Below.refl w.heap.size w)
  have HS := Lib.hid (fun W (hb : Below w.heap.size w W) => Sets.store hb hR 0 (.int .i64 (i + 1)))
  clear hi hib hR hL
  go_enter Tryz.func37, Tryz.ntmps37
  go_wp2_with fail
  go_region_with (first
    | (go_at_call 25; ((with_reducible refine (FF.out _ ?_).mono ?_); (first | exact HB0.out | exact HB0.out.drew); rintro e w2 ⟨rfl, rfl⟩))
    | (go_at_call 38; ((with_reducible refine (IX.out _ ?_).mono ?_); (exact HN.out); rintro e w2 ⟨rfl, rfl⟩)))
  all_goals
    go_wp2_with fail
    go_end0
    refine ⟨rfl, ?_⟩
    first
      | exact HS.out _ (belowA _ HB0.out)
      | exact (HS.out _ (belowA _ HB0.out)).drew
      | exact ((HS.out _ HB0.out).alloc _).drew
      | exact (HS.out _ HB0.out).alloc _
end Go.Proofs.YtcleicjgeflbnaaGreatDoor
