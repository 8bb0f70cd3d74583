/- rule.Read at the chapter's example: what lies in memory meanwhile, the pieces. No condition. -/
import Derived.Test.YtcleicjgeflbnaaGreatDoorV10
namespace Go.Proofs.YtcleicjgeflbnaaGreatDoor
open Go.RowKit Go.ChangeShapes Go.WideShapes Go.Deep
set_option linter.all false

abbrev exS : ByteArray := ⟨#[70, 82, 69, 81, 61, 77, 79, 78, 84, 72, 76, 89, 59, 66, 89, 68, 65, 89, 61, 45, 49, 70, 82]⟩
abbrev exA : ByteArray := ⟨#[70, 82, 69, 81, 61, 77, 79, 78, 84, 72, 76, 89]⟩
abbrev exB : ByteArray := ⟨#[66, 89, 68, 65, 89, 61, 45, 49, 70, 82]⟩
abbrev exFREQ : ByteArray := ⟨#[70, 82, 69, 81]⟩
abbrev exMON : ByteArray := ⟨#[77, 79, 78, 84, 72, 76, 89]⟩
abbrev exBYDAY : ByteArray := ⟨#[66, 89, 68, 65, 89]⟩
abbrev exFR : ByteArray := ⟨#[45, 49, 70, 82]⟩
theorem ex_split : splitB 59 exS = [exA, exB] := by decide +kernel
theorem ex_fr : splitB 44 exFR = [exFR] := by decide +kernel
theorem ex_n : numZ (exFR.extract 0 (exFR.size - 2)) = -1 := by decide +kernel
theorem ex_d : idxL daysL (exFR.extract (exFR.size - 2) exFR.size).data.toList = 4 := by decide +kernel
theorem ex_days : (splitB 44 exFR).map (dayF numZ) = [⟨-1, 4⟩] := by
  rw [ex_fr]
  show [dayF numZ exFR] = _
  unfold dayF
  rw [ex_n, ex_d]
theorem ex_mon : idxL freqsL exMON.data.toList + 1 = 3 := by decide +kernel
theorem cutA (W : World) : Calls Tryz.prog 18 #[.string exA, .string ⟨#[61]⟩] W fun e w' => e = .returned (.tuple #[.string exFREQ, .string exMON, .bool true]) ∧ ∃ q, w' = W.drewN q := by
  have h := cut_some exA 4 W (by decide +kernel) (by decide)
  rw [show exA.extract 0 4 = exFREQ from by decide +kernel, show exA.extract (4 + 1) exA.size = exMON from by decide +kernel] at h
  exact h
theorem cutB (W : World) : Calls Tryz.prog 18 #[.string exB, .string ⟨#[61]⟩] W fun e w' => e = .returned (.tuple #[.string exBYDAY, .string exFR, .bool true]) ∧ ∃ q, w' = W.drewN q := by
  have h := cut_some exB 5 W (by decide +kernel) (by decide)
  rw [show exB.extract 0 5 = exBYDAY from by decide +kernel, show exB.extract (5 + 1) exB.size = exFR from by decide +kernel] at h
  exact h

abbrev zeroC : Array Value := #[.int .i64 0, .int .i64 0, .int .i64 0, .int .i64 0, .slice none 0 0, .slice none 0 0, .slice none 0 0, .slice none 0 0, .int .i64 0]
abbrev rule0 : Array Value := #[.int .i64 0, .int .i64 1, .int .i64 0, .int .i64 (-1), .slice none 0 0, .slice none 0 0, .slice none 0 0, .slice none 0 0, .int .i64 0]
abbrev rule1 : Array Value := #[.int .i64 3, .int .i64 1, .int .i64 0, .int .i64 (-1), .slice none 0 0, .slice none 0 0, .slice none 0 0, .slice none 0 0, .int .i64 0]
abbrev rule2 (v : Value) : Array Value := #[.int .i64 3, .int .i64 1, .int .i64 0, .int .i64 (-1), .slice none 0 0, .slice none 0 0, v, .slice none 0 0, .int .i64 0]
/-- What is told of the rule's box behind some pieces. -/
def RuleAt (w : World) : Nat → Array Value → World → Prop
  | 0, cs, _ => cs = rule0
  | 1, cs, _ => cs = rule1
  | _, cs, W => ∃ v, cs = rule2 v ∧ W.ownsRow (w.heap.size + 11) 36 2 v 1 (dnC [⟨-1, 4⟩])
/-- What lies in memory while Read goes on. -/
structure ReadAt (w : World) (k : Nat) (W : World) : Prop where
  res : W.heap[w.heap.size]? = some (.cells zeroC 26 (0, 0))
  okc : W.heap[w.heap.size + 1]? = some (.cells #[.bool false] 4 (0, 0))
  rule : ∃ cs, W.heap[w.heap.size + 1 + 1]? = some (.cells cs 26 (0, 0)) ∧ RuleAt w k cs W
  bx : W.heap[w.heap.size + 1 + 1 + 1]? = some (.cells #[.pointer (some ⟨w.heap.size + 1 + 1, 0, none⟩)] 39 (0, 0))
  mp : W.heap[w.heap.size + 1 + 1 + 1 + 1]? = some (.map (ents (w.heap.size + 1 + 1 + 1)).toArray 9)
  vr : W.heap[w.heap.size + 1 + 1 + 1 + 1 + 1]? = some (.cells #[.map (some (w.heap.size + 1 + 1 + 1 + 1))] 37 (0, 0))
  bel : Below w.heap.size w W
theorem ReadAt.turned {w W W' : World} {k : Nat} (h : ReadAt w k W) (ht : Turned (w.heap.size + 9) (w.heap.size + 6) W W') : ReadAt w k W' := by
  have g : ∀ {b : Nat} {o : Obj}, b < w.heap.size + 6 → W.heap[b]? = some o → W'.heap[b]? = some o := fun hb ho => (ht.block _ (Array.getElem?_eq_some_iff.1 ho).1 (by omega) (by omega) (by omega)).trans ho
  obtain ⟨cs, h1, h2⟩ := h.rule
  refine ⟨g (by omega) h.res, g (by omega) h.okc, ⟨cs, g (by omega) h1, ?_⟩, g (by omega) h.bx, g (by omega) h.mp, g (by omega) h.vr, h.bel.trans ⟨ht.os, ht.tape, ht.output, ht.size, fun k hk => ht.block k (by have := h.bel.size; omega) (by omega) (by omega) (by omega)⟩⟩
  match k, h2 with
  | 0, h2 => exact h2
  | 1, h2 => exact h2
  | (k + 2), ⟨v, e, h2⟩ => exact ⟨v, e, own_turned h2 ht (by omega) (by omega)⟩
theorem own_base {W : World} {B B' : Nat} {e : TypeId} {sz : Nat} {v : Value} {n : Nat} {xs : List Value} (h : W.ownsRow B e sz v n xs) (hB : B' ≤ B) : W.ownsRow B' e sz v n xs := by
  obtain ⟨h1, h2 | ⟨g, cap, cur, e2, a1, a2⟩⟩ := h
  · exact ⟨h1, .inl h2⟩
  · exact ⟨h1, .inr ⟨g, cap, cur, e2, by omega, a2⟩⟩
theorem ReadAt.sets {w W W' : World} {k k' : Nat} {cs : Array Value} (h : ReadAt w k W) (hs : Sets (w.heap.size + 1 + 1) cs W W') (hr : RuleAt w k' cs W') : ReadAt w k' W' := by
  have g : ∀ {b : Nat} {o : Obj}, b ≠ w.heap.size + 1 + 1 → W.heap[b]? = some o → W'.heap[b]? = some o := fun hb ho => (hs.block _ (Array.getElem?_eq_some_iff.1 ho).1 hb).trans ho
  exact ⟨g (by omega) h.res, g (by omega) h.okc, ⟨cs, hs.box, hr⟩, g (by omega) h.bx, g (by omega) h.mp, g (by omega) h.vr, h.bel.trans ⟨hs.os, hs.tape, hs.output, hs.size, fun k hk => hs.block k (by have := h.bel.size; omega) (by omega)⟩⟩
theorem ReadAt.drewN {w W : World} {k : Nat} (h : ReadAt w k W) (q : Nat) : ReadAt w k (W.drewN q) := by
  obtain ⟨cs, h1, h2⟩ := h.rule
  refine ⟨h.res, h.okc, ⟨cs, h1, ?_⟩, h.bx, h.mp, h.vr, ⟨h.bel.os, h.bel.tape, h.bel.output, h.bel.size, h.bel.block⟩⟩
  match k, h2 with
  | 0, h2 => exact h2
  | 1, h2 => exact h2
  | (k + 2), ⟨v, e, h2⟩ => exact ⟨v, e, h2⟩
theorem split2 {pre post : List ByteArray} {x a b : ByteArray} (h : [a, b] = pre ++ x :: post) : (pre = [] ∧ x = a) ∨ (pre = [a] ∧ x = b) := by
  cases pre with
  | nil => simp at h; exact .inl ⟨rfl, h.1.symm⟩
  | cons y t =>
    cases t with
    | nil => simp at h; exact .inr ⟨by rw [h.1], h.2.1.symm⟩
    | cons z t => simp at h
end Go.Proofs.YtcleicjgeflbnaaGreatDoor
