/- The iterator of SplitSeq at a sign: it hands out the pieces, one by one. It keeps what is left in a box of its own. Conditions: the loop's rounds go on, and leave its boxes. -/
import Derived.RangeFuncKeeps
import Derived.RangeFuncLeaves
import Derived.OwnWalkIn
import Derived.TacticsInMore
import Derived.LoopNIn
import Derived.LoopIn
import Derived.Test.YtcleicjgeflbnaaGreatDoorV1
namespace Go.Proofs.YtcleicjgeflbnaaGreatDoor
open Go.RowKit Go.ChangeShapes Go.WideShapes Go.Deep
set_option linter.all false
attribute [local go_sem] Oper.semAt_some

/-- How much is left, read off the box. -/
def leftIn (c : Nat) (W : World) : Nat := match W.cell? ⟨c, 0, none⟩ with | some (.string s) => s.size | _ => 0

set_option maxRecDepth 100000 in
set_option maxHeartbeats 4000000 in
theorem split_in (d : UInt8) (n l c : Nat) (s : ByteArray) (J : List ByteArray → World → Prop) (W : World)
    (hJ : ∀ pre W v, J pre W → J pre (W.setCell ⟨c, 0, none⟩ v))
    (hY : ∀ pre x W, (∃ post, splitB d s = pre ++ x :: post) → J pre W → YieldAt Fence.wide (n - 1) Tryz.prog l #[.string x] W fun e W' => e = .returned (.bool true) ∧ J (pre ++ [x]) W' ∧ ∀ k, c ≤ k → k ≤ c + 2 → W'.heap[k]? = W.heap[k]?)
    (h0 : W.heap[c]? = some (.cells #[.string s] 9 (0, 0))) (h1 : W.heap[c + 1]? = some (.cells #[.string ⟨#[d]⟩] 9 (0, 0))) (h2 : W.heap[c + 2]? = some (.cells #[.int .i64 0] 3 (0, 0))) (hs : s.size ≤ 1000000) (hj : J [] W) :
    CallsIn Fence.wide n Tryz.prog 71 #[.func (.yield l) #[] #[], .pointer (some ⟨c + 1, 0, none⟩), .pointer (some ⟨c, 0, none⟩), .pointer (some ⟨c + 2, 0, none⟩)] W fun e W' => (∃ v, e = .returned v) ∧ J (splitB d s) W' := by
  have c1 : W.cell? ⟨c + 1, 0, none⟩ = some (.string ⟨#[d]⟩) := by rw [cell_of_row _ _ _ _ _ _ h1]; rfl
  refine callsIn_of_wp Tryz.func71 rfl trivial ?_ rfl
  simp only [Tryz.ntmps71, List.size_toArray, List.length_cons, List.length_nil, Nat.reduceAdd, Nat.reduceSub, Array.replicate_succ, Array.replicate_zero, List.push_toArray, List.append_toArray, List.nil_append, List.cons_append]
  gi_wp2
  gi_loopw [7] (fun _ wr => ∃ (pre : List ByteArray) (r : ByteArray), wr.heap[c]? = some (.cells #[.string r] 9 (0, 0)) ∧ wr.heap[c + 1]? = some (.cells #[.string ⟨#[d]⟩] 9 (0, 0)) ∧ wr.heap[c + 2]? = some (.cells #[.int .i64 0] 3 (0, 0)) ∧ r.size ≤ 1000000 ∧ splitB d s = pre ++ splitB d r ∧ J pre wr)
    (fun _ wr => leftIn c wr)
  case atStart => exact ⟨[], s, h0, h1, h2, hs, rfl, hj⟩
  case round =>
    obtain ⟨pre, r, hc, hc1, hc2, hr, hsp, hJs⟩ := hrel
    have c0 : wr.cell? ⟨c, 0, none⟩ = some (.string r) := by rw [cell_of_row _ _ _ _ _ _ hc]; rfl
    have c1' : wr.cell? ⟨c + 1, 0, none⟩ = some (.string ⟨#[d]⟩) := by rw [cell_of_row _ _ _ _ _ _ hc1]; rfl
    have c2' : wr.cell? ⟨c + 2, 0, none⟩ = some (.int .i64 0) := by rw [cell_of_row _ _ _ _ _ _ hc2]; rfl
    have hge := Lib.indexByte_ge r.data.toList d
    have HJ := Lib.hid hJ; have HSP := Lib.hid hsp; have HC := Lib.hid (And.intro hc (And.intro hc1 hc2)); have HC0 := Lib.hid c0
    by_cases hi : Lib.indexByte r.data.toList d < 0
    · have e : splitB d r = [r] := splitB_none d r hi
      have d1 := decide_eq_true hi
      obtain ⟨fn, tmps, assign, body, hy, hR⟩ := hY pre r wr ⟨[], by rw [hsp, e]⟩ hJs
      have HY := Lib.hid hy; have HR := Lib.hid hR; have HE := Lib.hid e
      clear c1 h0 h1 h2 hj hs hY hR e hc hc1 hc2 hsp hJ
      gi_wp2
      refine ⟨trivial, (fun h => by cases h), ?_⟩
      refine (callsIn_wide.2 (Tryz.strings_Index_one r d _)).mono ?_
      rintro e w' ⟨rfl, rfl⟩
      gi_wp2
      refine ⟨(fun h => by cases h), ?_⟩
      refine HR.out.mono ?_
      rintro e W3 ⟨rfl, hJ', -⟩
      gi_wp2
      go_end0
      exact ⟨⟨_, rfl⟩, by rw [HSP.out, HE.out]; exact hJ'⟩
    · obtain ⟨i, hi'⟩ : ∃ i : Nat, Lib.indexByte r.data.toList d = (i : Int) := ⟨(Lib.indexByte r.data.toList d).toNat, by omega⟩
      obtain ⟨e, hlt⟩ := splitB_some d r i hi'
      have hlt' : (i : Int) < (r.size : Int) := by omega
      have hr' : (r.size : Int) ≤ 1000000 := by omega
      have d1 : ¬ (i : Int) < 0 := by omega
      obtain ⟨fn, tmps, assign, body, hy, hR⟩ := hY pre (r.extract 0 i) wr ⟨splitB d (r.extract (i + 1) r.size), by rw [hsp, e]⟩ hJs
      have HY := Lib.hid hy; have HR := Lib.hid hR; have HE := Lib.hid e
      have hw1 : wrap64 ((i : Int) + 0) = (i : Int) := by unfold wrap64; omega
      have hw2 : wrap64 ((i : Int) + 1) = ((i + 1 : Nat) : Int) := by unfold wrap64; omega
      have hsz : r.size ≤ 1000000 := hr
      clear c1 h0 h1 h2 hj hs hY hR e hc hc1 hc2 hsp hJ hi hge
      gi_wp2
      refine ⟨trivial, (fun h => by cases h), ?_⟩
      refine (callsIn_wide.2 (Tryz.strings_Index_one r d _)).mono ?_
      rintro e w' ⟨rfl, rfl⟩
      rw [hi']
      gi_wp2
      refine ⟨(fun h => by cases h), ?_⟩
      refine HR.out.mono ?_
      rintro e W3 ⟨rfl, hJ', hk⟩
      have k0 : W3.heap[c]? = some (.cells #[.string r] 9 (0, 0)) := (hk c (Nat.le_refl _) (by omega)).trans HC.out.1
      have k1 : W3.heap[c + 1]? = some (.cells #[.string ⟨#[d]⟩] 9 (0, 0)) := (hk (c + 1) (by omega) (by omega)).trans HC.out.2.1
      have k2 : W3.heap[c + 2]? = some (.cells #[.int .i64 0] 3 (0, 0)) := (hk (c + 2) (by omega) (Nat.le_refl _)).trans HC.out.2.2
      have d0 : W3.cell? ⟨c, 0, none⟩ = some (.string r) := by rw [cell_of_row _ _ _ _ _ _ k0]; rfl
      have d1' : W3.cell? ⟨c + 1, 0, none⟩ = some (.string ⟨#[d]⟩) := by rw [cell_of_row _ _ _ _ _ _ k1]; rfl
      have f0 : W3.frozen? ⟨c, 0, none⟩ = false := frozen_of_row _ _ _ _ _ k0
      have K0 := Lib.hid k0; have K1 := Lib.hid k1; have K2 := Lib.hid k2; have HJ3 := Lib.hid hJ'
      clear c0 c1' c2' hk k0 k1 k2 hJ' hy hJs
      gi_wp2
      go_roundw
      case measure =>
        have e1 : leftIn c (W3.setCell ⟨c, 0, none⟩ (.string (r.extract (i + 1) r.size))) = (r.extract (i + 1) r.size).size := by
          rw [leftIn, World.cell?_setCell_same' _ _ _ (by rw [d0]; rfl)]
        rw [e1, leftIn, HC0.out]
        simp only [ByteArray.size_extract]
        omega
      case rel =>
        refine ⟨pre ++ [r.extract 0 i], r.extract (i + 1) r.size, ?_, ?_, ?_, ?_, ?_, HJ.out _ _ _ HJ3.out⟩
        · exact (heap_setCell_same _ _ _ _ _ _ K0.out)
        · exact (Below.heap_setCell _ _ _ _ (by simp only; omega)).trans K1.out
        · exact (Below.heap_setCell _ _ _ _ (by simp only; omega)).trans K2.out
        · simp only [ByteArray.size_extract]; omega
        · rw [HSP.out, HE.out]; simp
end Go.Proofs.YtcleicjgeflbnaaGreatDoor
