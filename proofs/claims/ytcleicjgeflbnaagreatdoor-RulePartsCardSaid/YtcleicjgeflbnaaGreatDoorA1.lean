/- Walks of the clock's functions and what they compute; part A1 of the proof of the laws of layer 3. Conditions: each theorem's own. -/
import Derived.Test.YtcleicjgeflbnaaGreatDoorProg
import Derived.WalkKit
import Derived.Below
import Derived.OwnWalk
import Derived.Laws.BytesArg
import Derived.Laws.MakeOwn
import Derived.Laws.NewBlocks
import Derived.KernelRfl
import Derived.IntWalk
namespace Go.Proofs.YtcleicjgeflbnaaGreatDoor
open Go.RowKit

def digs (n : Int) : Nat → List Int
  | 0 => []
  | k + 1 => digs (n / 10) k ++ [48 + n % 10]

theorem digs_length (n : Int) (k : Nat) : (digs n k).length = k := by
  induction k generalizing n with
  | zero => rfl
  | succ k ih => simp [digs, ih]

/-- What digits' array holds when the last places are done. -/
def dcells (k : Nat) (t : List Int) : Array Value := ((List.replicate k (0 : Int) ++ t).map (Value.int .u8)).toArray

theorem madeCells_dcells (m : Nat) : madeCells #[Value.int .u8 0] m = dcells m [] := by
  unfold madeCells dcells
  apply Array.ext
  · simp
  · intro j h1 h2
    simp at h1 h2 ⊢
    rw [Nat.mod_one]; rfl

theorem dcells_set (k : Nat) (c : Int) (t : List Int) : (dcells (k + 1) t).setIfInBounds k (.int .u8 c) = dcells k (c :: t) := by
  unfold dcells
  rw [List.setIfInBounds_toArray]
  congr 1
  rw [List.replicate_succ', List.append_assoc, List.map_append, List.map_append, List.set_append]
  simp

theorem dcells_get (t : List Int) (j : Nat) (h : j < t.length) : (dcells 0 t)[j]? = some (.int .u8 (t.getD j 0)) := by
  unfold dcells
  simp [List.getElem?_eq_getElem h, List.getD]

set_option maxRecDepth 100000 in
set_option maxHeartbeats 1000000 in
theorem digits_any (n : Int) (m : Nat) (h0 : 0 ≤ n) (hn : n < 1000000000) (hm : m ≤ 4) (w : World) :
    Calls Tryz.prog 81 #[.int .i64 n, .int .i64 m] w fun e w' => e = .returned (.string (strOfNums (digs n m))) ∧ Below w.heap.size w w' := by
  have i5 : ∃ i, Tryz.prog.info? 5 = some i ∧ i.zero = some (.int .u8 0) ∧ i.size = 1 ∧ i.bytes = 1 := by
    refine ⟨_, rfl, ?_, ?_, ?_⟩ <;> kernel_rfl
  obtain ⟨i, hi, hz, hs, hb⟩ := i5
  have hmk : ∀ W : World, (Instr.makeSlice 78 (.int .i64 m) (.int .i64 m)).run Tryz.prog W = .ok (.slice (some ⟨W.heap.size, 0, none⟩) m m) (W.alloc (.cells (dcells m []) 5)) := by
    intro W
    have := run_make (P := Tryz.prog) W 78 5 i (.int .u8 0) Tryz.underlying78 hi hz .i64 .i64 m m (by omega) (by omega) (by rw [hb]; omega) (by omega)
    rw [this, hs]
    simp [Value.cells, madeCells_dcells]
  clear hs hb hz hi
  go_enter Tryz.func81, Tryz.ntmps81
  go_wp2
  go_loopw [0, 6] (fun a b wr => ∃ (k : Nat) (q : Int) (t : List Int), k ≤ m ∧ 0 ≤ q ∧ q < 1000000000 ∧ a = .int .i64 q ∧ b = .int .i64 ((k : Int) - 1) ∧ digs q k ++ t = digs n m ∧ wr = w.alloc (.cells (dcells k t) 5))
    (fun _ b _ => (intOf b + 1).toNat)
  case atStart => exact ⟨m, n, [], Nat.le_refl _, h0, hn, rfl, rfl, by simp, rfl⟩
  case round =>
    obtain ⟨k, q, t, hk, hq0, hq1, rfl, rfl, ht, rfl⟩ := hrel
    cases k with
    | zero =>
      have htl : t.length = m := by rw [← List.nil_append t, show ([] : List Int) = digs q 0 from rfl, ht]; exact digs_length n m
      have hcv := run_convert_bytes_arg (P := Tryz.prog) (w.alloc (.cells (dcells 0 t) 5)) 78 5 Tryz.underlying78 Tryz.underlying5 w.heap.size 0 m m t htl (fun i hi => by
        rw [World.cell?_alloc_at _ _ _ _ rfl]
        simpa using dcells_get t i (by omega)) 9 Tryz.underlying9
      have ht' : t = digs n m := by simpa [digs] using ht
      rw [ht'] at hcv ⊢
      clear ht ht' htl
      go_wp2
      go_ret
      exact ⟨rfl, (Below.refl _ _).alloc (Nat.le_refl _) _⟩
    | succ k =>
      have hg : (dcells (k + 1) t)[k]? = some (.int .u8 0) := by
        unfold dcells
        simp [List.getElem?_append]
      have hs := dcells_set k (48 + q % 10) t
      go_wp2
      go_roundw
      case rel => exact ⟨k, q / 10, (48 + q % 10) :: t, by omega, by omega, by omega, rfl, rfl, by rw [← ht, digs, List.append_assoc]; rfl, rfl⟩
      case measure => simp [intOf]
end Go.Proofs.YtcleicjgeflbnaaGreatDoor
