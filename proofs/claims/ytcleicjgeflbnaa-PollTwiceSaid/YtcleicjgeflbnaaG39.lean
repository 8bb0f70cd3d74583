/- The walk of slices.Insert of one vote into a row of one's own that has room. Conditions: at most a thousand votes; the new one lies in a block of its own. -/
import Derived.Test.YtcleicjgeflbnaaG38
namespace Go.Proofs.Ytcleicjgeflbnaa
open Go.RowKit Go.ChangeShapes Go.WideShapes Go.Deep Go.Shelf

theorem size68 : (Try.prog.info? 68).map (·.size) = some 2 := by kernel_rfl
theorem sizeOf68 (w : World) : (Go.sizeOf 68).run Try.prog w = .ok 2 w := by kernel_rfl

set_option maxHeartbeats 4000000 in
set_option maxRecDepth 100000 in
theorem insertV_room (g n cap h i base : Nat) (xs : List VoteD) (u : VoteD) (w : World) (hown : w.ownsRow base 68 2 (.slice (some ⟨g, 0, none⟩) n cap) n (cellsV xs)) (hl : xs.length = n) (hi : i < n) (hroom : n + 1 ≤ cap) (hn : n ≤ 1000) (hgh : h ≠ g)
    (hu : w.heap[h]? = some (.cells #[.int .u32 u.user, .int .i64 u.slot] 68 (0, 0))) :
    Calls Try.prog 25 #[.slice (some ⟨g, 0, none⟩) n cap, .int .i64 (i : Int), .slice (some ⟨h, 0, none⟩) 1 1] w fun e w' => e = .returned (.slice (some ⟨g, 0, none⟩) (n + 1) cap) ∧
      w'.ownsRow base 68 2 (.slice (some ⟨g, 0, none⟩) (n + 1) cap) (n + 1) (cellsV (putAt xs i u)) ∧ Below g w w' := by
  have mixed : Try.prog.follows .mixedOrders = true := by kernel_rfl
  obtain ⟨cur, hg, hcs, hcm⟩ : ∃ cur, w.heap[g]? = some (.cells cur 68 (0, 0)) ∧ cur.size = cap * 2 ∧ cap ≤ maxLen := by
    rcases hown.2 with ⟨e, _⟩ | ⟨g', cap', cur, e, _, hg, h1, h2, h3, _⟩
    · simp at e
    · simp only [Value.slice.injEq, Option.some.injEq, Addr.mk.injEq, and_true, true_and] at e
      obtain ⟨rfl, rfl⟩ := e
      exact ⟨cur, hg, h3, h2⟩
  have hc63 : cap ≤ 9223372036854775807 := by unfold maxLen at hcm; omega
  have h1 : (cellsV xs).length = n * 2 := by rw [cellsV_length, hl]
  obtain ⟨ys, hmore⟩ := ownsRow_more hown hroom
  have hy := hmore.1
  have hcell : ∀ j, j < n * 2 → w.cell? ⟨g, j, none⟩ = (cellsV xs)[j]? := fun j hj => hown.cellAt j hj
  have hsome : ∀ j, j < (n + 1) * 2 → (w.cell? ⟨g, j, none⟩).isSome = true := fun j hj => by rw [hmore.cellAt j hj, List.getElem?_eq_getElem (by omega)]; rfl
  have hfz : ∀ j, w.frozen? ⟨g, j, none⟩ = false := fun j => hown.frozenAt j
  have hov : ∀ lb cb, (callFunc 47 #[.slice (some ⟨h, 0, none⟩) 1 1, .slice (some ⟨g, (i + 1) * 2, none⟩) lb cb]).run Try.prog w = .ok (.value (.bool false)) w := fun lb cb => by
    rw [run_callFunc_extern Try.func47 (by kernel_rfl) (by kernel_rfl) (by kernel_rfl) (e := Extern.SlicesOverlaps.overlaps #[62, 62] #[4]) (by kernel_rfl),
      Lib.run_overlaps_apart w 62 4 68 Try.underlying62 2 sizeOf68 ⟨h, 0, none⟩ ⟨g, (i + 1) * 2, none⟩ 1 1 lb cb hgh 68 68 2 (cap * 2) (by simp [World.shape?, hu]) (by simp [World.shape?, hg, hcs]) (by omega) (frozen_of_row _ _ _ _ _ hu) (frozen_of_row _ _ _ _ _ hu)]
    rfl
  have h2 : ((cellsV xs).drop (i * 2)).length = (n - i) * 2 := by rw [List.length_drop, h1]; omega
  have hmin : Nat.min (n + 1 - i) (n - i) = n - i := by simp only [Nat.min_def]; split <;> omega
  have hcp1 : ∀ ty dc sc, (Builtin.copy_ #[62, 62] ty #[.slice (some ⟨g, (i + 1) * 2, none⟩) (n - i) dc, .slice (some ⟨g, i * 2, none⟩) (n + 1 - i) sc]).run Try.prog w.drew = .ok (goInt ((n - i : Nat) : Int)) (w.drew.setCells g ((i + 1) * 2) ((cellsV xs).drop (i * 2))) := fun ty dc sc => by
    have := run_copy_wide (P := Try.prog) w.drew 62 62 ty 68 2 g ((i + 1) * 2) (n - i) dc ⟨g, i * 2, none⟩ (n + 1 - i) sc ((cellsV xs).drop (i * 2)) Try.underlying62 size68 (by rw [hmin, h2])
      (fun j v hj => by rw [Addr.add_lit]; rw [List.getElem?_drop] at hj; exact (hcell (i * 2 + j) (by have := (List.getElem?_eq_some_iff.1 hj).1; omega)).trans hj)
      (fun j hj => hsome _ (by omega)) (fun j hj => hfz _) (fun v hv => cellsV_one xs v (List.mem_of_mem_drop hv))
    rw [hmin] at this
    exact this
  obtain ⟨W1, hW1⟩ : ∃ W1, W1 = w.drew.setCells g ((i + 1) * 2) ((cellsV xs).drop (i * 2)) := ⟨_, rfl⟩
  have hown1 : W1.ownsRow base 68 2 (.slice (some ⟨g, 0, none⟩) (n + 1) cap) (n + 1) (setL (cellsV xs ++ ys) ((i + 1) * 2) ((cellsV xs).drop (i * 2))) := by
    rw [hW1]; exact ownsRow_setCells _ _ w.drew _ hmore.drew
  have hcp2 : ∀ (W : World), (∀ x, W.cell? x = W1.cell? x) → (∀ x, W.frozen? x = W1.frozen? x) → ∀ ty dc, (Builtin.copy_ #[62, 62] ty #[.slice (some ⟨g, i * 2, none⟩) (n + 1 - i) dc, .slice (some ⟨h, 0, none⟩) 1 1]).run Try.prog W = .ok (goInt 1) (W.setCells g (i * 2) [.int .u32 u.user, .int .i64 u.slot]) := fun W hWc hWf ty dc => by
    have hm1 : Nat.min 1 (n + 1 - i) = 1 := by simp only [Nat.min_def]; split <;> omega
    have := run_copy_wide (P := Try.prog) W 62 62 ty 68 2 g (i * 2) (n + 1 - i) dc ⟨h, 0, none⟩ 1 1 [.int .u32 u.user, .int .i64 u.slot] Try.underlying62 size68 (by rw [hm1]; rfl)
      (fun j v hj => by
        rw [Addr.add_lit, hWc, hW1, World.cell?_setCells_out _ _ _ _ _ (fun e => absurd e hgh), Nat.zero_add]
        show w.cell? _ = _
        rw [cell_of_row _ _ _ _ _ _ hu]; simpa using hj)
      (fun j hj => by rw [hWc, hown1.cellAt _ (by simp at hj; omega), List.getElem?_eq_getElem (by rw [setL_length]; simp at hj; omega)]; rfl) (fun j hj => by rw [hWf]; exact hown1.frozenAt _) (cellsV_one [u])
    rw [hm1] at this
    exact this
  rw [← hW1] at hcp1
  have HO1 := Lib.hid hown1
  have HBL := Lib.hid (show Below g w W1 by rw [hW1]; exact Below.setCells (Nat.le_refl g) _ _ _ (Below.refl _ _).drew)
  have HF := Lib.hid (insert_cells xs ys i n u hl (by omega) hy)
  have hz2 : ¬ ((i : Int) = (n : Int)) := by omega
  have hb2 : ¬ (cap = i + 1) := by omega
  have hb3 : (i : Int) ≤ (n : Int) + 1 := by omega
  have hb4 : ¬ (cap = i) := by omega
  have hbi : ((i : Int) == (n : Int)) = false := by simp; omega
  have hrm : ¬ (cap : Int) < (n : Int) + 1 := by omega
  have hin : i ≤ n := by omega
  have hw1 : IntKind.i64.wrap ((i : Int) + 1) = (i : Int) + 1 := by rw [IntKind.wrap_i64]; omega
  have hib : (0 : Int) ≤ (i : Int) + 1 := by omega
  have htn : ((i : Int) + 1).toNat = i + 1 := by omega
  have htn2 : ((n : Int) + 1).toNat = n + 1 := by omega
  have hi1 : (i : Int) + 1 ≤ (n : Int) + 1 := by omega
  have hi2 : i + 1 ≤ n + 1 := by omega
  have hnc : (n : Int) + 1 ≤ (cap : Int) := by omega
  clear hW1 hown1 hcell hsome hfz hmore hown hy h1 h2 hmin hg hcs hcm hu hl
  go_enter Try.func25, Try.ntmps25
  go_wp2_with (simp only [hov])
  go_region_law_o (refine step_copy_runI rfl _ _ 62 62 rfl _ _ (by simp [Act.eval, Act.put]) (by simp [Act.eval, Act.put]) (hcp1 _ _ _) ?_)
  go_wp2_with (refine wpList_copy_runI _ rfl _ _ 62 62 rfl _ _ rfl rfl (hcp2 _ (fun _ => rfl) (fun _ => rfl) _ _) ?_)
  go_ret
  refine ⟨rfl, ?_, Below.setCells (Nat.le_refl g) _ _ _ HBL.out⟩
  rw [← HF.out]
  exact ownsRow_setCells _ (i * 2) W1 _ HO1.out
end Go.Proofs.Ytcleicjgeflbnaa
