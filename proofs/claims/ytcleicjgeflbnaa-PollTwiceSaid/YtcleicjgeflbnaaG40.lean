/- The walk of slices.Insert of one vote into a row of one's own that has no room. Conditions: at most a thousand votes. -/
import Derived.Test.YtcleicjgeflbnaaG39
namespace Go.Proofs.Ytcleicjgeflbnaa
open Go.RowKit Go.ChangeShapes Go.WideShapes Go.Deep Go.Shelf

theorem grow_cells (xs : List VoteD) (zs : List Value) (i n : Nat) (u : VoteD) (hl : xs.length = n) (hi : i ≤ n) (hz : zs.length = (n + 1) * 2) (hh : ∀ j, j < i * 2 → zs[j]? = (cellsV xs)[j]?) :
    setL (setL zs (i * 2) [.int .u32 u.user, .int .i64 u.slot]) ((i + 1) * 2) ((cellsV xs).drop (i * 2)) = cellsV (putAt xs i u) := by
  have h1 : (cellsV xs).length = n * 2 := by rw [cellsV_length, hl]
  have h2 : ((cellsV xs).drop (i * 2)).length = (n - i) * 2 := by rw [List.length_drop, h1]; omega
  rw [cellsV_put]
  apply List.ext_getElem?
  intro j
  rw [setL_get _ _ _ _ (by rw [setL_length, hz, h2]; omega), setL_get _ _ _ _ (by rw [hz]; simp; omega), h2]
  simp only [List.length_cons, List.length_nil]
  by_cases c1 : j < i * 2
  · rw [if_neg (by omega), if_neg (by omega), hh j c1, List.getElem?_append_left (by rw [List.length_take, h1]; omega), List.getElem?_take, if_pos c1]
  · rw [List.getElem?_append_right (by rw [List.length_take, h1]; omega), List.length_take, h1, Nat.min_eq_left (by omega)]
    by_cases c2 : j < i * 2 + 2
    · rw [if_neg (by omega), if_pos (by omega)]
      obtain e | e : j - i * 2 = 0 ∨ j - i * 2 = 1 := by omega
      · rw [e]; rfl
      · rw [e]; rfl
    · have e2 : j - i * 2 = (j - i * 2 - 2) + 1 + 1 := by omega
      by_cases c3 : j < (n + 1) * 2
      · rw [if_pos (by omega), e2, List.getElem?_cons_succ, List.getElem?_cons_succ, show j - (i + 1) * 2 = j - i * 2 - 2 by omega]
      · rw [if_neg (by omega), if_neg (by omega), e2, List.getElem?_cons_succ, List.getElem?_cons_succ, List.getElem?_eq_none (show zs.length ≤ j by omega), List.getElem?_eq_none (show ((cellsV xs).drop (i * 2)).length ≤ j - i * 2 - 2 by omega)]

set_option maxHeartbeats 4000000 in
set_option maxRecDepth 100000 in
theorem insertV_grow (g n cap h i base : Nat) (xs : List VoteD) (u : VoteD) (w : World) (hown : w.ownsRow base 68 2 (.slice (some ⟨g, 0, none⟩) n cap) n (cellsV xs)) (hl : xs.length = n) (hi : i < n) (hroom : cap < n + 1) (hn : n ≤ 1000) (hb : base ≤ w.heap.size)
    (hu : w.heap[h]? = some (.cells #[.int .u32 u.user, .int .i64 u.slot] 68 (0, 0))) :
    Calls Try.prog 25 #[.slice (some ⟨g, 0, none⟩) n cap, .int .i64 (i : Int), .slice (some ⟨h, 0, none⟩) 1 1] w fun e w' => ∃ G, e = .returned (.slice (some ⟨w.heap.size, 0, none⟩) (n + 1) G) ∧
      w'.ownsRow base 68 2 (.slice (some ⟨w.heap.size, 0, none⟩) (n + 1) G) (n + 1) (cellsV (putAt xs i u)) ∧ Below base w w' := by
  have mixed : Try.prog.follows .mixedOrders = true := by kernel_rfl
  obtain ⟨i0, hi0, hz0, hzs, hzb⟩ := info_parts info68
  have hnc : n ≤ cap := by
    rcases hown.2 with ⟨e, _⟩ | ⟨g', cap', cur, e, _, hg, h1, h2, h3, _⟩
    · simp at e
    · simp only [Value.slice.injEq, Option.some.injEq, Addr.mk.injEq, and_true, true_and] at e
      obtain ⟨rfl, rfl⟩ := e
      exact h1
  have h1 : (cellsV xs).length = n * 2 := by rw [cellsV_length, hl]
  have hcell : ∀ j, j < n * 2 → w.cell? ⟨g, j, none⟩ = (cellsV xs)[j]? := fun j hj => hown.cellAt j hj
  have hgw := (hown.lt g rfl).2
  have hhw : h < w.heap.size := (Array.getElem?_eq_some_iff.1 hu).1
  have hold : (Builtin.firstCells i0.size i (.slice (some ⟨g, 0, none⟩) i cap)).run Try.prog w.drew = .ok ((cellsV xs).take (i * 2)).toArray w.drew := by
    rw [hzs]
    exact run_firstCells_some w.drew 2 i ⟨g, 0, none⟩ i cap ((cellsV xs).take (i * 2)) (by rw [List.length_take, h1]; omega) (fun j v hj => by
      rw [Addr.add_lit, Nat.zero_add]
      rw [List.getElem?_take] at hj
      split at hj
      · exact (hcell j (by omega)).trans hj
      · cases hj)
  have hik : i + (n + 1 - i) = n + 1 := by omega
  have hrz : ∀ ty, (Builtin.append_ #[62, 3] ty #[.slice (some ⟨g, 0, none⟩) i cap, .int .i64 ((n : Int) + 1 - (i : Int))]).run Try.prog w =
      .ok (.slice (some ⟨w.heap.size, 0, none⟩) (n + 1) (grownCap w (n + 1) cap 68)) (w.drew.alloc (.cells (((cellsV xs).take (i * 2)).toArray ++ Builtin.zeroCells (Value.agg #[.int .u32 0, .int .i64 0]).cells (n + 1 - i) ++ Builtin.zeroCells (Value.agg #[.int .u32 0, .int .i64 0]).cells (grownCap w (n + 1) cap 68 - (n + 1))) 68)) := fun ty => by
    have h := Lib.run_append_grow_zeros w 62 3 ty 68 i0 _ .i64 .i64 Try.underlying62 Try.underlying3 hi0 hz0 (some ⟨g, 0, none⟩) i cap ((cellsV xs).take (i * 2)) hold (n + 1 - i) (by omega) (by omega) (by omega) (by omega) (by rw [hzb]; omega) (by rw [hzb, hik]; exact growslice_fits hroom (by omega))
    rw [hik] at h
    rw [show (n : Int) + 1 - (i : Int) = ((n + 1 - i : Nat) : Int) by omega]
    exact h
  obtain ⟨G, hG⟩ : ∃ G, G = grownCap w (n + 1) cap 68 := ⟨_, rfl⟩
  rw [← hG] at hrz
  obtain ⟨ROW, hROW⟩ : ∃ ROW : Array Value, ROW = ((cellsV xs).take (i * 2)).toArray ++ Builtin.zeroCells (Value.agg #[.int .u32 0, .int .i64 0]).cells (n + 1 - i) ++ Builtin.zeroCells (Value.agg #[.int .u32 0, .int .i64 0]).cells (G - (n + 1)) := ⟨_, rfl⟩
  rw [← hROW] at hrz
  have hGn : n + 1 ≤ G := by rw [hG]; exact grownCap_ge w _ _ _
  have hGm : G ≤ maxLen := by rw [hG]; exact grownCap_le_maxLen w (n + 1) cap 68 (by unfold maxLen; omega)
  have hRs : ROW.size = G * 2 := by
    rw [hROW]
    simp [Builtin.zeroCells, Value.cells, h1]
    omega
  have hR0 : ∀ j, j < i * 2 → ROW.toList[j]? = (cellsV xs)[j]? := fun j hj => by
    rw [hROW]
    simp only [Array.toList_append, List.append_assoc]
    rw [List.getElem?_append_left (by rw [List.length_take, h1]; omega), List.getElem?_take, if_pos hj]
  obtain ⟨W1, hW1⟩ : ∃ W1, W1 = w.drew.alloc (.cells ROW 68) := ⟨_, rfl⟩
  rw [← hW1] at hrz
  have hown1 : W1.ownsRow base 68 2 (.slice (some ⟨w.heap.size, 0, none⟩) (n + 1) G) (n + 1) (ROW.toList.take ((n + 1) * 2)) := by
    rw [hW1]
    refine ⟨by rw [List.length_take, Array.length_toList, hRs]; omega, .inr ⟨w.heap.size, G, ROW, rfl, hb, heap_alloc_new w.drew _, hGn, hGm, hRs, rfl⟩⟩
  have hN : ∀ j, j < (n + 1) * 2 → (W1.cell? ⟨w.heap.size, j, none⟩).isSome = true := fun j hj => by rw [hown1.cellAt j hj, List.getElem?_eq_getElem (by rw [hown1.1]; exact hj)]; rfl
  have hNf : ∀ j, W1.frozen? ⟨w.heap.size, j, none⟩ = false := fun j => hown1.frozenAt j
  have hOb : ∀ (b : Nat), b < w.heap.size → ∀ j, W1.cell? ⟨b, j, none⟩ = w.cell? ⟨b, j, none⟩ := fun b hbw j => by rw [hW1]; exact World.cell?_alloc_lt w.drew _ ⟨b, j, none⟩ hbw
  have hcpA : ∀ (W : World), (∀ x, W.cell? x = W1.cell? x) → (∀ x, W.frozen? x = W1.frozen? x) → ∀ ty dc, (Builtin.copy_ #[62, 62] ty #[.slice (some ⟨w.heap.size, i * 2, none⟩) (n + 1 - i) dc, .slice (some ⟨h, 0, none⟩) 1 1]).run Try.prog W = .ok (goInt 1) (W.setCells w.heap.size (i * 2) [.int .u32 u.user, .int .i64 u.slot]) := fun W hWc hWf ty dc => by
    have hm1 : Nat.min 1 (n + 1 - i) = 1 := by simp only [Nat.min_def]; split <;> omega
    have := run_copy_wide (P := Try.prog) W 62 62 ty 68 2 w.heap.size (i * 2) (n + 1 - i) dc ⟨h, 0, none⟩ 1 1 [.int .u32 u.user, .int .i64 u.slot] Try.underlying62 size68 (by rw [hm1]; rfl)
      (fun j v hj => by rw [Addr.add_lit, hWc, hOb h hhw, cell_of_row _ _ _ _ _ _ hu, Nat.zero_add]; simpa using hj)
      (fun j hj => by rw [hWc]; exact hN _ (by simp at hj; omega)) (fun j hj => by rw [hWf]; exact hNf _) (cellsV_one [u])
    rw [hm1] at this
    exact this
  have h2 : ((cellsV xs).drop (i * 2)).length = (n - i) * 2 := by rw [List.length_drop, h1]; omega
  have hcpB : ∀ (W : World), (∀ x, W.cell? x = (W1.setCells w.heap.size (i * 2) [.int .u32 u.user, .int .i64 u.slot]).cell? x) → (∀ x, W.frozen? x = W1.frozen? x) → ∀ ty dc sc, (Builtin.copy_ #[62, 62] ty #[.slice (some ⟨w.heap.size, (i + 1) * 2, none⟩) (n - i) dc, .slice (some ⟨g, i * 2, none⟩) (n - i) sc]).run Try.prog W = .ok (goInt ((n - i : Nat) : Int)) (W.setCells w.heap.size ((i + 1) * 2) ((cellsV xs).drop (i * 2))) := fun W hWc hWf ty dc sc => by
    have hm1 : Nat.min (n - i) (n - i) = n - i := Nat.min_self _
    have := run_copy_wide (P := Try.prog) W 62 62 ty 68 2 w.heap.size ((i + 1) * 2) (n - i) dc ⟨g, i * 2, none⟩ (n - i) sc ((cellsV xs).drop (i * 2)) Try.underlying62 size68 (by rw [hm1, h2])
      (fun j v hj => by
        rw [Addr.add_lit, hWc, World.cell?_setCells_out _ _ _ _ _ (fun e => absurd e (by show g ≠ w.heap.size; omega)), hOb g hgw]
        rw [List.getElem?_drop] at hj
        exact (hcell (i * 2 + j) (by have := (List.getElem?_eq_some_iff.1 hj).1; omega)).trans hj)
      (fun j hj => by rw [hWc]; exact isSome_setCells _ _ _ _ (fun t ht => hN _ (by simp at ht; omega)) _ (hN _ (by omega))) (fun j hj => by rw [hWf]; exact hNf _) (fun v hv => cellsV_one xs v (List.mem_of_mem_drop hv))
    rw [hm1] at this
    exact this
  have HO1 := Lib.hid hown1
  have HBL := Lib.hid (show Below base w W1 by rw [hW1]; exact (Below.refl _ _).drew.alloc hb _)
  have HF := Lib.hid (grow_cells xs (ROW.toList.take ((n + 1) * 2)) i n u hl (by omega) hown1.1 (fun j hj => by rw [List.getElem?_take, if_pos (by omega)]; exact hR0 j hj))
  have hG63 : G ≤ 9223372036854775807 := by unfold maxLen at hGm; omega
  have hbi : ((i : Int) == (n : Int)) = false := by simp; omega
  have hrm : (cap : Int) < (n : Int) + 1 := by omega
  have hin : i ≤ n := by omega
  have hic : i ≤ cap := by omega
  have hGi : ¬ (G = i) := by omega
  have hGim : ¬ (G = i + 1) := by omega
  have hci : ¬ (cap = i) := by omega
  have hw1 : IntKind.i64.wrap ((i : Int) + 1) = (i : Int) + 1 := by rw [IntKind.wrap_i64]; omega
  have hib : (0 : Int) ≤ (i : Int) + 1 := by omega
  have hb3 : (i : Int) ≤ (n : Int) + 1 := by omega
  have htn : ((i : Int) + 1).toNat = i + 1 := by omega
  have hi1 : (i : Int) + 1 ≤ (n : Int) + 1 := by omega
  have HW1 := Lib.hid hW1
  have HBs := Lib.hid hb
  have hE1 : ∀ x, ((w.alloc (.cells ROW 68)).drew).cell? x = W1.cell? x := fun x => by rw [hW1]; rfl
  have hE2 : ∀ x, ((w.alloc (.cells ROW 68)).drew).frozen? x = W1.frozen? x := fun x => by rw [hW1]; rfl
  have HF1 := Lib.hid (hcpB (W1.setCells w.heap.size (i * 2) [.int .u32 u.user, .int .i64 u.slot]).drew (fun x => rfl) (fun x => World.frozen?_setCells _ _ _ W1 x))
  clear hcpB
  clear hown1 hcell hN hNf hOb hu hl hR0 hRs hROW hG h1 h2 hold hik hGn hGm hW1 hb hown
  go_enter Try.func25, Try.ntmps25
  go_wp2_with (first
    | (at_builtin; refine Lib.wpList_append_run _ rfl _ _ _ _ rfl _ _ rfl rfl _ _ (hrz _) ?_)
    | (refine wpList_copy_runI _ rfl _ _ 62 62 rfl _ _ rfl rfl (hcpA _ (fun _ => rfl) (fun _ => rfl) _ _) ?_))
  go_region_law_o (refine step_copy_runI rfl _ _ 62 62 rfl (.slice (some ⟨w.heap.size, (i + 1) * 2, none⟩) (n - i) (G - (i + 1))) (.slice (some ⟨g, i * 2, none⟩) (n - i) (cap - i)) (by simp [Act.eval, Act.put]) (by simp [Act.eval, Act.put]) (HF1.out 3 (G - (i + 1)) (cap - i)) ?_)
  go_wp2
  go_ret
  refine ⟨G, rfl, ?_, Below.setCells HBs.out _ _ _ (Below.setCells HBs.out _ _ _ HBL.out).drew⟩
  rw [← HF.out]
  exact ownsRow_setCells _ ((i + 1) * 2) _ _ (ownsRow_setCells _ (i * 2) W1 _ HO1.out).drew
end Go.Proofs.Ytcleicjgeflbnaa
