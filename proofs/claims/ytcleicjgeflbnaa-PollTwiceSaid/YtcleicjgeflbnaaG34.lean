/- The walk of slices.Delete of one vote out of a row of one's own. Conditions: it is there, there are at most a thousand. -/
import Derived.Test.YtcleicjgeflbnaaG33
import Derived.Test.YtcleicjgeflbnaaG23
import Derived.Shelf.RegionOpenPlain
import Derived.Deep.RegionLaw
namespace Go.Proofs.Ytcleicjgeflbnaa
open Go.RowKit Go.ChangeShapes Go.WideShapes Go.Deep Go.Shelf

theorem ownsRow_prefix {w : World} {base : Nat} {e : TypeId} {size g n cap m : Nat} {xs : List Value} (h : w.ownsRow base e size (.slice (some ⟨g, 0, none⟩) n cap) n xs) (hm : m ≤ n) :
    w.ownsRow base e size (.slice (some ⟨g, 0, none⟩) m cap) m (xs.take (m * size)) := by
  have hle : m * size ≤ n * size := Nat.mul_le_mul_right _ hm
  refine ⟨by rw [List.length_take, h.1]; omega, ?_⟩
  rcases h.2 with ⟨e, _⟩ | ⟨g', cap', cur, e, hb, hg, h1, h2, h3, h4⟩
  · simp at e
  · simp only [Value.slice.injEq, Option.some.injEq, Addr.mk.injEq, and_true, true_and] at e
    obtain ⟨rfl, rfl⟩ := e
    refine .inr ⟨g, cap, cur, rfl, hb, hg, by omega, h2, h3, ?_⟩
    rw [← h4, List.take_take, Nat.min_eq_left hle]

theorem zero68 (w : World) : (zeroValue 68).run Try.prog w = .ok (.agg #[.int .u32 0, .int .i64 0]) w := by kernel_rfl

theorem delete_cells (xs : List VoteD) (i n : Nat) (hl : xs.length = n) (hi : i < n) :
    (setL (setL (cellsV xs) (i * 2) (cellsV (xs.drop (i + 1)))) ((n - 1) * 2) [.int .u32 0, .int .i64 0]).take ((n - 1) * 2) = cellsV (xs.eraseIdx i) := by
  have h1 : (cellsV xs).length = n * 2 := by rw [cellsV_length, hl]
  have h2 : (cellsV (xs.drop (i + 1))).length = (n - (i + 1)) * 2 := by rw [cellsV_length, List.length_drop, hl]
  have e : cellsV (xs.eraseIdx i) = (cellsV xs).take (i * 2) ++ (cellsV xs).drop ((i + 1) * 2) := by
    rw [List.eraseIdx_eq_take_drop_succ, cellsV_append, cellsV_take, cellsV_drop]
  rw [e]
  apply List.ext_getElem?
  intro j
  rw [List.getElem?_take]
  by_cases hj : j < (n - 1) * 2
  · rw [if_pos hj, setL_get _ _ _ _ (by rw [setL_length, h1]; simp; omega), if_neg (by omega), setL_get _ _ _ _ (by rw [h1, h2]; omega), h2]
    by_cases hji : j < i * 2
    · rw [if_neg (by omega), List.getElem?_append_left (by rw [List.length_take, h1]; omega), List.getElem?_take, if_pos hji]
    · rw [if_pos (by omega), List.getElem?_append_right (by rw [List.length_take, h1]; omega), cellsV_drop, List.length_take, h1]
      congr 2
      omega
  · rw [if_neg hj, List.getElem?_eq_none (by rw [List.length_append, List.length_take, List.length_drop, h1]; omega)]

set_option maxHeartbeats 4000000 in
set_option maxRecDepth 1000000 in
theorem deleteV (g n cap i base : Nat) (xs : List VoteD) (w : World) (hown : w.ownsRow base 68 2 (.slice (some ⟨g, 0, none⟩) n cap) n (cellsV xs)) (hl : xs.length = n) (hi : i < n) (hn : n ≤ 1000) :
    Calls Try.prog 26 #[.slice (some ⟨g, 0, none⟩) n cap, .int .i64 (i : Int), .int .i64 ((i : Int) + 1)] w fun e w' => e = .returned (.slice (some ⟨g, 0, none⟩) (n - 1) cap) ∧
      w'.ownsRow base 68 2 (.slice (some ⟨g, 0, none⟩) (n - 1) cap) (n - 1) (cellsV (xs.eraseIdx i)) ∧ Below g w w' := by
  obtain ⟨i0, hi0, hz0, hz1, hz2⟩ := info_parts info68
  have mixed : Try.prog.follows .mixedOrders = true := by kernel_rfl
  have hcap : n ≤ cap ∧ cap ≤ maxLen := by
    rcases hown.2 with ⟨e, _⟩ | ⟨g', cap', cur, e, _, _, h1, h2, _⟩
    · simp at e
    · simp only [Value.slice.injEq, Option.some.injEq, Addr.mk.injEq, and_true, true_and] at e
      obtain ⟨rfl, rfl⟩ := e
      exact ⟨h1, h2⟩
  obtain ⟨hnc, hcm⟩ := hcap
  have hc63 : cap ≤ 9223372036854775807 := by unfold maxLen at hcm; omega
  have h1 : (cellsV xs).length = n * 2 := by rw [cellsV_length, hl]
  obtain ⟨news, hnews⟩ : ∃ news, news = cellsV (xs.drop (i + 1)) := ⟨_, rfl⟩
  have hlen : news.length = (n - (i + 1)) * 2 := by rw [hnews, cellsV_length, List.length_drop, hl]
  have hcell : ∀ j, j < n * 2 → w.cell? ⟨g, j, none⟩ = (cellsV xs)[j]? := fun j hj => hown.cellAt j hj
  have hsome : ∀ j, j < n * 2 → (w.cell? ⟨g, j, none⟩).isSome = true := fun j hj => by rw [hcell j hj, List.getElem?_eq_getElem (by omega)]; rfl
  have hfz : ∀ j, w.frozen? ⟨g, j, none⟩ = false := fun j => hown.frozenAt j
  obtain ⟨A, hA, hsrc⟩ : ∃ A : Addr, (if cap = i + 1 then some (⟨g, 0, none⟩ : Addr) else some ⟨g, (i + 1) * 2, none⟩) = some A ∧ Hid (∀ t u, news[t]? = some u → w.drew.cell? (A.add t) = some u) := by
    by_cases h : cap = i + 1
    · refine ⟨⟨g, 0, none⟩, by simp [h], fun t u hu => ?_⟩
      have h0 : news.length = 0 := by rw [hlen]; omega
      rw [List.length_eq_zero_iff.1 h0] at hu
      simp at hu
    · refine ⟨⟨g, (i + 1) * 2, none⟩, by simp [h], fun t u hu => ?_⟩
      have ht : t < (n - (i + 1)) * 2 := by
        have := (List.getElem?_eq_some_iff.1 hu).1
        rwa [hlen] at this
      rw [hnews, cellsV_drop, List.getElem?_drop] at hu
      rw [Addr.add_lit]
      exact (hcell ((i + 1) * 2 + t) (by omega)).trans hu
  have s1 : Hid (news.length = (n - (i + 1)) * 2) := hlen
  have s2 : Hid (∀ u ∈ news, u.oneCell' = true) := by rw [hnews]; exact cellsV_one _
  have s3 : Hid (∀ t, t < news.length → (w.drew.cell? ⟨g, 0 + i * 2 + t, none⟩).isSome = true ∧ w.drew.frozen? ⟨g, 0 + i * 2 + t, none⟩ = false) := by
    intro t ht
    rw [hlen] at ht
    rw [Nat.zero_add]
    exact ⟨hsome (i * 2 + t) (by omega), hfz _⟩
  obtain ⟨W1, hW1⟩ : ∃ W1, W1 = w.drew.setCells g (0 + i * 2) news := ⟨_, rfl⟩
  have hown1 : W1.ownsRow base 68 2 (.slice (some ⟨g, 0, none⟩) n cap) n (setL (cellsV xs) (i * 2) news) := by
    rw [hW1, Nat.zero_add]
    exact ownsRow_setCells news (i * 2) w.drew _ hown.drew
  have hcl1 : ∀ ty c, (Builtin.clear_ #[62] ty #[.slice (some ⟨g, (n - 1) * 2, none⟩) 1 c]).run Try.prog W1 = .ok (.tuple #[]) (W1.setCells g ((n - 1) * 2) [.int .u32 0, .int .i64 0]) :=
    fun ty c => run_clear_one W1 62 68 ty #[.int .u32 0, .int .i64 0] Try.underlying62 zero68 (by simp [Value.oneCell']) g ((n - 1) * 2) c
      (fun j hj => by rw [hown1.cellAt _ (by simp at hj; omega), List.getElem?_eq_getElem (by rw [setL_length, h1]; simp at hj; omega)]; rfl) (fun j _ => hown1.frozenAt _)
  have hcl : ∀ ty c, (Builtin.clear_ #[62] ty #[.slice (some ⟨g, (n - 1) * 2, none⟩) (n - (n - 1)) c]).run Try.prog W1 = .ok (.tuple #[]) (W1.setCells g ((n - 1) * 2) [.int .u32 0, .int .i64 0]) := fun ty c => by
    rw [show n - (n - 1) = 1 by omega]
    exact hcl1 ty c
  clear hcl1
  have HO1 := Lib.hid hown1
  have hbel : Below g w W1 := by rw [hW1]; exact Below.setCells (Nat.le_refl g) _ _ _ (Below.refl _ _).drew
  have HBL := Lib.hid hbel
  have HF := Lib.hid (delete_cells xs i n hl hi)
  have HN := Lib.hid hnews
  have hW : Hid (W1 = w.drew.setCells g (0 + i * 2) news) := hW1
  have hn1 : i + (n - (i + 1)) = n - 1 := by omega
  have hb1 : ((i : Int) == (i : Int) + 1) = false := by simp; omega
  have hi1 : (i : Int) + 1 ≤ (n : Int) := by omega
  have hic : i ≤ cap := by omega
  have hjc : i + 1 ≤ cap := by omega
  have hic' : (i : Int) ≤ (cap : Int) := by omega
  have htn : ((i : Int) + 1).toNat = i + 1 := by omega
  have hib : (0 : Int) ≤ (i : Int) + 1 := by omega
  clear hW1 hown1 hbel hcell hsome hfz hown hnews hlen h1
  go_enter Try.func26, Try.ntmps26
  go_wp2_with fail
  go_region_law_o (refine step_append_room rfl (.tmp 22) (.tmp 25) 62 rfl 68 i0 2 Try.underlying62 hi0 hz1 g 0 i cap (by simp [Act.eval, Act.put]) A (n - (i + 1)) (cap - (i + 1)) news (by simp [Act.eval, Act.put]) s1.out hsrc.out s2.out (by omega) s3.out ?_; rw [← hW.out])
  go_wp2
  go_ret
  refine ⟨rfl, ?_, Below.setCells (Nat.le_refl g) _ _ _ HBL.out⟩
  rw [← HF.out, ← HN.out]
  exact ownsRow_prefix (ownsRow_setCells _ ((n - 1) * 2) W1 _ HO1.out) (by omega)
end Go.Proofs.Ytcleicjgeflbnaa
