/- The walk of slices.Insert of one vote into a row of one's own that has room. Conditions: at most a thousand votes; the new one lies in a block of its own. -/
import Derived.Test.YtcleicjgeflbnaaG35
import Derived.Test.YtcleicjgeflbnaaG36
namespace Go.Proofs.Ytcleicjgeflbnaa
open Go.RowKit Go.ChangeShapes Go.WideShapes Go.Deep Go.Shelf

theorem cellsV_put (xs : List VoteD) (i : Nat) (u : VoteD) : cellsV (putAt xs i u) = (cellsV xs).take (i * 2) ++ .int .u32 u.user :: .int .i64 u.slot :: (cellsV xs).drop (i * 2) := by
  rw [putAt, cellsV_append, cellsV_cons, cellsV_take, cellsV_drop]

theorem ownsRow_more {w : World} {base : Nat} {e : TypeId} {size g n cap : Nat} {xs : List Value} (h : w.ownsRow base e size (.slice (some ⟨g, 0, none⟩) n cap) n xs) (hc : n + 1 ≤ cap) :
    ∃ ys, w.ownsRow base e size (.slice (some ⟨g, 0, none⟩) (n + 1) cap) (n + 1) (xs ++ ys) := by
  rcases h.2 with ⟨e, _⟩ | ⟨g', cap', cur, e, hb, hg, h1, h2, h3, h4⟩
  · simp at e
  · simp only [Value.slice.injEq, Option.some.injEq, Addr.mk.injEq, and_true, true_and] at e
    obtain ⟨rfl, rfl⟩ := e
    have hle : (n + 1) * size ≤ cap * size := Nat.mul_le_mul_right _ hc
    refine ⟨(cur.toList.take ((n + 1) * size)).drop (n * size), ?_, .inr ⟨g, cap, cur, rfl, hb, hg, hc, h2, h3, ?_⟩⟩
    · rw [List.length_append, h.1, List.length_drop, List.length_take, Array.length_toList, h3, Nat.min_eq_left hle, Nat.add_mul]; omega
    · rw [← h4, show cur.toList.take (n * size) = (cur.toList.take ((n + 1) * size)).take (n * size) by rw [List.take_take, Nat.min_eq_left (by rw [Nat.add_mul]; omega)], List.take_append_drop]

theorem insert_cells (xs : List VoteD) (ys : List Value) (i n : Nat) (u : VoteD) (hl : xs.length = n) (hi : i ≤ n) (hy : (cellsV xs ++ ys).length = (n + 1) * 2) :
    setL (setL (cellsV xs ++ ys) ((i + 1) * 2) ((cellsV xs).drop (i * 2))) (i * 2) [.int .u32 u.user, .int .i64 u.slot] = cellsV (putAt xs i u) := by
  have h1 : (cellsV xs).length = n * 2 := by rw [cellsV_length, hl]
  have h2 : ((cellsV xs).drop (i * 2)).length = (n - i) * 2 := by rw [List.length_drop, h1]; omega
  rw [cellsV_put]
  have hz : ∀ j, j < n * 2 → (cellsV xs ++ ys)[j]? = (cellsV xs)[j]? := fun j hj => List.getElem?_append_left (by omega)
  generalize cellsV xs ++ ys = zs at hy hz ⊢
  apply List.ext_getElem?
  intro j
  rw [setL_get _ _ _ _ (by rw [setL_length, hy]; simp; omega), setL_get _ _ _ _ (by rw [hy, h2]; omega), h2]
  simp only [List.length_cons, List.length_nil]
  by_cases c1 : j < i * 2
  · rw [if_neg (by omega), if_neg (by omega), hz j (by omega), List.getElem?_append_left (by rw [List.length_take, h1]; omega), List.getElem?_take, if_pos c1]
  · rw [List.getElem?_append_right (by rw [List.length_take, h1]; omega), List.length_take, h1, Nat.min_eq_left (by omega)]
    by_cases c2 : j < i * 2 + 2
    · rw [if_pos (by omega)]
      obtain e | e : j - i * 2 = 0 ∨ j - i * 2 = 1 := by omega
      · rw [e]; rfl
      · rw [e]; rfl
    · rw [if_neg (by omega), show j - i * 2 = (j - i * 2 - 2) + 1 + 1 by omega, List.getElem?_cons_succ, List.getElem?_cons_succ]
      by_cases c3 : j < (n + 1) * 2
      · rw [if_pos (by omega)]
        congr 1; omega
      · rw [if_neg (by omega), List.getElem?_eq_none (by omega), List.getElem?_eq_none (by omega)]
end Go.Proofs.Ytcleicjgeflbnaa
