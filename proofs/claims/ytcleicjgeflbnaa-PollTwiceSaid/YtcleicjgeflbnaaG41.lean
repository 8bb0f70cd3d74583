/- slices.Insert of one vote into a row of one's own, wherever, whatever the room. Conditions: at most a thousand votes; the new one lies in a block of its own. -/
import Derived.Test.YtcleicjgeflbnaaG40
namespace Go.Proofs.Ytcleicjgeflbnaa
open Go.RowKit Go.ChangeShapes Go.WideShapes Go.Deep

theorem putAt_end (xs : List VoteD) (u : VoteD) : putAt xs xs.length u = xs ++ [u] := by simp [putAt]

theorem insertV (v : Value) (n h i base : Nat) (xs : List VoteD) (u : VoteD) (w : World) (hown : w.ownsRow base 68 2 v n (cellsV xs)) (hl : xs.length = n) (hi : i ≤ n) (hn : n ≤ 1000) (hb : base ≤ w.heap.size) (hh : v.ownBlock ≠ some h)
    (hu : w.heap[h]? = some (.cells #[.int .u32 u.user, .int .i64 u.slot] 68 (0, 0))) :
    Calls Try.prog 25 #[v, .int .i64 (i : Int), .slice (some ⟨h, 0, none⟩) 1 1] w fun e w' => ∃ v', e = .returned v' ∧ w'.ownsRow base 68 2 v' (n + 1) (cellsV (putAt xs i u)) ∧ Below base w w' := by
  have hown' := hown
  rcases hown.2 with ⟨rfl, rfl⟩ | ⟨g, cap, cur, rfl, hbg, hg, h1, h2, h3, _⟩
  · obtain rfl : i = 0 := by omega
    obtain rfl : xs = [] := List.eq_nil_of_length_eq_zero hl
    exact insertV_end_nil h u base w hb hu
  · have hgh : h ≠ g := fun e => hh (by rw [e]; rfl)
    by_cases hin : i = n
    · subst hin
      rw [← hl, putAt_end, hl]
      exact insertV_end g _ cap h xs u base w hown' hn hb hu
    · by_cases hroom : n + 1 ≤ cap
      · refine (insertV_room g n cap h i base xs u w hown' hl (by omega) hroom hn hgh hu).mono ?_
        rintro e w' ⟨rfl, ho, hbl⟩
        exact ⟨_, rfl, ho, hbl.mono hbg⟩
      · refine (insertV_grow g n cap h i base xs u w hown' hl (by omega) (by omega) hn hb hu).mono ?_
        rintro e w' ⟨G, rfl, ho, hbl⟩
        exact ⟨_, rfl, ho, hbl⟩
end Go.Proofs.Ytcleicjgeflbnaa
