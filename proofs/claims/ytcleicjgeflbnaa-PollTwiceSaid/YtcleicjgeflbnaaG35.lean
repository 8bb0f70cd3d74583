/- The walk of slices.Insert of one vote into a row of one's own. Conditions: at most a thousand votes. -/
import Derived.Test.YtcleicjgeflbnaaG34
import Derived.Shelf.Spec.SlicesInsertGrow
namespace Go.Proofs.Ytcleicjgeflbnaa
open Go.RowKit Go.ChangeShapes Go.WideShapes Go.Deep Go.Shelf

theorem insertV_end_nil (h : Nat) (u : VoteD) (base : Nat) (w : World) (hb : base ≤ w.heap.size) (hu : w.heap[h]? = some (.cells #[.int .u32 u.user, .int .i64 u.slot] 68 (0, 0))) :
    Calls Try.prog 25 #[.slice none 0 0, .int .i64 0, .slice (some ⟨h, 0, none⟩) 1 1] w fun e w' => ∃ v, e = .returned v ∧ w'.ownsRow base 68 2 v 1 (cellsV [u]) ∧ Below base w w' := by
  obtain ⟨i0, hi0, hz0, hz1, hz2⟩ := info_parts info68
  have HU := Lib.hid hu; have HBs := Lib.hid hb
  have HO := Lib.hid (World.ownsRow_nil w base 68 2)
  clear hu
  go_enter Try.func25, Try.ntmps25
  go_wp2_with (at_builtin; refine wpList_append_own w rfl (.tmp 23) (.tmp 24) 62 rfl base 68 i0 _ 2 16 Try.underlying62 hi0 hz0 hz1 hz2 rfl (by decide) (.slice none 0 0) 0 [] rfl HO.out ⟨h, 0, none⟩ 1 1 [.int .u32 u.user, .int .i64 u.slot] rfl (by rfl) ?c1 (cellsV_one [u]) ?c3 ?c4 ?c5 ?_)
  case c1 =>
    intro j y hy
    have hadd : (⟨h, 0, none⟩ : Addr).add j = ⟨h, j, none⟩ := by unfold Addr.add; split <;> simp_all
    rw [hadd, cell_of_row _ _ _ _ _ _ HU.out]; simpa using hy
  case c3 => unfold maxLen; omega
  case c4 => omega
  case c5 => exact HBs.out
  intro v' w2 hown' hgrow hnil
  have hb : Below base w w2 := (Below.refl _ _).grown hgrow HBs.out (fun k hk => by simp [Value.ownBlock] at hk)
  have HB := Lib.hid hb
  have HO' := Lib.hid hown'
  clear hb hown' hnil hgrow
  go_wp2
  go_ret
  exact ⟨v', rfl, HO'.out, HB.out⟩

set_option maxRecDepth 100000 in
theorem insertV_end (g n cap h : Nat) (xs : List VoteD) (u : VoteD) (base : Nat) (w : World) (hown : w.ownsRow base 68 2 (.slice (some ⟨g, 0, none⟩) n cap) n (cellsV xs)) (hn : n ≤ 1000) (hb : base ≤ w.heap.size)
    (hu : w.heap[h]? = some (.cells #[.int .u32 u.user, .int .i64 u.slot] 68 (0, 0))) :
    Calls Try.prog 25 #[.slice (some ⟨g, 0, none⟩) n cap, .int .i64 (n : Int), .slice (some ⟨h, 0, none⟩) 1 1] w fun e w' => ∃ v, e = .returned v ∧ w'.ownsRow base 68 2 v (n + 1) (cellsV (xs ++ [u])) ∧ Below base w w' := by
  obtain ⟨i0, hi0, hz0, hz1, hz2⟩ := info_parts info68
  have hcap : n ≤ cap ∧ cap ≤ maxLen := by
    rcases hown.2 with ⟨e, _⟩ | ⟨g', cap', cur, e, _, _, h1, h2, _⟩
    · simp at e
    · simp only [Value.slice.injEq, Option.some.injEq, Addr.mk.injEq, and_true, true_and] at e
      obtain ⟨rfl, rfl⟩ := e
      exact ⟨h1, h2⟩
  obtain ⟨hnc, hcm⟩ := hcap
  have hc63 : cap ≤ 9223372036854775807 := by unfold maxLen at hcm; omega
  have hgb := (hown.lt g rfl).1
  have HG := Lib.hid hgb
  have HU := Lib.hid hu; have HBs := Lib.hid hb
  have HO := Lib.hid hown
  have hnn : (n : Int) ≤ (n : Int) := Int.le_refl _
  clear hu hown hgb
  by_cases hcn : n = cap
  · subst hcn
    go_enter Try.func25, Try.ntmps25
    go_wp2_with (at_builtin; refine wpList_append_own w rfl (.tmp 23) (.tmp 24) 62 rfl base 68 i0 _ 2 16 Try.underlying62 hi0 hz0 hz1 hz2 rfl (by decide) (.slice (some ⟨g, 0, none⟩) n n) n (cellsV xs) rfl HO.out ⟨h, 0, none⟩ 1 1 [.int .u32 u.user, .int .i64 u.slot] rfl (by rfl) ?c1x (cellsV_one [u]) ?c3x ?c4x ?c5x ?_)
    case c1x =>
      intro j y hy
      have hadd : (⟨h, 0, none⟩ : Addr).add j = ⟨h, j, none⟩ := by unfold Addr.add; split <;> simp_all
      rw [hadd, cell_of_row _ _ _ _ _ _ HU.out]; simpa using hy
    case c3x => unfold maxLen; omega
    case c4x => omega
    case c5x => exact HBs.out
    intro v' w2 hown' hgrow hnil
    have hb : Below base w w2 := (Below.refl _ _).grown hgrow HBs.out (fun k hk => by simp [Value.ownBlock] at hk; have := HG.out; omega)
    have HB := Lib.hid hb
    have HO' := Lib.hid hown'
    clear hb hown' hnil hgrow
    go_wp2
    go_ret
    exact ⟨v', rfl, by rw [cellsV_append]; exact HO'.out, HB.out⟩
  · have hcn' : ¬ cap = n := fun e => hcn e.symm
    go_enter Try.func25, Try.ntmps25
    go_wp2_with (at_builtin; refine wpList_append_own w rfl (.tmp 23) (.tmp 24) 62 rfl base 68 i0 _ 2 16 Try.underlying62 hi0 hz0 hz1 hz2 rfl (by decide) (.slice (some ⟨g, 0, none⟩) n cap) n (cellsV xs) rfl HO.out ⟨h, 0, none⟩ 1 1 [.int .u32 u.user, .int .i64 u.slot] rfl (by rfl) ?c1y (cellsV_one [u]) ?c3y ?c4y ?c5y ?_)
    case c1y =>
      intro j y hy
      have hadd : (⟨h, 0, none⟩ : Addr).add j = ⟨h, j, none⟩ := by unfold Addr.add; split <;> simp_all
      rw [hadd, cell_of_row _ _ _ _ _ _ HU.out]; simpa using hy
    case c3y => unfold maxLen; omega
    case c4y => omega
    case c5y => exact HBs.out
    intro v' w2 hown' hgrow hnil
    have hb : Below base w w2 := (Below.refl _ _).grown hgrow HBs.out (fun k hk => by simp [Value.ownBlock] at hk; have := HG.out; omega)
    have HB := Lib.hid hb
    have HO' := Lib.hid hown'
    clear hb hown' hnil hgrow
    go_wp2
    go_ret
    exact ⟨v', rfl, by rw [cellsV_append]; exact HO'.out, HB.out⟩
end Go.Proofs.Ytcleicjgeflbnaa
