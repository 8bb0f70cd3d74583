/- The law's fixed: the chapter's example. Conditions: the tables are laid, the errors of strconv lie in their boxes. -/
import Derived.Test.YtcleicjgeflbnaaGreatDoorV12
namespace Go.Proofs.YtcleicjgeflbnaaGreatDoor
open Go.RowKit Go.ChangeShapes Go.WideShapes Go.Deep
set_option linter.all false

set_option maxRecDepth 100000 in
set_option maxHeartbeats 8000000 in
theorem fixed_any (w : World) (hL : Laid w) (hE : Errs w) : Calls Tryz.prog 7 #[] w fun e w' => e = .returned (.bool true) ∧ Below w.heap.size w w' := by
  have R := Lib.hid (callsIn_wide.1 (readEx_in w hL hE))
  clear hL hE
  go_enter Tryz.func7, Tryz.ntmps7
  go_wp2_with (go_at_call 8; ((with_reducible refine R.out.mono ?_); rintro e w1 ⟨v, rfl, hb, ho⟩
                              have HB := Lib.hid hb
                              have HC := Lib.hid ho
                              obtain ⟨g, cap, rfl, hg1, hg2⟩ : ∃ g cap, v = .slice (some ⟨g, 0, none⟩) 1 cap ∧ 1 ≤ cap ∧ g < w1.heap.size := by
                                obtain ⟨_, h2 | ⟨g, cap, cur, e2, a1, a2, a3, _⟩⟩ := ho
                                · exact absurd h2.2 (by omega)
                                · exact ⟨g, cap, e2, a3, (Array.getElem?_eq_some_iff.1 a2).1⟩
                              have c0 : w1.cell? ⟨g, 0, none⟩ = some (.int .i64 (-1)) := HC.out.cells (g := g) rfl 0 _ rfl
                              have c1 : w1.cell? ⟨g, 1, none⟩ = some (.int .i64 4) := HC.out.cells (g := g) rfl 1 _ rfl
                              clear hb ho))
  go_ret
  exact ⟨rfl, belowA _ HB.out⟩
end Go.Proofs.YtcleicjgeflbnaaGreatDoor
