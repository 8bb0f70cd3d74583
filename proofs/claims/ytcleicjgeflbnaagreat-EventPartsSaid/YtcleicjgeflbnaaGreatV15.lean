/- ref.Great. No condition. -/
import Derived.Test.YtcleicjgeflbnaaGreatE0
namespace Go.Proofs.YtcleicjgeflbnaaGreat
open Go.RowKit Go.ChangeShapes Go.WideShapes Go.Deep
set_option linter.all false

def greatR (r : RuleD) : Prop := 100 < r.byMonth.length ∨ 100 < r.byMonthDay.length ∨ 200 < r.byDay.length ∨ 900 < r.bySetPos.length
theorem few_of {r : RuleD} (h : ¬ greatR r) : fewR r := by
  unfold greatR at h
  exact ⟨by omega, by omega, by omega, by omega⟩
set_option maxRecDepth 100000 in
set_option maxHeartbeats 8000000 in
theorem great_any (cs : List Value) (r : RuleD) (w : World) (h : rRule w cs r) :
    Calls Tryz.prog 19 #[.agg cs.toArray] w fun e w' => e = .returned (.bool (dec (greatR r))) ∧ Below w.heap.size w w' := by
  obtain ⟨m, d, y, p, rfl, -, -, -, -, -, hmm, hd, hy, hp⟩ := h
  obtain ⟨om, nm, cm, rfl, lm, -, -, RM⟩ := hmm.open
  obtain ⟨od, nd, cd, rfl, ld, -, -, RD⟩ := hd.open
  obtain ⟨oy, ny, cy, rfl, ly, -, -, RY⟩ := hy.open
  obtain ⟨op, np, cp, rfl, lp, -, -, RP⟩ := hp.open
  have HG := Lib.hid (show greatR r ↔ (100 < nm ∨ 100 < nd ∨ 200 < ny ∨ 900 < np) by unfold greatR; rw [lm, ld, ly, lp])
  clear hmm hd hy hp RM RD RY RP lm ld ly lp
  go_enter Tryz.func19, Tryz.ntmps19
  go_wp2_with fail
  all_goals
    go_ret
    refine ⟨?_, belowA _ (Below.refl _ _)⟩
    refine ret_dec (?_ : _ = true ↔ _)
    rw [HG.out]
    first
      | (simp only [true_iff]; omega)
      | (simp only [Bool.or_eq_true, decide_eq_true_eq]; omega)
end Go.Proofs.YtcleicjgeflbnaaGreat
