/- rule.ends and rule.daysMay. Condition: at most a thousand days and months. -/
import Derived.Test.YtcleicjgeflbnaaGreatDoorR3
namespace Go.Proofs.YtcleicjgeflbnaaGreatDoor
open Go.RowKit Go.ChangeShapes Go.WideShapes Go.Deep
set_option linter.all false

set_option maxHeartbeats 4000000 in
theorem ends_any (cs : List Value) (r : RuleD) (w : World) (h : rRule w cs r) :
    Calls Tryz.prog 32 #[.agg cs.toArray] w fun e w' => e = .returned (.bool (dec (endsMay r))) ∧ Below w.heap.size w w' := by
  obtain ⟨m, d, y, p, rfl, -, -, -, -, -, ⟨om, nm, cm, rfl, -⟩, ⟨od, nd, cd, rfl, -⟩, ⟨oy, ny, cy, rfl, -⟩, ⟨op, np, cp, rfl, -⟩⟩ := h
  have HB := Lib.hid (show Below w.heap.size w (w.alloc (.cells #[.int .i64 r.freq, .int .i64 r.interval, .int .i64 r.count, .int .i64 r.until_, .slice om nm cm, .slice od nd cd, .slice oy ny cy, .slice op np cp, .int .i64 r.start] 26)) from (Below.refl _ _).alloc (Nat.le_refl _) _)
  by_cases h1 : r.count < 0
  · have d1 := decide_eq_true h1
    have hno := Lib.hid (show ¬ endsMay r from fun h => by have := h.1; omega)
    clear h1
    go_enter Tryz.func32, Tryz.ntmps32
    go_wp2_with fail
    go_ret
    exact ⟨ret_f hno.out, HB.out⟩
  · have d1 := decide_eq_false h1
    by_cases h2 : 5000 < r.count
    · have d2 := decide_eq_true h2
      have hno := Lib.hid (show ¬ endsMay r from fun h => by have := h.2.1; omega)
      clear h1 h2
      go_enter Tryz.func32, Tryz.ntmps32
      go_wp2_with fail
      go_ret
      exact ⟨ret_f hno.out, HB.out⟩
    · have d2 := decide_eq_false h2
      by_cases h3 : r.until_ = -1
      · have b3 : (r.until_ == -1) = true := by simpa using h3
        have hyes := Lib.hid (show endsMay r from ⟨by omega, by omega, .inl h3⟩)
        clear h1 h2 h3
        go_enter Tryz.func32, Tryz.ntmps32
        go_wp2_with fail
        go_ret
        exact ⟨ret_t hyes.out, HB.out⟩
      · have b3 : (r.until_ == -1) = false := by simpa using h3
        by_cases h4 : 0 ≤ r.until_
        · have d4 := decide_eq_true h4
          by_cases h5 : r.until_ < 158310720
          · have d5 := decide_eq_true h5
            by_cases h6 : r.count = 0
            · have b6 : (r.count == 0) = true := by simpa using h6
              have hyes := Lib.hid (show endsMay r from ⟨by omega, by omega, .inr ⟨h4, h5, h6⟩⟩)
              clear h1 h2 h3 h4 h5 h6
              go_enter Tryz.func32, Tryz.ntmps32
              go_wp2_with fail
              go_ret
              exact ⟨ret_t hyes.out, HB.out⟩
            · have b6 : (r.count == 0) = false := by simpa using h6
              have hno := Lib.hid (show ¬ endsMay r from fun h => h.2.2.elim h3 fun h => h6 h.2.2)
              clear h1 h2 h3 h4 h5 h6
              go_enter Tryz.func32, Tryz.ntmps32
              go_wp2_with fail
              go_ret
              exact ⟨ret_f hno.out, HB.out⟩
          · have d5 := decide_eq_false h5
            have hno := Lib.hid (show ¬ endsMay r from fun h => h.2.2.elim h3 fun h => h5 h.2.1)
            clear h1 h2 h3 h4 h5
            go_enter Tryz.func32, Tryz.ntmps32
            go_wp2_with fail
            go_ret
            exact ⟨ret_f hno.out, HB.out⟩
        · have d4 := decide_eq_false h4
          have hno := Lib.hid (show ¬ endsMay r from fun h => h.2.2.elim h3 fun h => h4 h.1)
          clear h1 h2 h3 h4
          go_enter Tryz.func32, Tryz.ntmps32
          go_wp2_with fail
          go_ret
          exact ⟨ret_f hno.out, HB.out⟩

/-- May days stand with a number? -/
def nthMay (r : RuleD) : Prop := r.freq = 3 ∨ r.freq = 4 ∧ 0 < r.byMonth.length
def dayOne (r : RuleD) (d : DayND) : Prop := 0 ≤ d.day ∧ d.day ≤ 6 ∧ -5 ≤ d.n ∧ d.n ≤ 5 ∧ (d.n = 0 ∨ nthMay r)
def daysMay (r : RuleD) : Prop := (∀ d ∈ r.byDay, dayOne r d) ∧ risesDay r.byDay
end Go.Proofs.YtcleicjgeflbnaaGreatDoor
