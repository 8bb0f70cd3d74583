/- slices.Equal at rows of numbers, and at rows of days. No condition but that the arguments read. -/
import Derived.Test.YtcleicjgeflbnaaGreatR7
namespace Go.Proofs.YtcleicjgeflbnaaGreat
open Go.RowKit Go.ChangeShapes Go.WideShapes Go.Deep
set_option linter.all false

set_option maxHeartbeats 2000000 in
theorem equalI_any (v1 v2 : Value) (r1 r2 : List Int) (w : World) (h1 : Row w 1 (rI .i64) v1 r1) (h2 : Row w 1 (rI .i64) v2 r2) :
    Calls Tryz.prog 42 #[v1, v2] w fun e w' => e = .returned (.bool (dec (r1 = r2))) ∧ ∃ m, w' = w.drewN m := by
  obtain ⟨o1, n1, c1, rfl, l1, m1, k1, e1⟩ := h1.view
  obtain ⟨o2, n2, c2, rfl, l2, m2, k2, e2⟩ := h2.view
  clear h1 h2
  by_cases hn : n1 = n2
  · subst hn
    have L1 := Lib.hid l1; have L2 := Lib.hid l2; have E1 := Lib.hid e1; have E2 := Lib.hid e2
    clear l1 l2 e1 e2
    have hM : n1 < 9223372036854775808 := by (unfold maxLen at k1; omega)
    go_enter Tryz.func42, Tryz.ntmps42
    go_wp2_with fail
    go_loopw [13] (fun a wr => ∃ (k : Nat) (q : Nat), k ≤ n1 ∧ a = .int .i64 k ∧ wr = w.drewN q ∧ ∀ i, i < k → r1[i]? = r2[i]?) (fun a _ => n1 - (intOf a).toNat)
    case atStart => exact ⟨0, 0, Nat.zero_le _, rfl, rfl, fun i hi => absurd hi (by omega)⟩
    case round =>
      obtain ⟨k, q, hk, rfl, rfl, heq⟩ := hrel
      have HEQ := Lib.hid heq
      clear heq
      by_cases hlt : k < n1
      · obtain ⟨x, a1, cs1, hx, rfl, q1, q3, q0, q2⟩ := E1.out k hlt
        obtain ⟨y, a2, cs2, hy, rfl, p1, p3, p0, p2⟩ := E2.out k hlt
        obtain ⟨rfl, _⟩ := q3
        obtain ⟨rfl, _⟩ := p3
        have hc0 := q0 (by decide); have hd0 := p0 (by decide)
        simp only [Nat.mul_one, List.getElem?_cons_zero] at hc0 hd0
        have Hx := Lib.hid hx; have Hy := Lib.hid hy
        clear q0 q1 q2 p0 p1 p2 hx hy E1 E2
        have hlt' : (k : Int) < (n1 : Int) := by omega
        by_cases h0 : x = y
        · have g0 : (x == y) = true := by rw [h0]; simp
          have g1 : (x != y) = false := by rw [h0]; simp
          have H0 := Lib.hid h0
          clear h0
          go_wp2
          go_quiet (fail)
          go_wp2
          go_roundw
          case measure => simp [intOf]; omega
          case rel =>
          refine ⟨k + 1, _, by omega, by go_num, rfl, fun i hi => ?_⟩
          by_cases hik : i = k
          · rw [hik, Hx.out, Hy.out]
            have f0 := H0.out
            rw [f0]
          · exact HEQ.out i (by omega)
        · have g0 : (x == y) = false := by rw [beq_eq_false_iff_ne]; exact h0
          have g1 : (x != y) = true := by rw [bne_iff_ne]; exact h0
          have H0 := Lib.hid h0
          clear h0
          go_wp2
          go_quiet (fail)
          go_wp2
          go_ret
          exact ⟨ret_f (rows_ne' k Hx.out Hy.out (fun e => H0.out (by rw [e]))), _, World.drewN_drewN ..⟩
      · obtain rfl : k = n1 := by omega
        go_wp2
        go_ret
        exact ⟨ret_t (rows_eq' L1.out L2.out HEQ.out), _, rfl⟩
  · have hn' : ((n1 : Int) == n2) = false := by rw [beq_eq_false_iff_ne]; omega
    have hn'' : ((n1 : Int) != n2) = true := by rw [bne_iff_ne]; omega
    have L1 := Lib.hid l1; have L2 := Lib.hid l2; have H := Lib.hid hn
    clear l1 l2 hn e1 e2
    go_enter Tryz.func42, Tryz.ntmps42
    go_wp2
    go_ret
    exact ⟨ret_f (fun e => H.out (by rw [← L1.out, ← L2.out, e])), 0, rfl⟩
set_option maxHeartbeats 2000000 in
theorem equalD_any (v1 v2 : Value) (r1 r2 : List DayND) (w : World) (h1 : Row w 2 rDayN v1 r1) (h2 : Row w 2 rDayN v2 r2) :
    Calls Tryz.prog 43 #[v1, v2] w fun e w' => e = .returned (.bool (dec (r1 = r2))) ∧ ∃ m, w' = w.drewN m := by
  obtain ⟨o1, n1, c1, rfl, l1, m1, k1, e1⟩ := h1.view
  obtain ⟨o2, n2, c2, rfl, l2, m2, k2, e2⟩ := h2.view
  clear h1 h2
  by_cases hn : n1 = n2
  · subst hn
    have L1 := Lib.hid l1; have L2 := Lib.hid l2; have E1 := Lib.hid e1; have E2 := Lib.hid e2
    clear l1 l2 e1 e2
    have hM : n1 < 9223372036854775808 := by (unfold maxLen at k1; omega)
    go_enter Tryz.func43, Tryz.ntmps43
    go_wp2_with fail
    go_loopw [13] (fun a wr => ∃ (k : Nat) (q : Nat), k ≤ n1 ∧ a = .int .i64 k ∧ wr = w.drewN q ∧ ∀ i, i < k → r1[i]? = r2[i]?) (fun a _ => n1 - (intOf a).toNat)
    case atStart => exact ⟨0, 0, Nat.zero_le _, rfl, rfl, fun i hi => absurd hi (by omega)⟩
    case round =>
      obtain ⟨k, q, hk, rfl, rfl, heq⟩ := hrel
      have HEQ := Lib.hid heq
      clear heq
      by_cases hlt : k < n1
      · obtain ⟨x, a1, cs1, hx, rfl, q1, q3, q0, q2⟩ := E1.out k hlt
        obtain ⟨y, a2, cs2, hy, rfl, p1, p3, p0, p2⟩ := E2.out k hlt
        obtain ⟨rfl, _⟩ := q3
        obtain ⟨rfl, _⟩ := p3
        have hc0 := q0 (by decide); have hd0 := p0 (by decide)
        have hc1 := q2 1 (by decide) (by decide); have hd1 := p2 1 (by decide) (by decide)
        simp only [List.getElem?_cons_zero, List.getElem?_cons_succ] at hc0 hd0 hc1 hd1
        have Hx := Lib.hid hx; have Hy := Lib.hid hy
        clear q0 q1 q2 p0 p1 p2 hx hy E1 E2
        have hlt' : (k : Int) < (n1 : Int) := by omega
        rcases x with ⟨x0, x1⟩
        rcases y with ⟨y0, y1⟩
        by_cases h0 : x0 = y0
        · subst h0
          by_cases h1 : x1 = y1
          · subst h1
            go_wp2; go_quiet (fail); go_wp2; go_roundw
            case measure => simp [intOf]; omega
            case rel =>
            refine ⟨k + 1, _, by omega, by go_num, rfl, fun i hi => ?_⟩
            by_cases hik : i = k
            · rw [hik, Hx.out, Hy.out]
            · exact HEQ.out i (by omega)
          · have g1 : (x1 == y1) = false := by rw [beq_eq_false_iff_ne]; exact h1
            have H1 := Lib.hid h1; clear h1
            go_wp2; go_quiet (fail); go_wp2; go_ret
            exact ⟨ret_f (fun e => rows_ne' k Hx.out Hy.out (fun e => H1.out (by cases e; rfl)) (by cases e; rfl)), _, World.drewN_drewN ..⟩
        · have g0 : (x0 == y0) = false := by rw [beq_eq_false_iff_ne]; exact h0
          have H0 := Lib.hid h0; clear h0
          go_wp2; go_quiet (fail); go_wp2; go_ret
          exact ⟨ret_f (fun e => rows_ne' k Hx.out Hy.out (fun e => H0.out (by cases e; rfl)) (by cases e; rfl)), _, World.drewN_drewN ..⟩
      · obtain rfl : k = n1 := by omega
        go_wp2
        go_ret
        exact ⟨ret_t (rows_eq' L1.out L2.out HEQ.out), _, rfl⟩
  · have hn' : ((n1 : Int) == n2) = false := by rw [beq_eq_false_iff_ne]; omega
    have hn'' : ((n1 : Int) != n2) = true := by rw [bne_iff_ne]; omega
    have L1 := Lib.hid l1; have L2 := Lib.hid l2; have H := Lib.hid hn
    clear l1 l2 hn e1 e2
    go_enter Tryz.func43, Tryz.ntmps43
    go_wp2
    go_ret
    exact ⟨ret_f (fun e => H.out (by rw [← L1.out, ← L2.out, e])), 0, rfl⟩
end Go.Proofs.YtcleicjgeflbnaaGreat
