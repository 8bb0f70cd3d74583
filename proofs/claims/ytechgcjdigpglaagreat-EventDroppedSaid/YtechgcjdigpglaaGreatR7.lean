/- The document's Same of two rules. No condition but that the arguments read. -/
import Derived.Test.YtechgcjdigpglaaGreatR6
namespace Go.Proofs.YtechgcjdigpglaaGreat
open Go.RowKit Go.ChangeShapes Go.WideShapes Go.Deep

theorem rows_eq' {α : Type} {r1 r2 : List α} {n : Nat} (h1 : r1.length = n) (h2 : r2.length = n) (h : ∀ i, i < n → r1[i]? = r2[i]?) : r1 = r2 := by
  apply List.ext_getElem? (fun i => ?_)
  by_cases hi : i < n
  · exact h i hi
  · rw [List.getElem?_eq_none (by omega), List.getElem?_eq_none (by omega)]
theorem rows_ne' {α : Type} {r1 r2 : List α} (k : Nat) {x y : α} (hx : r1[k]? = some x) (hy : r2[k]? = some y) (h : x ≠ y) : r1 ≠ r2 := fun e => h (by rw [e, hy] at hx; exact (Option.some.inj hx).symm)

theorem below_drewN {B : Nat} {a w : World} (h : Below B a w) (n : Nat) : Below B a (w.drewN n) := ⟨h.os, h.tape, h.output, h.size, h.block⟩


set_option maxHeartbeats 2000000 in
theorem ints9_any (v1 v2 : Value) (r1 r2 : List Int) (w : World) (h1 : Row w 1 (rI .i64) v1 r1) (h2 : Row w 1 (rI .i64) v2 r2) :
    Calls Tryz.prog 84 #[v1, v2] w fun e w' => e = .returned (.bool (dec (r1 = r2))) ∧ ∃ m, w' = w.drewN m := by
  obtain ⟨o1, n1, c1, rfl, l1, m1, k1, e1⟩ := h1.view
  obtain ⟨o2, n2, c2, rfl, l2, m2, k2, e2⟩ := h2.view
  clear h1 h2
  by_cases hn : n1 = n2
  · subst hn
    have L1 := Lib.hid l1; have L2 := Lib.hid l2; have E1 := Lib.hid e1; have E2 := Lib.hid e2
    clear l1 l2 e1 e2
    have hM : n1 < 9223372036854775808 := by (unfold maxLen at k1; omega)
    go_enter Tryz.func84, Tryz.ntmps84
    go_wp2_with fail
    go_loopw [13] (fun a wr => ∃ (k : Nat) (q : Nat), k ≤ n1 ∧ a = .int .i64 k ∧ wr = w.drewN q ∧ ∀ i, i < k → r1[i]? = r2[i]?) (fun a _ => n1 - (intOf a).toNat)
    case atStart => exact ⟨0, 0, Nat.zero_le _, rfl, rfl, fun i hi => absurd hi (by omega)⟩
    case round =>
      obtain ⟨k, q, hk, rfl, rfl, heq⟩ := hrel
      have HEQ := Lib.hid heq
      clear heq
      by_cases hlt : k < n1
      · obtain ⟨x, a1, cs1, hx, rfl, q1, q3, q0, q2⟩ := E1.out k hlt
        obtain ⟨y, a2, cs2, hy, rfl, p1, p3, p0, p2⟩ := E2.out k hlt
        obtain ⟨rfl, _⟩ := q3
        obtain ⟨rfl, _⟩ := p3
        have hc0 := q0 (by decide); have hd0 := p0 (by decide)
        simp only [Nat.mul_one, List.getElem?_cons_zero] at hc0 hd0
        have Hx := Lib.hid hx; have Hy := Lib.hid hy
        clear q0 q1 q2 p0 p1 p2 hx hy E1 E2
        have hlt' : (k : Int) < (n1 : Int) := by omega
        by_cases h0 : x = y
        · have g0 : (x == y) = true := by rw [h0]; simp
          have H0 := Lib.hid h0
          clear h0
          go_wp2
          go_quiet (fail)
          go_wp2
          go_roundw
          case measure => simp [intOf]; omega
          case rel =>
          refine ⟨k + 1, _, by omega, by go_num, rfl, fun i hi => ?_⟩
          by_cases hik : i = k
          · rw [hik, Hx.out, Hy.out]
            have f0 := H0.out
            rw [f0]
          · exact HEQ.out i (by omega)
        · have g0 : (x == y) = false := by rw [beq_eq_false_iff_ne]; exact h0
          have H0 := Lib.hid h0
          clear h0
          go_wp2
          go_quiet (fail)
          go_wp2
          go_ret
          exact ⟨ret_f (rows_ne' k Hx.out Hy.out (fun e => H0.out (by rw [e]))), _, World.drewN_drewN ..⟩
      · obtain rfl : k = n1 := by omega
        go_wp2
        go_ret
        exact ⟨ret_t (rows_eq' L1.out L2.out HEQ.out), _, rfl⟩
  · have hn' : ((n1 : Int) == n2) = false := by rw [beq_eq_false_iff_ne]; omega
    have L1 := Lib.hid l1; have L2 := Lib.hid l2; have H := Lib.hid hn
    clear l1 l2 hn e1 e2
    go_enter Tryz.func84, Tryz.ntmps84
    go_wp2
    go_ret
    exact ⟨ret_f (fun e => H.out (by rw [← L1.out, ← L2.out, e])), 0, rfl⟩
set_option maxHeartbeats 16000000 in
set_option maxRecDepth 4000 in
theorem rule_any (cs1 cs2 : List Value) (x1 x2 : RuleD) (w : World) (h1 : rRule w cs1 x1) (h2 : rRule w cs2 x2) :
    Calls Tryz.prog 47 #[.agg cs1.toArray, .agg cs2.toArray] w fun e w' => e = .returned (.bool (dec (x1 = x2))) ∧ Below w.heap.size w w' := by
  obtain ⟨m1, d1, y1, p1, rfl, _, _, _, _, _, R_byMonth1, R_byMonthDay1, R_byDay1, R_bySetPos1⟩ := h1
  rcases x1 with ⟨freq1, interval1, count1, until_1, byMonth1, byMonthDay1, byDay1, bySetPos1, start1⟩
  obtain ⟨m2, d2, y2, p2, rfl, _, _, _, _, _, R_byMonth2, R_byMonthDay2, R_byDay2, R_bySetPos2⟩ := h2
  rcases x2 with ⟨freq2, interval2, count2, until_2, byMonth2, byMonthDay2, byDay2, bySetPos2, start2⟩
  dsimp only at *
  obtain ⟨o_byMonth1, n_byMonth1, c_byMonth1, rfl, l_byMonth1, m_byMonth1, k_byMonth1, R_byMonth1⟩ := R_byMonth1.open
  have L_byMonth1 := Lib.hid l_byMonth1; have S_byMonth1 := Lib.hid R_byMonth1
  obtain ⟨o_byMonth2, n_byMonth2, c_byMonth2, rfl, l_byMonth2, m_byMonth2, k_byMonth2, R_byMonth2⟩ := R_byMonth2.open
  have L_byMonth2 := Lib.hid l_byMonth2; have S_byMonth2 := Lib.hid R_byMonth2
  have M_byMonth : n_byMonth1 < 9223372036854775808 := by (unfold maxLen at k_byMonth1; omega)
  clear l_byMonth1 l_byMonth2 R_byMonth1 R_byMonth2 m_byMonth1 m_byMonth2 k_byMonth1 k_byMonth2
  obtain ⟨o_byMonthDay1, n_byMonthDay1, c_byMonthDay1, rfl, l_byMonthDay1, m_byMonthDay1, k_byMonthDay1, R_byMonthDay1⟩ := R_byMonthDay1.open
  have L_byMonthDay1 := Lib.hid l_byMonthDay1; have S_byMonthDay1 := Lib.hid R_byMonthDay1
  obtain ⟨o_byMonthDay2, n_byMonthDay2, c_byMonthDay2, rfl, l_byMonthDay2, m_byMonthDay2, k_byMonthDay2, R_byMonthDay2⟩ := R_byMonthDay2.open
  have L_byMonthDay2 := Lib.hid l_byMonthDay2; have S_byMonthDay2 := Lib.hid R_byMonthDay2
  have M_byMonthDay : n_byMonthDay1 < 9223372036854775808 := by (unfold maxLen at k_byMonthDay1; omega)
  clear l_byMonthDay1 l_byMonthDay2 R_byMonthDay1 R_byMonthDay2 m_byMonthDay1 m_byMonthDay2 k_byMonthDay1 k_byMonthDay2
  obtain ⟨o_byDay1, n_byDay1, c_byDay1, rfl, l_byDay1, m_byDay1, k_byDay1, R_byDay1⟩ := R_byDay1.open
  have L_byDay1 := Lib.hid l_byDay1; have S_byDay1 := Lib.hid R_byDay1
  obtain ⟨o_byDay2, n_byDay2, c_byDay2, rfl, l_byDay2, m_byDay2, k_byDay2, R_byDay2⟩ := R_byDay2.open
  have L_byDay2 := Lib.hid l_byDay2; have S_byDay2 := Lib.hid R_byDay2
  have M_byDay : n_byDay1 < 9223372036854775808 := by (unfold maxLen at k_byDay1; omega)
  clear l_byDay1 l_byDay2 R_byDay1 R_byDay2 m_byDay1 m_byDay2 k_byDay1 k_byDay2
  obtain ⟨o_bySetPos1, n_bySetPos1, c_bySetPos1, rfl, l_bySetPos1, m_bySetPos1, k_bySetPos1, R_bySetPos1⟩ := R_bySetPos1.open
  have L_bySetPos1 := Lib.hid l_bySetPos1; have S_bySetPos1 := Lib.hid R_bySetPos1
  obtain ⟨o_bySetPos2, n_bySetPos2, c_bySetPos2, rfl, l_bySetPos2, m_bySetPos2, k_bySetPos2, R_bySetPos2⟩ := R_bySetPos2.open
  have L_bySetPos2 := Lib.hid l_bySetPos2; have S_bySetPos2 := Lib.hid R_bySetPos2
  have M_bySetPos : n_bySetPos1 < 9223372036854775808 := by (unfold maxLen at k_bySetPos1; omega)
  clear l_bySetPos1 l_bySetPos2 R_bySetPos1 R_bySetPos2 m_bySetPos1 m_bySetPos2 k_bySetPos1 k_bySetPos2
  by_cases h_freq : freq1 = freq2
  · subst h_freq
    by_cases h_interval : interval1 = interval2
    · subst h_interval
      by_cases h_count : count1 = count2
      · subst h_count
        by_cases h_until_ : until_1 = until_2
        · subst h_until_
          by_cases h_start : start1 = start2
          · subst h_start
            by_cases h_byDay : n_byDay1 = n_byDay2
            · subst h_byDay
              have HB := Lib.hid (show Below w.heap.size w ((w.alloc (.cells #[.int .i64 freq1, .int .i64 interval1, .int .i64 count1, .int .i64 until_1, .slice o_byMonth1 n_byMonth1 c_byMonth1, .slice o_byMonthDay1 n_byMonthDay1 c_byMonthDay1, .slice o_byDay1 n_byDay1 c_byDay1, .slice o_bySetPos1 n_bySetPos1 c_bySetPos1, .int .i64 start1] 28)).alloc (.cells #[.int .i64 freq1, .int .i64 interval1, .int .i64 count1, .int .i64 until_1, .slice o_byMonth2 n_byMonth2 c_byMonth2, .slice o_byMonthDay2 n_byMonthDay2 c_byMonthDay2, .slice o_byDay2 n_byDay1 c_byDay2, .slice o_bySetPos2 n_bySetPos2 c_bySetPos2, .int .i64 start1] 28)) from ((Below.refl _ _).alloc (Nat.le_refl _) _).alloc (by simp) _)
              go_enter Tryz.func47, Tryz.ntmps47
              go_wp2_with fail
              go_loopw [51] (fun a wr => ∃ (k : Nat) (q : Nat), k ≤ n_byDay1 ∧ a = .int .i64 k ∧ wr = World.drewN ((w.alloc (.cells #[.int .i64 freq1, .int .i64 interval1, .int .i64 count1, .int .i64 until_1, .slice o_byMonth1 n_byMonth1 c_byMonth1, .slice o_byMonthDay1 n_byMonthDay1 c_byMonthDay1, .slice o_byDay1 n_byDay1 c_byDay1, .slice o_bySetPos1 n_bySetPos1 c_bySetPos1, .int .i64 start1] 28)).alloc (.cells #[.int .i64 freq1, .int .i64 interval1, .int .i64 count1, .int .i64 until_1, .slice o_byMonth2 n_byMonth2 c_byMonth2, .slice o_byMonthDay2 n_byMonthDay2 c_byMonthDay2, .slice o_byDay2 n_byDay1 c_byDay2, .slice o_bySetPos2 n_bySetPos2 c_bySetPos2, .int .i64 start1] 28)) q ∧ ∀ i, i < k → byDay1[i]? = byDay2[i]?) (fun a _ => n_byDay1 - (intOf a).toNat)
              case atStart => first | exact ⟨0, 0, Nat.zero_le _, rfl, rfl, fun i hi => absurd hi (by omega)⟩ | exact ⟨0, _, Nat.zero_le _, rfl, rfl, fun i hi => absurd hi (by omega)⟩
              case round =>
                obtain ⟨k, q, hk, rfl, rfl, heq⟩ := hrel
                have HEQ := Lib.hid heq
                clear heq
                by_cases hlt : k < n_byDay1
                · obtain ⟨x, a1, cs1, hx, rfl, q1, q3, q0, q2⟩ := S_byDay1.out.elem HB.out k hlt
                  obtain ⟨y, a2, cs2, hy, rfl, p1, p3, p0, p2⟩ := S_byDay2.out.elem HB.out k hlt
                  obtain ⟨rfl, _⟩ := q3
                  obtain ⟨rfl, _⟩ := p3
                  have hc0 := q0 (by decide); have hd0 := p0 (by decide)
                  have hc1 := q2 1 (by decide) (by decide); have hd1 := p2 1 (by decide) (by decide)
                  simp only [List.getElem?_cons_zero, List.getElem?_cons_succ] at hc0 hd0 hc1 hd1
                  have Hx := Lib.hid hx; have Hy := Lib.hid hy
                  clear q0 q1 q2 p0 p1 p2 hx hy
                  have hlt' : (k : Int) < (n_byDay1 : Int) := by omega
                  rcases x with ⟨x0, x1⟩
                  rcases y with ⟨y0, y1⟩
                  by_cases h0 : x0 = y0
                  · subst h0
                    by_cases h1 : x1 = y1
                    · subst h1
                      go_wp2; go_quiet (fail); go_wp2; go_roundw
                      case measure => simp [intOf]; omega
                      case rel =>
                      refine ⟨k + 1, _, by omega, by go_num, rfl, fun i hi => ?_⟩
                      by_cases hik : i = k
                      · rw [hik, Hx.out, Hy.out]
                      · exact HEQ.out i (by omega)
                    · have g1 : (x1 == y1) = false := by rw [beq_eq_false_iff_ne]; exact h1
                      have H1 := Lib.hid h1; clear h1
                      go_wp2; go_quiet (fail); go_wp2; go_ret
                      exact ⟨ret_f (fun e => rows_ne' k Hx.out Hy.out (fun e => H1.out (by cases e; rfl)) (by cases e; rfl)), (by first | exact below_drewN (below_drewN HB.out _) _ | exact below_drewN HB.out _ | exact HB.out)⟩
                  · have g0 : (x0 == y0) = false := by rw [beq_eq_false_iff_ne]; exact h0
                    have H0 := Lib.hid h0; clear h0
                    go_wp2; go_quiet (fail); go_wp2; go_ret
                    exact ⟨ret_f (fun e => rows_ne' k Hx.out Hy.out (fun e => H0.out (by cases e; rfl)) (by cases e; rfl)), (by first | exact below_drewN (below_drewN HB.out _) _ | exact below_drewN HB.out _ | exact HB.out)⟩
                · obtain rfl : n_byDay1 = k := by omega
                  have E_byDay := Lib.hid (rows_eq' L_byDay1.out L_byDay2.out HEQ.out)
                  clear HEQ hlt
                  by_cases h_byMonth : byMonth1 = byMonth2
                  · have E_byMonth := Lib.hid h_byMonth; clear h_byMonth
                    have C_byMonth := Lib.hid (fun (W : World) (hb : Below w.heap.size w W) => c_t (ints9_any _ _ byMonth1 byMonth2 W (S_byMonth1.out.later' hb) (S_byMonth2.out.later' hb)) E_byMonth.out)
                    by_cases h_byMonthDay : byMonthDay1 = byMonthDay2
                    · have E_byMonthDay := Lib.hid h_byMonthDay; clear h_byMonthDay
                      have C_byMonthDay := Lib.hid (fun (W : World) (hb : Below w.heap.size w W) => c_t (ints9_any _ _ byMonthDay1 byMonthDay2 W (S_byMonthDay1.out.later' hb) (S_byMonthDay2.out.later' hb)) E_byMonthDay.out)
                      by_cases h_bySetPos : bySetPos1 = bySetPos2
                      · have E_bySetPos := Lib.hid h_bySetPos; clear h_bySetPos
                        have C_bySetPos := Lib.hid (fun (W : World) (hb : Below w.heap.size w W) => c_t (ints9_any _ _ bySetPos1 bySetPos2 W (S_bySetPos1.out.later' hb) (S_bySetPos2.out.later' hb)) E_bySetPos.out)
                        go_wp2_with fail
                        (with_reducible refine (C_byMonth.out _ (below_drewN HB.out _)).mono ?_)
                        rintro e w_q ⟨rfl, m_q, rfl⟩
                        go_wp2_with fail
                        (with_reducible refine (C_byMonthDay.out _ (below_drewN HB.out _)).mono ?_)
                        rintro e w_q ⟨rfl, m_q, rfl⟩
                        go_wp2_with fail
                        (with_reducible refine (C_bySetPos.out _ (below_drewN HB.out _)).mono ?_)
                        rintro e w_q ⟨rfl, m_q, rfl⟩
                        go_wp2_with fail
                        go_ret
                        exact ⟨ret_t (by rw [E_byDay.out, E_byMonth.out, E_byMonthDay.out, E_bySetPos.out]), (by first | exact below_drewN (below_drewN HB.out _) _ | exact below_drewN HB.out _ | exact HB.out)⟩
                      · have E_bySetPos := Lib.hid h_bySetPos; clear h_bySetPos
                        have C_bySetPos := Lib.hid (fun (W : World) (hb : Below w.heap.size w W) => c_f (ints9_any _ _ bySetPos1 bySetPos2 W (S_bySetPos1.out.later' hb) (S_bySetPos2.out.later' hb)) E_bySetPos.out)
                        go_wp2_with fail
                        (with_reducible refine (C_byMonth.out _ (below_drewN HB.out _)).mono ?_)
                        rintro e w_q ⟨rfl, m_q, rfl⟩
                        go_wp2_with fail
                        (with_reducible refine (C_byMonthDay.out _ (below_drewN HB.out _)).mono ?_)
                        rintro e w_q ⟨rfl, m_q, rfl⟩
                        go_wp2_with fail
                        (with_reducible refine (C_bySetPos.out _ (below_drewN HB.out _)).mono ?_)
                        rintro e w_q ⟨rfl, m_q, rfl⟩
                        go_wp2_with fail
                        go_ret
                        exact ⟨ret_f (fun e => E_bySetPos.out (by cases e; rfl)), (by first | exact below_drewN (below_drewN HB.out _) _ | exact below_drewN HB.out _ | exact HB.out)⟩
                    · have E_byMonthDay := Lib.hid h_byMonthDay; clear h_byMonthDay
                      have C_byMonthDay := Lib.hid (fun (W : World) (hb : Below w.heap.size w W) => c_f (ints9_any _ _ byMonthDay1 byMonthDay2 W (S_byMonthDay1.out.later' hb) (S_byMonthDay2.out.later' hb)) E_byMonthDay.out)
                      go_wp2_with fail
                      (with_reducible refine (C_byMonth.out _ (below_drewN HB.out _)).mono ?_)
                      rintro e w_q ⟨rfl, m_q, rfl⟩
                      go_wp2_with fail
                      (with_reducible refine (C_byMonthDay.out _ (below_drewN HB.out _)).mono ?_)
                      rintro e w_q ⟨rfl, m_q, rfl⟩
                      go_wp2_with fail
                      go_ret
                      exact ⟨ret_f (fun e => E_byMonthDay.out (by cases e; rfl)), (by first | exact below_drewN (below_drewN HB.out _) _ | exact below_drewN HB.out _ | exact HB.out)⟩
                  · have E_byMonth := Lib.hid h_byMonth; clear h_byMonth
                    have C_byMonth := Lib.hid (fun (W : World) (hb : Below w.heap.size w W) => c_f (ints9_any _ _ byMonth1 byMonth2 W (S_byMonth1.out.later' hb) (S_byMonth2.out.later' hb)) E_byMonth.out)
                    go_wp2_with fail
                    (with_reducible refine (C_byMonth.out _ (below_drewN HB.out _)).mono ?_)
                    rintro e w_q ⟨rfl, m_q, rfl⟩
                    go_wp2_with fail
                    go_ret
                    exact ⟨ret_f (fun e => E_byMonth.out (by cases e; rfl)), (by first | exact below_drewN (below_drewN HB.out _) _ | exact below_drewN HB.out _ | exact HB.out)⟩
            · have g_byDay : ((n_byDay1 : Int) == n_byDay2) = false := by rw [beq_eq_false_iff_ne]; omega
              have H_byDay := Lib.hid h_byDay
              have HB := Lib.hid (show Below w.heap.size w ((w.alloc (.cells #[.int .i64 freq1, .int .i64 interval1, .int .i64 count1, .int .i64 until_1, .slice o_byMonth1 n_byMonth1 c_byMonth1, .slice o_byMonthDay1 n_byMonthDay1 c_byMonthDay1, .slice o_byDay1 n_byDay1 c_byDay1, .slice o_bySetPos1 n_bySetPos1 c_bySetPos1, .int .i64 start1] 28)).alloc (.cells #[.int .i64 freq1, .int .i64 interval1, .int .i64 count1, .int .i64 until_1, .slice o_byMonth2 n_byMonth2 c_byMonth2, .slice o_byMonthDay2 n_byMonthDay2 c_byMonthDay2, .slice o_byDay2 n_byDay2 c_byDay2, .slice o_bySetPos2 n_bySetPos2 c_bySetPos2, .int .i64 start1] 28)) from ((Below.refl _ _).alloc (Nat.le_refl _) _).alloc (by simp) _)
              go_enter Tryz.func47, Tryz.ntmps47
              go_wp2_with fail
              go_ret
              exact ⟨ret_f (fun e => H_byDay.out (by rw [← L_byDay1.out, ← L_byDay2.out]; cases e; rfl)), (by first | exact below_drewN (below_drewN HB.out _) _ | exact below_drewN HB.out _ | exact HB.out)⟩
          · have g_start : (start1 == start2) = false := by rw [beq_eq_false_iff_ne]; exact h_start
            have H_start := Lib.hid h_start; clear h_start
            have HB := Lib.hid (show Below w.heap.size w ((w.alloc (.cells #[.int .i64 freq1, .int .i64 interval1, .int .i64 count1, .int .i64 until_1, .slice o_byMonth1 n_byMonth1 c_byMonth1, .slice o_byMonthDay1 n_byMonthDay1 c_byMonthDay1, .slice o_byDay1 n_byDay1 c_byDay1, .slice o_bySetPos1 n_bySetPos1 c_bySetPos1, .int .i64 start1] 28)).alloc (.cells #[.int .i64 freq1, .int .i64 interval1, .int .i64 count1, .int .i64 until_1, .slice o_byMonth2 n_byMonth2 c_byMonth2, .slice o_byMonthDay2 n_byMonthDay2 c_byMonthDay2, .slice o_byDay2 n_byDay2 c_byDay2, .slice o_bySetPos2 n_bySetPos2 c_bySetPos2, .int .i64 start2] 28)) from ((Below.refl _ _).alloc (Nat.le_refl _) _).alloc (by simp) _)
            go_enter Tryz.func47, Tryz.ntmps47
            go_wp2_with fail
            go_ret
            exact ⟨ret_f (fun e => H_start.out (by cases e; rfl)), (by first | exact below_drewN (below_drewN HB.out _) _ | exact below_drewN HB.out _ | exact HB.out)⟩
        · have g_until_ : (until_1 == until_2) = false := by rw [beq_eq_false_iff_ne]; exact h_until_
          have H_until_ := Lib.hid h_until_; clear h_until_
          have HB := Lib.hid (show Below w.heap.size w ((w.alloc (.cells #[.int .i64 freq1, .int .i64 interval1, .int .i64 count1, .int .i64 until_1, .slice o_byMonth1 n_byMonth1 c_byMonth1, .slice o_byMonthDay1 n_byMonthDay1 c_byMonthDay1, .slice o_byDay1 n_byDay1 c_byDay1, .slice o_bySetPos1 n_bySetPos1 c_bySetPos1, .int .i64 start1] 28)).alloc (.cells #[.int .i64 freq1, .int .i64 interval1, .int .i64 count1, .int .i64 until_2, .slice o_byMonth2 n_byMonth2 c_byMonth2, .slice o_byMonthDay2 n_byMonthDay2 c_byMonthDay2, .slice o_byDay2 n_byDay2 c_byDay2, .slice o_bySetPos2 n_bySetPos2 c_bySetPos2, .int .i64 start2] 28)) from ((Below.refl _ _).alloc (Nat.le_refl _) _).alloc (by simp) _)
          go_enter Tryz.func47, Tryz.ntmps47
          go_wp2_with fail
          go_ret
          exact ⟨ret_f (fun e => H_until_.out (by cases e; rfl)), (by first | exact below_drewN (below_drewN HB.out _) _ | exact below_drewN HB.out _ | exact HB.out)⟩
      · have g_count : (count1 == count2) = false := by rw [beq_eq_false_iff_ne]; exact h_count
        have H_count := Lib.hid h_count; clear h_count
        have HB := Lib.hid (show Below w.heap.size w ((w.alloc (.cells #[.int .i64 freq1, .int .i64 interval1, .int .i64 count1, .int .i64 until_1, .slice o_byMonth1 n_byMonth1 c_byMonth1, .slice o_byMonthDay1 n_byMonthDay1 c_byMonthDay1, .slice o_byDay1 n_byDay1 c_byDay1, .slice o_bySetPos1 n_bySetPos1 c_bySetPos1, .int .i64 start1] 28)).alloc (.cells #[.int .i64 freq1, .int .i64 interval1, .int .i64 count2, .int .i64 until_2, .slice o_byMonth2 n_byMonth2 c_byMonth2, .slice o_byMonthDay2 n_byMonthDay2 c_byMonthDay2, .slice o_byDay2 n_byDay2 c_byDay2, .slice o_bySetPos2 n_bySetPos2 c_bySetPos2, .int .i64 start2] 28)) from ((Below.refl _ _).alloc (Nat.le_refl _) _).alloc (by simp) _)
        go_enter Tryz.func47, Tryz.ntmps47
        go_wp2_with fail
        go_ret
        exact ⟨ret_f (fun e => H_count.out (by cases e; rfl)), (by first | exact below_drewN (below_drewN HB.out _) _ | exact below_drewN HB.out _ | exact HB.out)⟩
    · have g_interval : (interval1 == interval2) = false := by rw [beq_eq_false_iff_ne]; exact h_interval
      have H_interval := Lib.hid h_interval; clear h_interval
      have HB := Lib.hid (show Below w.heap.size w ((w.alloc (.cells #[.int .i64 freq1, .int .i64 interval1, .int .i64 count1, .int .i64 until_1, .slice o_byMonth1 n_byMonth1 c_byMonth1, .slice o_byMonthDay1 n_byMonthDay1 c_byMonthDay1, .slice o_byDay1 n_byDay1 c_byDay1, .slice o_bySetPos1 n_bySetPos1 c_bySetPos1, .int .i64 start1] 28)).alloc (.cells #[.int .i64 freq1, .int .i64 interval2, .int .i64 count2, .int .i64 until_2, .slice o_byMonth2 n_byMonth2 c_byMonth2, .slice o_byMonthDay2 n_byMonthDay2 c_byMonthDay2, .slice o_byDay2 n_byDay2 c_byDay2, .slice o_bySetPos2 n_bySetPos2 c_bySetPos2, .int .i64 start2] 28)) from ((Below.refl _ _).alloc (Nat.le_refl _) _).alloc (by simp) _)
      go_enter Tryz.func47, Tryz.ntmps47
      go_wp2_with fail
      go_ret
      exact ⟨ret_f (fun e => H_interval.out (by cases e; rfl)), (by first | exact below_drewN (below_drewN HB.out _) _ | exact below_drewN HB.out _ | exact HB.out)⟩
  · have g_freq : (freq1 == freq2) = false := by rw [beq_eq_false_iff_ne]; exact h_freq
    have H_freq := Lib.hid h_freq; clear h_freq
    have HB := Lib.hid (show Below w.heap.size w ((w.alloc (.cells #[.int .i64 freq1, .int .i64 interval1, .int .i64 count1, .int .i64 until_1, .slice o_byMonth1 n_byMonth1 c_byMonth1, .slice o_byMonthDay1 n_byMonthDay1 c_byMonthDay1, .slice o_byDay1 n_byDay1 c_byDay1, .slice o_bySetPos1 n_bySetPos1 c_bySetPos1, .int .i64 start1] 28)).alloc (.cells #[.int .i64 freq2, .int .i64 interval2, .int .i64 count2, .int .i64 until_2, .slice o_byMonth2 n_byMonth2 c_byMonth2, .slice o_byMonthDay2 n_byMonthDay2 c_byMonthDay2, .slice o_byDay2 n_byDay2 c_byDay2, .slice o_bySetPos2 n_bySetPos2 c_bySetPos2, .int .i64 start2] 28)) from ((Below.refl _ _).alloc (Nat.le_refl _) _).alloc (by simp) _)
    go_enter Tryz.func47, Tryz.ntmps47
    go_wp2_with fail
    go_ret
    exact ⟨ret_f (fun e => H_freq.out (by cases e; rfl)), (by first | exact below_drewN (below_drewN HB.out _) _ | exact below_drewN HB.out _ | exact HB.out)⟩
end Go.Proofs.YtechgcjdigpglaaGreat
