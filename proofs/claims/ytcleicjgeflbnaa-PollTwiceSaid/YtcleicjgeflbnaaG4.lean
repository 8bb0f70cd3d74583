/- Walks of the functions that compare two records: each answers whether what they read as is the same. No condition but that the arguments read. -/
import Derived.Test.YtcleicjgeflbnaaG3
namespace Go.Proofs.Ytcleicjgeflbnaa
open Go.RowKit Go.ChangeShapes Go.WideShapes Go.Deep

set_option maxHeartbeats 16000000 in
set_option maxRecDepth 4000 in
theorem settings_any (cs1 cs2 : List Value) (x1 x2 : SettingsD) (w : World) (h1 : rSettings w cs1 x1) (h2 : rSettings w cs2 x2) :
    Calls Try.prog 37 #[.agg cs1.toArray, .agg cs2.toArray] w fun e w' => e = .returned (.bool (dec (x1 = x2))) ∧ Below w.heap.size w w' := by
  obtain ⟨t1, s1, o1, rfl, _, _, _, R_turns1, R_shifts1, R_offs1⟩ := h1
  rcases x1 with ⟨base1, turns1, shifts1, offs1, before1, after1⟩
  obtain ⟨t2, s2, o2, rfl, _, _, _, R_turns2, R_shifts2, R_offs2⟩ := h2
  rcases x2 with ⟨base2, turns2, shifts2, offs2, before2, after2⟩
  dsimp only at *
  obtain ⟨o_turns1, n_turns1, c_turns1, rfl, l_turns1, m_turns1, k_turns1, R_turns1⟩ := R_turns1.open
  have L_turns1 := Lib.hid l_turns1; have S_turns1 := Lib.hid R_turns1
  obtain ⟨o_turns2, n_turns2, c_turns2, rfl, l_turns2, m_turns2, k_turns2, R_turns2⟩ := R_turns2.open
  have L_turns2 := Lib.hid l_turns2; have S_turns2 := Lib.hid R_turns2
  have M_turns : n_turns1 < 9223372036854775808 := by (unfold maxLen at k_turns1; omega)
  clear l_turns1 l_turns2 R_turns1 R_turns2 m_turns1 m_turns2 k_turns1 k_turns2
  obtain ⟨o_shifts1, n_shifts1, c_shifts1, rfl, l_shifts1, m_shifts1, k_shifts1, R_shifts1⟩ := R_shifts1.open
  have L_shifts1 := Lib.hid l_shifts1; have S_shifts1 := Lib.hid R_shifts1
  obtain ⟨o_shifts2, n_shifts2, c_shifts2, rfl, l_shifts2, m_shifts2, k_shifts2, R_shifts2⟩ := R_shifts2.open
  have L_shifts2 := Lib.hid l_shifts2; have S_shifts2 := Lib.hid R_shifts2
  have M_shifts : n_shifts1 < 9223372036854775808 := by (unfold maxLen at k_shifts1; omega)
  clear l_shifts1 l_shifts2 R_shifts1 R_shifts2 m_shifts1 m_shifts2 k_shifts1 k_shifts2
  obtain ⟨o_offs1, n_offs1, c_offs1, rfl, l_offs1, m_offs1, k_offs1, R_offs1⟩ := R_offs1.open
  have L_offs1 := Lib.hid l_offs1; have S_offs1 := Lib.hid R_offs1
  obtain ⟨o_offs2, n_offs2, c_offs2, rfl, l_offs2, m_offs2, k_offs2, R_offs2⟩ := R_offs2.open
  have L_offs2 := Lib.hid l_offs2; have S_offs2 := Lib.hid R_offs2
  have M_offs : n_offs1 < 9223372036854775808 := by (unfold maxLen at k_offs1; omega)
  clear l_offs1 l_offs2 R_offs1 R_offs2 m_offs1 m_offs2 k_offs1 k_offs2
  by_cases h_base : base1 = base2
  · subst h_base
    by_cases h_turns : n_turns1 = n_turns2
    · subst h_turns
      by_cases h_before : before1 = before2
      · subst h_before
        by_cases h_after : after1 = after2
        · subst h_after
          have HB := Lib.hid (show Below w.heap.size w ((w.alloc (.cells #[.int .i64 base1, .slice o_turns1 n_turns1 c_turns1, .slice o_shifts1 n_shifts1 c_shifts1, .slice o_offs1 n_offs1 c_offs1, .int .i64 before1, .int .i64 after1] 38)).alloc (.cells #[.int .i64 base1, .slice o_turns2 n_turns1 c_turns2, .slice o_shifts2 n_shifts2 c_shifts2, .slice o_offs2 n_offs2 c_offs2, .int .i64 before1, .int .i64 after1] 38)) from ((Below.refl _ _).alloc (Nat.le_refl _) _).alloc (by simp) _)
          go_enter Try.func37, Try.ntmps37
          go_wp2_with fail
          go_loopw [42] (fun a wr => ∃ (k : Nat) (q : Nat), k ≤ n_turns1 ∧ a = .int .i64 k ∧ wr = World.drewN ((w.alloc (.cells #[.int .i64 base1, .slice o_turns1 n_turns1 c_turns1, .slice o_shifts1 n_shifts1 c_shifts1, .slice o_offs1 n_offs1 c_offs1, .int .i64 before1, .int .i64 after1] 38)).alloc (.cells #[.int .i64 base1, .slice o_turns2 n_turns1 c_turns2, .slice o_shifts2 n_shifts2 c_shifts2, .slice o_offs2 n_offs2 c_offs2, .int .i64 before1, .int .i64 after1] 38)) q ∧ ∀ i, i < k → turns1[i]? = turns2[i]?) (fun a _ => n_turns1 - (intOf a).toNat)
          case atStart => first | exact ⟨0, 0, Nat.zero_le _, rfl, rfl, fun i hi => absurd hi (by omega)⟩ | exact ⟨0, _, Nat.zero_le _, rfl, rfl, fun i hi => absurd hi (by omega)⟩
          case round =>
            obtain ⟨k, q, hk, rfl, rfl, heq⟩ := hrel
            have HEQ := Lib.hid heq
            clear heq
            by_cases hlt : k < n_turns1
            · obtain ⟨x, a1, cs1, hx, rfl, q1, q3, q0, q2⟩ := S_turns1.out.elem HB.out k hlt
              obtain ⟨y, a2, cs2, hy, rfl, p1, p3, p0, p2⟩ := S_turns2.out.elem HB.out k hlt
              obtain ⟨rfl, _⟩ := q3
              obtain ⟨rfl, _⟩ := p3
              have hc0 := q0 (by decide); have hd0 := p0 (by decide)
              have hc1 := q2 1 (by decide) (by decide); have hd1 := p2 1 (by decide) (by decide)
              simp only [List.getElem?_cons_zero, List.getElem?_cons_succ] at hc0 hd0 hc1 hd1
              have Hx := Lib.hid hx; have Hy := Lib.hid hy
              clear q0 q1 q2 p0 p1 p2 hx hy
              have hlt' : (k : Int) < (n_turns1 : Int) := by omega
              rcases x with ⟨x0, x1⟩
              rcases y with ⟨y0, y1⟩
              by_cases h0 : x0 = y0
              · subst h0
                by_cases h1 : x1 = y1
                · subst h1
                  go_wp2; go_quiet (fail); go_wp2; go_roundw
                  case measure => simp [intOf]; omega
                  case rel =>
                  refine ⟨k + 1, _, by omega, by go_num, rfl, fun i hi => ?_⟩
                  by_cases hik : i = k
                  · rw [hik, Hx.out, Hy.out]
                  · exact HEQ.out i (by omega)
                · have g1 : (x1 == y1) = false := by rw [beq_eq_false_iff_ne]; exact h1
                  have H1 := Lib.hid h1; clear h1
                  go_wp2; go_quiet (fail); go_wp2; go_ret
                  exact ⟨ret_f (fun e => rows_ne' k Hx.out Hy.out (fun e => H1.out (by cases e; rfl)) (by cases e; rfl)), (by first | exact below_drewN (below_drewN HB.out _) _ | exact below_drewN HB.out _ | exact HB.out)⟩
              · have g0 : (x0 == y0) = false := by rw [beq_eq_false_iff_ne]; exact h0
                have H0 := Lib.hid h0; clear h0
                go_wp2; go_quiet (fail); go_wp2; go_ret
                exact ⟨ret_f (fun e => rows_ne' k Hx.out Hy.out (fun e => H0.out (by cases e; rfl)) (by cases e; rfl)), (by first | exact below_drewN (below_drewN HB.out _) _ | exact below_drewN HB.out _ | exact HB.out)⟩
            · obtain rfl : n_turns1 = k := by omega
              have E_turns := Lib.hid (rows_eq' L_turns1.out L_turns2.out HEQ.out)
              clear HEQ hlt
              by_cases h_shifts : shifts1 = shifts2
              · have E_shifts := Lib.hid h_shifts; clear h_shifts
                have C_shifts := Lib.hid (fun (W : World) (hb : Below w.heap.size w W) => c_t (shifts_any _ _ shifts1 shifts2 W (S_shifts1.out.later' hb) (S_shifts2.out.later' hb)) E_shifts.out)
                by_cases h_offs : offs1 = offs2
                · have E_offs := Lib.hid h_offs; clear h_offs
                  have C_offs := Lib.hid (fun (W : World) (hb : Below w.heap.size w W) => c_t (ints_any _ _ offs1 offs2 W (S_offs1.out.later' hb) (S_offs2.out.later' hb)) E_offs.out)
                  go_wp2_with fail
                  (with_reducible refine (C_shifts.out _ (below_drewN HB.out _)).mono ?_)
                  rintro e w_q ⟨rfl, m_q, rfl⟩
                  go_wp2_with fail
                  (with_reducible refine (C_offs.out _ (below_drewN HB.out _)).mono ?_)
                  rintro e w_q ⟨rfl, m_q, rfl⟩
                  go_wp2_with fail
                  go_ret
                  exact ⟨ret_t (by rw [E_turns.out, E_shifts.out, E_offs.out]), (by first | exact below_drewN (below_drewN HB.out _) _ | exact below_drewN HB.out _ | exact HB.out)⟩
                · have E_offs := Lib.hid h_offs; clear h_offs
                  have C_offs := Lib.hid (fun (W : World) (hb : Below w.heap.size w W) => c_f (ints_any _ _ offs1 offs2 W (S_offs1.out.later' hb) (S_offs2.out.later' hb)) E_offs.out)
                  go_wp2_with fail
                  (with_reducible refine (C_shifts.out _ (below_drewN HB.out _)).mono ?_)
                  rintro e w_q ⟨rfl, m_q, rfl⟩
                  go_wp2_with fail
                  (with_reducible refine (C_offs.out _ (below_drewN HB.out _)).mono ?_)
                  rintro e w_q ⟨rfl, m_q, rfl⟩
                  go_wp2_with fail
                  go_ret
                  exact ⟨ret_f (fun e => E_offs.out (by cases e; rfl)), (by first | exact below_drewN (below_drewN HB.out _) _ | exact below_drewN HB.out _ | exact HB.out)⟩
              · have E_shifts := Lib.hid h_shifts; clear h_shifts
                have C_shifts := Lib.hid (fun (W : World) (hb : Below w.heap.size w W) => c_f (shifts_any _ _ shifts1 shifts2 W (S_shifts1.out.later' hb) (S_shifts2.out.later' hb)) E_shifts.out)
                go_wp2_with fail
                (with_reducible refine (C_shifts.out _ (below_drewN HB.out _)).mono ?_)
                rintro e w_q ⟨rfl, m_q, rfl⟩
                go_wp2_with fail
                go_ret
                exact ⟨ret_f (fun e => E_shifts.out (by cases e; rfl)), (by first | exact below_drewN (below_drewN HB.out _) _ | exact below_drewN HB.out _ | exact HB.out)⟩
        · have g_after : (after1 == after2) = false := by rw [beq_eq_false_iff_ne]; exact h_after
          have H_after := Lib.hid h_after; clear h_after
          have HB := Lib.hid (show Below w.heap.size w ((w.alloc (.cells #[.int .i64 base1, .slice o_turns1 n_turns1 c_turns1, .slice o_shifts1 n_shifts1 c_shifts1, .slice o_offs1 n_offs1 c_offs1, .int .i64 before1, .int .i64 after1] 38)).alloc (.cells #[.int .i64 base1, .slice o_turns2 n_turns1 c_turns2, .slice o_shifts2 n_shifts2 c_shifts2, .slice o_offs2 n_offs2 c_offs2, .int .i64 before1, .int .i64 after2] 38)) from ((Below.refl _ _).alloc (Nat.le_refl _) _).alloc (by simp) _)
          go_enter Try.func37, Try.ntmps37
          go_wp2_with fail
          go_ret
          exact ⟨ret_f (fun e => H_after.out (by cases e; rfl)), (by first | exact below_drewN (below_drewN HB.out _) _ | exact below_drewN HB.out _ | exact HB.out)⟩
      · have g_before : (before1 == before2) = false := by rw [beq_eq_false_iff_ne]; exact h_before
        have H_before := Lib.hid h_before; clear h_before
        have HB := Lib.hid (show Below w.heap.size w ((w.alloc (.cells #[.int .i64 base1, .slice o_turns1 n_turns1 c_turns1, .slice o_shifts1 n_shifts1 c_shifts1, .slice o_offs1 n_offs1 c_offs1, .int .i64 before1, .int .i64 after1] 38)).alloc (.cells #[.int .i64 base1, .slice o_turns2 n_turns1 c_turns2, .slice o_shifts2 n_shifts2 c_shifts2, .slice o_offs2 n_offs2 c_offs2, .int .i64 before2, .int .i64 after2] 38)) from ((Below.refl _ _).alloc (Nat.le_refl _) _).alloc (by simp) _)
        go_enter Try.func37, Try.ntmps37
        go_wp2_with fail
        go_ret
        exact ⟨ret_f (fun e => H_before.out (by cases e; rfl)), (by first | exact below_drewN (below_drewN HB.out _) _ | exact below_drewN HB.out _ | exact HB.out)⟩
    · have g_turns : ((n_turns1 : Int) == n_turns2) = false := by rw [beq_eq_false_iff_ne]; omega
      have H_turns := Lib.hid h_turns
      have HB := Lib.hid (show Below w.heap.size w ((w.alloc (.cells #[.int .i64 base1, .slice o_turns1 n_turns1 c_turns1, .slice o_shifts1 n_shifts1 c_shifts1, .slice o_offs1 n_offs1 c_offs1, .int .i64 before1, .int .i64 after1] 38)).alloc (.cells #[.int .i64 base1, .slice o_turns2 n_turns2 c_turns2, .slice o_shifts2 n_shifts2 c_shifts2, .slice o_offs2 n_offs2 c_offs2, .int .i64 before2, .int .i64 after2] 38)) from ((Below.refl _ _).alloc (Nat.le_refl _) _).alloc (by simp) _)
      go_enter Try.func37, Try.ntmps37
      go_wp2_with fail
      go_ret
      exact ⟨ret_f (fun e => H_turns.out (by rw [← L_turns1.out, ← L_turns2.out]; cases e; rfl)), (by first | exact below_drewN (below_drewN HB.out _) _ | exact below_drewN HB.out _ | exact HB.out)⟩
  · have g_base : (base1 == base2) = false := by rw [beq_eq_false_iff_ne]; exact h_base
    have H_base := Lib.hid h_base; clear h_base
    have HB := Lib.hid (show Below w.heap.size w ((w.alloc (.cells #[.int .i64 base1, .slice o_turns1 n_turns1 c_turns1, .slice o_shifts1 n_shifts1 c_shifts1, .slice o_offs1 n_offs1 c_offs1, .int .i64 before1, .int .i64 after1] 38)).alloc (.cells #[.int .i64 base2, .slice o_turns2 n_turns2 c_turns2, .slice o_shifts2 n_shifts2 c_shifts2, .slice o_offs2 n_offs2 c_offs2, .int .i64 before2, .int .i64 after2] 38)) from ((Below.refl _ _).alloc (Nat.le_refl _) _).alloc (by simp) _)
    go_enter Try.func37, Try.ntmps37
    go_wp2_with fail
    go_ret
    exact ⟨ret_f (fun e => H_base.out (by cases e; rfl)), (by first | exact below_drewN (below_drewN HB.out _) _ | exact below_drewN HB.out _ | exact HB.out)⟩

set_option maxHeartbeats 16000000 in
set_option maxRecDepth 4000 in
theorem rule_any (cs1 cs2 : List Value) (x1 x2 : RuleD) (w : World) (h1 : rRule w cs1 x1) (h2 : rRule w cs2 x2) :
    Calls Try.prog 51 #[.agg cs1.toArray, .agg cs2.toArray] w fun e w' => e = .returned (.bool (dec (x1 = x2))) ∧ Below w.heap.size w w' := by
  obtain ⟨m1, d1, y1, p1, rfl, _, _, _, _, _, R_byMonth1, R_byMonthDay1, R_byDay1, R_bySetPos1⟩ := h1
  rcases x1 with ⟨freq1, interval1, count1, until_1, byMonth1, byMonthDay1, byDay1, bySetPos1, start1⟩
  obtain ⟨m2, d2, y2, p2, rfl, _, _, _, _, _, R_byMonth2, R_byMonthDay2, R_byDay2, R_bySetPos2⟩ := h2
  rcases x2 with ⟨freq2, interval2, count2, until_2, byMonth2, byMonthDay2, byDay2, bySetPos2, start2⟩
  dsimp only at *
  obtain ⟨o_byMonth1, n_byMonth1, c_byMonth1, rfl, l_byMonth1, m_byMonth1, k_byMonth1, R_byMonth1⟩ := R_byMonth1.open
  have L_byMonth1 := Lib.hid l_byMonth1; have S_byMonth1 := Lib.hid R_byMonth1
  obtain ⟨o_byMonth2, n_byMonth2, c_byMonth2, rfl, l_byMonth2, m_byMonth2, k_byMonth2, R_byMonth2⟩ := R_byMonth2.open
  have L_byMonth2 := Lib.hid l_byMonth2; have S_byMonth2 := Lib.hid R_byMonth2
  have M_byMonth : n_byMonth1 < 9223372036854775808 := by (unfold maxLen at k_byMonth1; omega)
  clear l_byMonth1 l_byMonth2 R_byMonth1 R_byMonth2 m_byMonth1 m_byMonth2 k_byMonth1 k_byMonth2
  obtain ⟨o_byMonthDay1, n_byMonthDay1, c_byMonthDay1, rfl, l_byMonthDay1, m_byMonthDay1, k_byMonthDay1, R_byMonthDay1⟩ := R_byMonthDay1.open
  have L_byMonthDay1 := Lib.hid l_byMonthDay1; have S_byMonthDay1 := Lib.hid R_byMonthDay1
  obtain ⟨o_byMonthDay2, n_byMonthDay2, c_byMonthDay2, rfl, l_byMonthDay2, m_byMonthDay2, k_byMonthDay2, R_byMonthDay2⟩ := R_byMonthDay2.open
  have L_byMonthDay2 := Lib.hid l_byMonthDay2; have S_byMonthDay2 := Lib.hid R_byMonthDay2
  have M_byMonthDay : n_byMonthDay1 < 9223372036854775808 := by (unfold maxLen at k_byMonthDay1; omega)
  clear l_byMonthDay1 l_byMonthDay2 R_byMonthDay1 R_byMonthDay2 m_byMonthDay1 m_byMonthDay2 k_byMonthDay1 k_byMonthDay2
  obtain ⟨o_byDay1, n_byDay1, c_byDay1, rfl, l_byDay1, m_byDay1, k_byDay1, R_byDay1⟩ := R_byDay1.open
  have L_byDay1 := Lib.hid l_byDay1; have S_byDay1 := Lib.hid R_byDay1
  obtain ⟨o_byDay2, n_byDay2, c_byDay2, rfl, l_byDay2, m_byDay2, k_byDay2, R_byDay2⟩ := R_byDay2.open
  have L_byDay2 := Lib.hid l_byDay2; have S_byDay2 := Lib.hid R_byDay2
  have M_byDay : n_byDay1 < 9223372036854775808 := by (unfold maxLen at k_byDay1; omega)
  clear l_byDay1 l_byDay2 R_byDay1 R_byDay2 m_byDay1 m_byDay2 k_byDay1 k_byDay2
  obtain ⟨o_bySetPos1, n_bySetPos1, c_bySetPos1, rfl, l_bySetPos1, m_bySetPos1, k_bySetPos1, R_bySetPos1⟩ := R_bySetPos1.open
  have L_bySetPos1 := Lib.hid l_bySetPos1; have S_bySetPos1 := Lib.hid R_bySetPos1
  obtain ⟨o_bySetPos2, n_bySetPos2, c_bySetPos2, rfl, l_bySetPos2, m_bySetPos2, k_bySetPos2, R_bySetPos2⟩ := R_bySetPos2.open
  have L_bySetPos2 := Lib.hid l_bySetPos2; have S_bySetPos2 := Lib.hid R_bySetPos2
  have M_bySetPos : n_bySetPos1 < 9223372036854775808 := by (unfold maxLen at k_bySetPos1; omega)
  clear l_bySetPos1 l_bySetPos2 R_bySetPos1 R_bySetPos2 m_bySetPos1 m_bySetPos2 k_bySetPos1 k_bySetPos2
  by_cases h_freq : freq1 = freq2
  · subst h_freq
    by_cases h_interval : interval1 = interval2
    · subst h_interval
      by_cases h_count : count1 = count2
      · subst h_count
        by_cases h_until_ : until_1 = until_2
        · subst h_until_
          by_cases h_start : start1 = start2
          · subst h_start
            by_cases h_byDay : n_byDay1 = n_byDay2
            · subst h_byDay
              have HB := Lib.hid (show Below w.heap.size w ((w.alloc (.cells #[.int .i64 freq1, .int .i64 interval1, .int .i64 count1, .int .i64 until_1, .slice o_byMonth1 n_byMonth1 c_byMonth1, .slice o_byMonthDay1 n_byMonthDay1 c_byMonthDay1, .slice o_byDay1 n_byDay1 c_byDay1, .slice o_bySetPos1 n_bySetPos1 c_bySetPos1, .int .i64 start1] 41)).alloc (.cells #[.int .i64 freq1, .int .i64 interval1, .int .i64 count1, .int .i64 until_1, .slice o_byMonth2 n_byMonth2 c_byMonth2, .slice o_byMonthDay2 n_byMonthDay2 c_byMonthDay2, .slice o_byDay2 n_byDay1 c_byDay2, .slice o_bySetPos2 n_bySetPos2 c_bySetPos2, .int .i64 start1] 41)) from ((Below.refl _ _).alloc (Nat.le_refl _) _).alloc (by simp) _)
              go_enter Try.func51, Try.ntmps51
              go_wp2_with fail
              go_loopw [51] (fun a wr => ∃ (k : Nat) (q : Nat), k ≤ n_byDay1 ∧ a = .int .i64 k ∧ wr = World.drewN ((w.alloc (.cells #[.int .i64 freq1, .int .i64 interval1, .int .i64 count1, .int .i64 until_1, .slice o_byMonth1 n_byMonth1 c_byMonth1, .slice o_byMonthDay1 n_byMonthDay1 c_byMonthDay1, .slice o_byDay1 n_byDay1 c_byDay1, .slice o_bySetPos1 n_bySetPos1 c_bySetPos1, .int .i64 start1] 41)).alloc (.cells #[.int .i64 freq1, .int .i64 interval1, .int .i64 count1, .int .i64 until_1, .slice o_byMonth2 n_byMonth2 c_byMonth2, .slice o_byMonthDay2 n_byMonthDay2 c_byMonthDay2, .slice o_byDay2 n_byDay1 c_byDay2, .slice o_bySetPos2 n_bySetPos2 c_bySetPos2, .int .i64 start1] 41)) q ∧ ∀ i, i < k → byDay1[i]? = byDay2[i]?) (fun a _ => n_byDay1 - (intOf a).toNat)
              case atStart => first | exact ⟨0, 0, Nat.zero_le _, rfl, rfl, fun i hi => absurd hi (by omega)⟩ | exact ⟨0, _, Nat.zero_le _, rfl, rfl, fun i hi => absurd hi (by omega)⟩
              case round =>
                obtain ⟨k, q, hk, rfl, rfl, heq⟩ := hrel
                have HEQ := Lib.hid heq
                clear heq
                by_cases hlt : k < n_byDay1
                · obtain ⟨x, a1, cs1, hx, rfl, q1, q3, q0, q2⟩ := S_byDay1.out.elem HB.out k hlt
                  obtain ⟨y, a2, cs2, hy, rfl, p1, p3, p0, p2⟩ := S_byDay2.out.elem HB.out k hlt
                  obtain ⟨rfl, _⟩ := q3
                  obtain ⟨rfl, _⟩ := p3
                  have hc0 := q0 (by decide); have hd0 := p0 (by decide)
                  have hc1 := q2 1 (by decide) (by decide); have hd1 := p2 1 (by decide) (by decide)
                  simp only [List.getElem?_cons_zero, List.getElem?_cons_succ] at hc0 hd0 hc1 hd1
                  have Hx := Lib.hid hx; have Hy := Lib.hid hy
                  clear q0 q1 q2 p0 p1 p2 hx hy
                  have hlt' : (k : Int) < (n_byDay1 : Int) := by omega
                  rcases x with ⟨x0, x1⟩
                  rcases y with ⟨y0, y1⟩
                  by_cases h0 : x0 = y0
                  · subst h0
                    by_cases h1 : x1 = y1
                    · subst h1
                      go_wp2; go_quiet (fail); go_wp2; go_roundw
                      case measure => simp [intOf]; omega
                      case rel =>
                      refine ⟨k + 1, _, by omega, by go_num, rfl, fun i hi => ?_⟩
                      by_cases hik : i = k
                      · rw [hik, Hx.out, Hy.out]
                      · exact HEQ.out i (by omega)
                    · have g1 : (x1 == y1) = false := by rw [beq_eq_false_iff_ne]; exact h1
                      have H1 := Lib.hid h1; clear h1
                      go_wp2; go_quiet (fail); go_wp2; go_ret
                      exact ⟨ret_f (fun e => rows_ne' k Hx.out Hy.out (fun e => H1.out (by cases e; rfl)) (by cases e; rfl)), (by first | exact below_drewN (below_drewN HB.out _) _ | exact below_drewN HB.out _ | exact HB.out)⟩
                  · have g0 : (x0 == y0) = false := by rw [beq_eq_false_iff_ne]; exact h0
                    have H0 := Lib.hid h0; clear h0
                    go_wp2; go_quiet (fail); go_wp2; go_ret
                    exact ⟨ret_f (fun e => rows_ne' k Hx.out Hy.out (fun e => H0.out (by cases e; rfl)) (by cases e; rfl)), (by first | exact below_drewN (below_drewN HB.out _) _ | exact below_drewN HB.out _ | exact HB.out)⟩
                · obtain rfl : n_byDay1 = k := by omega
                  have E_byDay := Lib.hid (rows_eq' L_byDay1.out L_byDay2.out HEQ.out)
                  clear HEQ hlt
                  by_cases h_byMonth : byMonth1 = byMonth2
                  · have E_byMonth := Lib.hid h_byMonth; clear h_byMonth
                    have C_byMonth := Lib.hid (fun (W : World) (hb : Below w.heap.size w W) => c_t (ints9_any _ _ byMonth1 byMonth2 W (S_byMonth1.out.later' hb) (S_byMonth2.out.later' hb)) E_byMonth.out)
                    by_cases h_byMonthDay : byMonthDay1 = byMonthDay2
                    · have E_byMonthDay := Lib.hid h_byMonthDay; clear h_byMonthDay
                      have C_byMonthDay := Lib.hid (fun (W : World) (hb : Below w.heap.size w W) => c_t (ints9_any _ _ byMonthDay1 byMonthDay2 W (S_byMonthDay1.out.later' hb) (S_byMonthDay2.out.later' hb)) E_byMonthDay.out)
                      by_cases h_bySetPos : bySetPos1 = bySetPos2
                      · have E_bySetPos := Lib.hid h_bySetPos; clear h_bySetPos
                        have C_bySetPos := Lib.hid (fun (W : World) (hb : Below w.heap.size w W) => c_t (ints9_any _ _ bySetPos1 bySetPos2 W (S_bySetPos1.out.later' hb) (S_bySetPos2.out.later' hb)) E_bySetPos.out)
                        go_wp2_with fail
                        (with_reducible refine (C_byMonth.out _ (below_drewN HB.out _)).mono ?_)
                        rintro e w_q ⟨rfl, m_q, rfl⟩
                        go_wp2_with fail
                        (with_reducible refine (C_byMonthDay.out _ (below_drewN HB.out _)).mono ?_)
                        rintro e w_q ⟨rfl, m_q, rfl⟩
                        go_wp2_with fail
                        (with_reducible refine (C_bySetPos.out _ (below_drewN HB.out _)).mono ?_)
                        rintro e w_q ⟨rfl, m_q, rfl⟩
                        go_wp2_with fail
                        go_ret
                        exact ⟨ret_t (by rw [E_byDay.out, E_byMonth.out, E_byMonthDay.out, E_bySetPos.out]), (by first | exact below_drewN (below_drewN HB.out _) _ | exact below_drewN HB.out _ | exact HB.out)⟩
                      · have E_bySetPos := Lib.hid h_bySetPos; clear h_bySetPos
                        have C_bySetPos := Lib.hid (fun (W : World) (hb : Below w.heap.size w W) => c_f (ints9_any _ _ bySetPos1 bySetPos2 W (S_bySetPos1.out.later' hb) (S_bySetPos2.out.later' hb)) E_bySetPos.out)
                        go_wp2_with fail
                        (with_reducible refine (C_byMonth.out _ (below_drewN HB.out _)).mono ?_)
                        rintro e w_q ⟨rfl, m_q, rfl⟩
                        go_wp2_with fail
                        (with_reducible refine (C_byMonthDay.out _ (below_drewN HB.out _)).mono ?_)
                        rintro e w_q ⟨rfl, m_q, rfl⟩
                        go_wp2_with fail
                        (with_reducible refine (C_bySetPos.out _ (below_drewN HB.out _)).mono ?_)
                        rintro e w_q ⟨rfl, m_q, rfl⟩
                        go_wp2_with fail
                        go_ret
                        exact ⟨ret_f (fun e => E_bySetPos.out (by cases e; rfl)), (by first | exact below_drewN (below_drewN HB.out _) _ | exact below_drewN HB.out _ | exact HB.out)⟩
                    · have E_byMonthDay := Lib.hid h_byMonthDay; clear h_byMonthDay
                      have C_byMonthDay := Lib.hid (fun (W : World) (hb : Below w.heap.size w W) => c_f (ints9_any _ _ byMonthDay1 byMonthDay2 W (S_byMonthDay1.out.later' hb) (S_byMonthDay2.out.later' hb)) E_byMonthDay.out)
                      go_wp2_with fail
                      (with_reducible refine (C_byMonth.out _ (below_drewN HB.out _)).mono ?_)
                      rintro e w_q ⟨rfl, m_q, rfl⟩
                      go_wp2_with fail
                      (with_reducible refine (C_byMonthDay.out _ (below_drewN HB.out _)).mono ?_)
                      rintro e w_q ⟨rfl, m_q, rfl⟩
                      go_wp2_with fail
                      go_ret
                      exact ⟨ret_f (fun e => E_byMonthDay.out (by cases e; rfl)), (by first | exact below_drewN (below_drewN HB.out _) _ | exact below_drewN HB.out _ | exact HB.out)⟩
                  · have E_byMonth := Lib.hid h_byMonth; clear h_byMonth
                    have C_byMonth := Lib.hid (fun (W : World) (hb : Below w.heap.size w W) => c_f (ints9_any _ _ byMonth1 byMonth2 W (S_byMonth1.out.later' hb) (S_byMonth2.out.later' hb)) E_byMonth.out)
                    go_wp2_with fail
                    (with_reducible refine (C_byMonth.out _ (below_drewN HB.out _)).mono ?_)
                    rintro e w_q ⟨rfl, m_q, rfl⟩
                    go_wp2_with fail
                    go_ret
                    exact ⟨ret_f (fun e => E_byMonth.out (by cases e; rfl)), (by first | exact below_drewN (below_drewN HB.out _) _ | exact below_drewN HB.out _ | exact HB.out)⟩
            · have g_byDay : ((n_byDay1 : Int) == n_byDay2) = false := by rw [beq_eq_false_iff_ne]; omega
              have H_byDay := Lib.hid h_byDay
              have HB := Lib.hid (show Below w.heap.size w ((w.alloc (.cells #[.int .i64 freq1, .int .i64 interval1, .int .i64 count1, .int .i64 until_1, .slice o_byMonth1 n_byMonth1 c_byMonth1, .slice o_byMonthDay1 n_byMonthDay1 c_byMonthDay1, .slice o_byDay1 n_byDay1 c_byDay1, .slice o_bySetPos1 n_bySetPos1 c_bySetPos1, .int .i64 start1] 41)).alloc (.cells #[.int .i64 freq1, .int .i64 interval1, .int .i64 count1, .int .i64 until_1, .slice o_byMonth2 n_byMonth2 c_byMonth2, .slice o_byMonthDay2 n_byMonthDay2 c_byMonthDay2, .slice o_byDay2 n_byDay2 c_byDay2, .slice o_bySetPos2 n_bySetPos2 c_bySetPos2, .int .i64 start1] 41)) from ((Below.refl _ _).alloc (Nat.le_refl _) _).alloc (by simp) _)
              go_enter Try.func51, Try.ntmps51
              go_wp2_with fail
              go_ret
              exact ⟨ret_f (fun e => H_byDay.out (by rw [← L_byDay1.out, ← L_byDay2.out]; cases e; rfl)), (by first | exact below_drewN (below_drewN HB.out _) _ | exact below_drewN HB.out _ | exact HB.out)⟩
          · have g_start : (start1 == start2) = false := by rw [beq_eq_false_iff_ne]; exact h_start
            have H_start := Lib.hid h_start; clear h_start
            have HB := Lib.hid (show Below w.heap.size w ((w.alloc (.cells #[.int .i64 freq1, .int .i64 interval1, .int .i64 count1, .int .i64 until_1, .slice o_byMonth1 n_byMonth1 c_byMonth1, .slice o_byMonthDay1 n_byMonthDay1 c_byMonthDay1, .slice o_byDay1 n_byDay1 c_byDay1, .slice o_bySetPos1 n_bySetPos1 c_bySetPos1, .int .i64 start1] 41)).alloc (.cells #[.int .i64 freq1, .int .i64 interval1, .int .i64 count1, .int .i64 until_1, .slice o_byMonth2 n_byMonth2 c_byMonth2, .slice o_byMonthDay2 n_byMonthDay2 c_byMonthDay2, .slice o_byDay2 n_byDay2 c_byDay2, .slice o_bySetPos2 n_bySetPos2 c_bySetPos2, .int .i64 start2] 41)) from ((Below.refl _ _).alloc (Nat.le_refl _) _).alloc (by simp) _)
            go_enter Try.func51, Try.ntmps51
            go_wp2_with fail
            go_ret
            exact ⟨ret_f (fun e => H_start.out (by cases e; rfl)), (by first | exact below_drewN (below_drewN HB.out _) _ | exact below_drewN HB.out _ | exact HB.out)⟩
        · have g_until_ : (until_1 == until_2) = false := by rw [beq_eq_false_iff_ne]; exact h_until_
          have H_until_ := Lib.hid h_until_; clear h_until_
          have HB := Lib.hid (show Below w.heap.size w ((w.alloc (.cells #[.int .i64 freq1, .int .i64 interval1, .int .i64 count1, .int .i64 until_1, .slice o_byMonth1 n_byMonth1 c_byMonth1, .slice o_byMonthDay1 n_byMonthDay1 c_byMonthDay1, .slice o_byDay1 n_byDay1 c_byDay1, .slice o_bySetPos1 n_bySetPos1 c_bySetPos1, .int .i64 start1] 41)).alloc (.cells #[.int .i64 freq1, .int .i64 interval1, .int .i64 count1, .int .i64 until_2, .slice o_byMonth2 n_byMonth2 c_byMonth2, .slice o_byMonthDay2 n_byMonthDay2 c_byMonthDay2, .slice o_byDay2 n_byDay2 c_byDay2, .slice o_bySetPos2 n_bySetPos2 c_bySetPos2, .int .i64 start2] 41)) from ((Below.refl _ _).alloc (Nat.le_refl _) _).alloc (by simp) _)
          go_enter Try.func51, Try.ntmps51
          go_wp2_with fail
          go_ret
          exact ⟨ret_f (fun e => H_until_.out (by cases e; rfl)), (by first | exact below_drewN (below_drewN HB.out _) _ | exact below_drewN HB.out _ | exact HB.out)⟩
      · have g_count : (count1 == count2) = false := by rw [beq_eq_false_iff_ne]; exact h_count
        have H_count := Lib.hid h_count; clear h_count
        have HB := Lib.hid (show Below w.heap.size w ((w.alloc (.cells #[.int .i64 freq1, .int .i64 interval1, .int .i64 count1, .int .i64 until_1, .slice o_byMonth1 n_byMonth1 c_byMonth1, .slice o_byMonthDay1 n_byMonthDay1 c_byMonthDay1, .slice o_byDay1 n_byDay1 c_byDay1, .slice o_bySetPos1 n_bySetPos1 c_bySetPos1, .int .i64 start1] 41)).alloc (.cells #[.int .i64 freq1, .int .i64 interval1, .int .i64 count2, .int .i64 until_2, .slice o_byMonth2 n_byMonth2 c_byMonth2, .slice o_byMonthDay2 n_byMonthDay2 c_byMonthDay2, .slice o_byDay2 n_byDay2 c_byDay2, .slice o_bySetPos2 n_bySetPos2 c_bySetPos2, .int .i64 start2] 41)) from ((Below.refl _ _).alloc (Nat.le_refl _) _).alloc (by simp) _)
        go_enter Try.func51, Try.ntmps51
        go_wp2_with fail
        go_ret
        exact ⟨ret_f (fun e => H_count.out (by cases e; rfl)), (by first | exact below_drewN (below_drewN HB.out _) _ | exact below_drewN HB.out _ | exact HB.out)⟩
    · have g_interval : (interval1 == interval2) = false := by rw [beq_eq_false_iff_ne]; exact h_interval
      have H_interval := Lib.hid h_interval; clear h_interval
      have HB := Lib.hid (show Below w.heap.size w ((w.alloc (.cells #[.int .i64 freq1, .int .i64 interval1, .int .i64 count1, .int .i64 until_1, .slice o_byMonth1 n_byMonth1 c_byMonth1, .slice o_byMonthDay1 n_byMonthDay1 c_byMonthDay1, .slice o_byDay1 n_byDay1 c_byDay1, .slice o_bySetPos1 n_bySetPos1 c_bySetPos1, .int .i64 start1] 41)).alloc (.cells #[.int .i64 freq1, .int .i64 interval2, .int .i64 count2, .int .i64 until_2, .slice o_byMonth2 n_byMonth2 c_byMonth2, .slice o_byMonthDay2 n_byMonthDay2 c_byMonthDay2, .slice o_byDay2 n_byDay2 c_byDay2, .slice o_bySetPos2 n_bySetPos2 c_bySetPos2, .int .i64 start2] 41)) from ((Below.refl _ _).alloc (Nat.le_refl _) _).alloc (by simp) _)
      go_enter Try.func51, Try.ntmps51
      go_wp2_with fail
      go_ret
      exact ⟨ret_f (fun e => H_interval.out (by cases e; rfl)), (by first | exact below_drewN (below_drewN HB.out _) _ | exact below_drewN HB.out _ | exact HB.out)⟩
  · have g_freq : (freq1 == freq2) = false := by rw [beq_eq_false_iff_ne]; exact h_freq
    have H_freq := Lib.hid h_freq; clear h_freq
    have HB := Lib.hid (show Below w.heap.size w ((w.alloc (.cells #[.int .i64 freq1, .int .i64 interval1, .int .i64 count1, .int .i64 until_1, .slice o_byMonth1 n_byMonth1 c_byMonth1, .slice o_byMonthDay1 n_byMonthDay1 c_byMonthDay1, .slice o_byDay1 n_byDay1 c_byDay1, .slice o_bySetPos1 n_bySetPos1 c_bySetPos1, .int .i64 start1] 41)).alloc (.cells #[.int .i64 freq2, .int .i64 interval2, .int .i64 count2, .int .i64 until_2, .slice o_byMonth2 n_byMonth2 c_byMonth2, .slice o_byMonthDay2 n_byMonthDay2 c_byMonthDay2, .slice o_byDay2 n_byDay2 c_byDay2, .slice o_bySetPos2 n_bySetPos2 c_bySetPos2, .int .i64 start2] 41)) from ((Below.refl _ _).alloc (Nat.le_refl _) _).alloc (by simp) _)
    go_enter Try.func51, Try.ntmps51
    go_wp2_with fail
    go_ret
    exact ⟨ret_f (fun e => H_freq.out (by cases e; rfl)), (by first | exact below_drewN (below_drewN HB.out _) _ | exact below_drewN HB.out _ | exact HB.out)⟩
end Go.Proofs.Ytcleicjgeflbnaa
