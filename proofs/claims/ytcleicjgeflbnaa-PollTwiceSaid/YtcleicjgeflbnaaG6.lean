/- Walks of the functions that compare two records: each answers whether what they read as is the same. No condition but that the arguments read. -/
import Derived.Test.YtcleicjgeflbnaaG4
namespace Go.Proofs.Ytcleicjgeflbnaa
open Go.RowKit Go.ChangeShapes Go.WideShapes Go.Deep

set_option maxHeartbeats 16000000 in
set_option maxRecDepth 4000 in
theorem event_any (cs1 cs2 : List Value) (x1 x2 : EventD) (w : World) (h1 : rEvent w cs1 x1) (h2 : rEvent w cs2 x2) :
    Calls Try.prog 38 #[.agg cs1.toArray, .agg cs2.toArray] w fun e w' => e = .returned (.bool (dec (x1 = x2))) ∧ Below w.heap.size w w' := by
  obtain ⟨r1, e1, p1, c1, rfl, _, _, R_rule1, R_ex1, R_plus1, R_changes1⟩ := h1
  have Q_rule1 := R_rule1; obtain ⟨vm_rule1, vd_rule1, vy_rule1, vp_rule1, rfl, _⟩ := Q_rule1
  rcases x1 with ⟨start1, long1, world1, again1, rule1, ex1, plus1, changes1⟩
  obtain ⟨r2, e2, p2, c2, rfl, _, _, R_rule2, R_ex2, R_plus2, R_changes2⟩ := h2
  have Q_rule2 := R_rule2; obtain ⟨vm_rule2, vd_rule2, vy_rule2, vp_rule2, rfl, _⟩ := Q_rule2
  rcases x2 with ⟨start2, long2, world2, again2, rule2, ex2, plus2, changes2⟩
  dsimp only at *
  have S_rule1 := Lib.hid R_rule1; clear R_rule1
  have S_rule2 := Lib.hid R_rule2; clear R_rule2
  obtain ⟨o_ex1, n_ex1, c_ex1, rfl, l_ex1, m_ex1, k_ex1, R_ex1⟩ := R_ex1.open
  have L_ex1 := Lib.hid l_ex1; have S_ex1 := Lib.hid R_ex1
  obtain ⟨o_ex2, n_ex2, c_ex2, rfl, l_ex2, m_ex2, k_ex2, R_ex2⟩ := R_ex2.open
  have L_ex2 := Lib.hid l_ex2; have S_ex2 := Lib.hid R_ex2
  have M_ex : n_ex1 < 9223372036854775808 := by (unfold maxLen at k_ex1; omega)
  clear l_ex1 l_ex2 R_ex1 R_ex2 m_ex1 m_ex2 k_ex1 k_ex2
  obtain ⟨o_plus1, n_plus1, c_plus1, rfl, l_plus1, m_plus1, k_plus1, R_plus1⟩ := R_plus1.open
  have L_plus1 := Lib.hid l_plus1; have S_plus1 := Lib.hid R_plus1
  obtain ⟨o_plus2, n_plus2, c_plus2, rfl, l_plus2, m_plus2, k_plus2, R_plus2⟩ := R_plus2.open
  have L_plus2 := Lib.hid l_plus2; have S_plus2 := Lib.hid R_plus2
  have M_plus : n_plus1 < 9223372036854775808 := by (unfold maxLen at k_plus1; omega)
  clear l_plus1 l_plus2 R_plus1 R_plus2 m_plus1 m_plus2 k_plus1 k_plus2
  obtain ⟨o_changes1, n_changes1, c_changes1, rfl, l_changes1, m_changes1, k_changes1, R_changes1⟩ := R_changes1.open
  have L_changes1 := Lib.hid l_changes1; have S_changes1 := Lib.hid R_changes1
  obtain ⟨o_changes2, n_changes2, c_changes2, rfl, l_changes2, m_changes2, k_changes2, R_changes2⟩ := R_changes2.open
  have L_changes2 := Lib.hid l_changes2; have S_changes2 := Lib.hid R_changes2
  have M_changes : n_changes1 < 9223372036854775808 := by (unfold maxLen at k_changes1; omega)
  clear l_changes1 l_changes2 R_changes1 R_changes2 m_changes1 m_changes2 k_changes1 k_changes2
  simp only [List.cons_append, List.nil_append]
  by_cases h_start : start1 = start2
  · subst h_start
    by_cases h_long : long1 = long2
    · subst h_long
      by_cases h_again : again1 = again2
      · subst h_again
        by_cases h_world : world1 = world2
        · subst h_world
          by_cases h_changes : n_changes1 = n_changes2
          · subst h_changes
            have HB := Lib.hid (show Below w.heap.size w ((w.alloc (.cells #[.int .i64 start1, .int .i64 long1, .bool world1, .bool again1, .int .i64 rule1.freq, .int .i64 rule1.interval, .int .i64 rule1.count, .int .i64 rule1.until_, vm_rule1, vd_rule1, vy_rule1, vp_rule1, .int .i64 rule1.start, .slice o_ex1 n_ex1 c_ex1, .slice o_plus1 n_plus1 c_plus1, .slice o_changes1 n_changes1 c_changes1] 45)).alloc (.cells #[.int .i64 start1, .int .i64 long1, .bool world1, .bool again1, .int .i64 rule2.freq, .int .i64 rule2.interval, .int .i64 rule2.count, .int .i64 rule2.until_, vm_rule2, vd_rule2, vy_rule2, vp_rule2, .int .i64 rule2.start, .slice o_ex2 n_ex2 c_ex2, .slice o_plus2 n_plus2 c_plus2, .slice o_changes2 n_changes1 c_changes2] 45)) from ((Below.refl _ _).alloc (Nat.le_refl _) _).alloc (by simp) _)
            go_enter Try.func38, Try.ntmps38
            go_wp2_with fail
            go_loopw [44] (fun a wr => ∃ (k : Nat) (q : Nat), k ≤ n_changes1 ∧ a = .int .i64 k ∧ wr = World.drewN ((w.alloc (.cells #[.int .i64 start1, .int .i64 long1, .bool world1, .bool again1, .int .i64 rule1.freq, .int .i64 rule1.interval, .int .i64 rule1.count, .int .i64 rule1.until_, vm_rule1, vd_rule1, vy_rule1, vp_rule1, .int .i64 rule1.start, .slice o_ex1 n_ex1 c_ex1, .slice o_plus1 n_plus1 c_plus1, .slice o_changes1 n_changes1 c_changes1] 45)).alloc (.cells #[.int .i64 start1, .int .i64 long1, .bool world1, .bool again1, .int .i64 rule2.freq, .int .i64 rule2.interval, .int .i64 rule2.count, .int .i64 rule2.until_, vm_rule2, vd_rule2, vy_rule2, vp_rule2, .int .i64 rule2.start, .slice o_ex2 n_ex2 c_ex2, .slice o_plus2 n_plus2 c_plus2, .slice o_changes2 n_changes1 c_changes2] 45)) q ∧ ∀ i, i < k → changes1[i]? = changes2[i]?) (fun a _ => n_changes1 - (intOf a).toNat)
            case atStart => first | exact ⟨0, 0, Nat.zero_le _, rfl, rfl, fun i hi => absurd hi (by omega)⟩ | exact ⟨0, _, Nat.zero_le _, rfl, rfl, fun i hi => absurd hi (by omega)⟩
            case round =>
              obtain ⟨k, q, hk, rfl, rfl, heq⟩ := hrel
              have HEQ := Lib.hid heq
              clear heq
              by_cases hlt : k < n_changes1
              · obtain ⟨x, a1, cs1, hx, rfl, q1, q3, q0, q2⟩ := S_changes1.out.elem HB.out k hlt
                obtain ⟨y, a2, cs2, hy, rfl, p1, p3, p0, p2⟩ := S_changes2.out.elem HB.out k hlt
                obtain ⟨rfl, _⟩ := q3
                obtain ⟨rfl, _⟩ := p3
                have hc0 := q0 (by decide); have hd0 := p0 (by decide)
                have hc1 := q2 1 (by decide) (by decide); have hd1 := p2 1 (by decide) (by decide)
                have hc2 := q2 2 (by decide) (by decide); have hd2 := p2 2 (by decide) (by decide)
                simp only [List.getElem?_cons_zero, List.getElem?_cons_succ] at hc0 hd0 hc1 hd1 hc2 hd2
                have Hx := Lib.hid hx; have Hy := Lib.hid hy
                clear q0 q1 q2 p0 p1 p2 hx hy
                have hlt' : (k : Int) < (n_changes1 : Int) := by omega
                rcases x with ⟨x0, x1, x2⟩
                rcases y with ⟨y0, y1, y2⟩
                by_cases h0 : x0 = y0
                · subst h0
                  by_cases h1 : x1 = y1
                  · subst h1
                    by_cases h2 : x2 = y2
                    · subst h2
                      go_wp2; go_quiet (fail); go_wp2; go_roundw
                      case measure => simp [intOf]; omega
                      case rel =>
                      refine ⟨k + 1, _, by omega, by go_num, rfl, fun i hi => ?_⟩
                      by_cases hik : i = k
                      · rw [hik, Hx.out, Hy.out]
                      · exact HEQ.out i (by omega)
                    · have g2 : (x2 == y2) = false := by rw [beq_eq_false_iff_ne]; exact h2
                      have H2 := Lib.hid h2; clear h2
                      go_wp2; go_quiet (fail); go_wp2; go_ret
                      exact ⟨ret_f (fun e => rows_ne' k Hx.out Hy.out (fun e => H2.out (by cases e; rfl)) (by cases e; rfl)), (by first | exact below_drewN (below_drewN HB.out _) _ | exact below_drewN HB.out _ | exact HB.out)⟩
                  · have g1 : (x1 == y1) = false := by rw [beq_eq_false_iff_ne]; exact h1
                    have H1 := Lib.hid h1; clear h1
                    go_wp2; go_quiet (fail); go_wp2; go_ret
                    exact ⟨ret_f (fun e => rows_ne' k Hx.out Hy.out (fun e => H1.out (by cases e; rfl)) (by cases e; rfl)), (by first | exact below_drewN (below_drewN HB.out _) _ | exact below_drewN HB.out _ | exact HB.out)⟩
                · have g0 : (x0 == y0) = false := by rw [beq_eq_false_iff_ne]; exact h0
                  have H0 := Lib.hid h0; clear h0
                  go_wp2; go_quiet (fail); go_wp2; go_ret
                  exact ⟨ret_f (fun e => rows_ne' k Hx.out Hy.out (fun e => H0.out (by cases e; rfl)) (by cases e; rfl)), (by first | exact below_drewN (below_drewN HB.out _) _ | exact below_drewN HB.out _ | exact HB.out)⟩
              · obtain rfl : n_changes1 = k := by omega
                have E_changes := Lib.hid (rows_eq' L_changes1.out L_changes2.out HEQ.out)
                clear HEQ hlt
                by_cases h_rule : rule1 = rule2
                · have E_rule := Lib.hid h_rule; clear h_rule
                  have C_rule := Lib.hid (fun (W : World) (hb : Below w.heap.size w W) => c_t (rule_any _ _ rule1 rule2 W (S_rule1.out.later hb) (S_rule2.out.later hb)) E_rule.out)
                  by_cases h_ex : ex1 = ex2
                  · have E_ex := Lib.hid h_ex; clear h_ex
                    have C_ex := Lib.hid (fun (W : World) (hb : Below w.heap.size w W) => c_t (longs_any _ _ ex1 ex2 W (S_ex1.out.later' hb) (S_ex2.out.later' hb)) E_ex.out)
                    by_cases h_plus : plus1 = plus2
                    · have E_plus := Lib.hid h_plus; clear h_plus
                      have C_plus := Lib.hid (fun (W : World) (hb : Below w.heap.size w W) => c_t (longs_any _ _ plus1 plus2 W (S_plus1.out.later' hb) (S_plus2.out.later' hb)) E_plus.out)
                      go_wp2_with fail
                      (with_reducible refine (C_rule.out _ (below_drewN HB.out _)).mono ?_)
                      rintro e wf0 ⟨rfl, hb_wf0⟩
                      have b_wf0 := below_call (below_drewN HB.out _) hb_wf0
                      have HB_wf0 := Lib.hid b_wf0
                      have kA_wf0 : ∀ j, World.cell? wf0 ⟨w.heap.size, j, none⟩ = _ := fun j => hb_wf0.cell (by simp <;> omega)
                      have kB_wf0 : ∀ j, World.cell? wf0 ⟨w.heap.size + 1, j, none⟩ = _ := fun j => hb_wf0.cell (by simp <;> omega)
                      clear hb_wf0 b_wf0
                      go_wp2_with fail
                      (with_reducible refine (C_ex.out _ (HB_wf0.out)).mono ?_)
                      rintro e w_q ⟨rfl, m_q, rfl⟩
                      go_wp2_with fail
                      (with_reducible refine (C_plus.out _ (below_drewN HB_wf0.out _)).mono ?_)
                      rintro e w_q ⟨rfl, m_q, rfl⟩
                      go_wp2_with fail
                      go_ret
                      exact ⟨ret_t (by rw [E_changes.out, E_rule.out, E_ex.out, E_plus.out]), (by first | exact below_drewN (below_drewN HB_wf0.out _) _ | exact below_drewN HB_wf0.out _ | exact HB_wf0.out)⟩
                    · have E_plus := Lib.hid h_plus; clear h_plus
                      have C_plus := Lib.hid (fun (W : World) (hb : Below w.heap.size w W) => c_f (longs_any _ _ plus1 plus2 W (S_plus1.out.later' hb) (S_plus2.out.later' hb)) E_plus.out)
                      go_wp2_with fail
                      (with_reducible refine (C_rule.out _ (below_drewN HB.out _)).mono ?_)
                      rintro e wf0 ⟨rfl, hb_wf0⟩
                      have b_wf0 := below_call (below_drewN HB.out _) hb_wf0
                      have HB_wf0 := Lib.hid b_wf0
                      have kA_wf0 : ∀ j, World.cell? wf0 ⟨w.heap.size, j, none⟩ = _ := fun j => hb_wf0.cell (by simp <;> omega)
                      have kB_wf0 : ∀ j, World.cell? wf0 ⟨w.heap.size + 1, j, none⟩ = _ := fun j => hb_wf0.cell (by simp <;> omega)
                      clear hb_wf0 b_wf0
                      go_wp2_with fail
                      (with_reducible refine (C_ex.out _ (HB_wf0.out)).mono ?_)
                      rintro e w_q ⟨rfl, m_q, rfl⟩
                      go_wp2_with fail
                      (with_reducible refine (C_plus.out _ (below_drewN HB_wf0.out _)).mono ?_)
                      rintro e w_q ⟨rfl, m_q, rfl⟩
                      go_wp2_with fail
                      go_ret
                      exact ⟨ret_f (fun e => E_plus.out (by cases e; rfl)), (by first | exact below_drewN (below_drewN HB_wf0.out _) _ | exact below_drewN HB_wf0.out _ | exact HB_wf0.out)⟩
                  · have E_ex := Lib.hid h_ex; clear h_ex
                    have C_ex := Lib.hid (fun (W : World) (hb : Below w.heap.size w W) => c_f (longs_any _ _ ex1 ex2 W (S_ex1.out.later' hb) (S_ex2.out.later' hb)) E_ex.out)
                    go_wp2_with fail
                    (with_reducible refine (C_rule.out _ (below_drewN HB.out _)).mono ?_)
                    rintro e wf0 ⟨rfl, hb_wf0⟩
                    have b_wf0 := below_call (below_drewN HB.out _) hb_wf0
                    have HB_wf0 := Lib.hid b_wf0
                    have kA_wf0 : ∀ j, World.cell? wf0 ⟨w.heap.size, j, none⟩ = _ := fun j => hb_wf0.cell (by simp <;> omega)
                    have kB_wf0 : ∀ j, World.cell? wf0 ⟨w.heap.size + 1, j, none⟩ = _ := fun j => hb_wf0.cell (by simp <;> omega)
                    clear hb_wf0 b_wf0
                    go_wp2_with fail
                    (with_reducible refine (C_ex.out _ (HB_wf0.out)).mono ?_)
                    rintro e w_q ⟨rfl, m_q, rfl⟩
                    go_wp2_with fail
                    go_ret
                    exact ⟨ret_f (fun e => E_ex.out (by cases e; rfl)), (by first | exact below_drewN (below_drewN HB_wf0.out _) _ | exact below_drewN HB_wf0.out _ | exact HB_wf0.out)⟩
                · have E_rule := Lib.hid h_rule; clear h_rule
                  have C_rule := Lib.hid (fun (W : World) (hb : Below w.heap.size w W) => c_f (rule_any _ _ rule1 rule2 W (S_rule1.out.later hb) (S_rule2.out.later hb)) E_rule.out)
                  go_wp2_with fail
                  (with_reducible refine (C_rule.out _ (below_drewN HB.out _)).mono ?_)
                  rintro e wf0 ⟨rfl, hb_wf0⟩
                  have b_wf0 := below_call (below_drewN HB.out _) hb_wf0
                  have HB_wf0 := Lib.hid b_wf0
                  have kA_wf0 : ∀ j, World.cell? wf0 ⟨w.heap.size, j, none⟩ = _ := fun j => hb_wf0.cell (by simp <;> omega)
                  have kB_wf0 : ∀ j, World.cell? wf0 ⟨w.heap.size + 1, j, none⟩ = _ := fun j => hb_wf0.cell (by simp <;> omega)
                  clear hb_wf0 b_wf0
                  go_wp2_with fail
                  go_ret
                  exact ⟨ret_f (fun e => E_rule.out (by cases e; rfl)), (by first | exact below_drewN (below_drewN HB_wf0.out _) _ | exact below_drewN HB_wf0.out _ | exact HB_wf0.out)⟩
          · have g_changes : ((n_changes1 : Int) == n_changes2) = false := by rw [beq_eq_false_iff_ne]; omega
            have H_changes := Lib.hid h_changes
            have HB := Lib.hid (show Below w.heap.size w ((w.alloc (.cells #[.int .i64 start1, .int .i64 long1, .bool world1, .bool again1, .int .i64 rule1.freq, .int .i64 rule1.interval, .int .i64 rule1.count, .int .i64 rule1.until_, vm_rule1, vd_rule1, vy_rule1, vp_rule1, .int .i64 rule1.start, .slice o_ex1 n_ex1 c_ex1, .slice o_plus1 n_plus1 c_plus1, .slice o_changes1 n_changes1 c_changes1] 45)).alloc (.cells #[.int .i64 start1, .int .i64 long1, .bool world1, .bool again1, .int .i64 rule2.freq, .int .i64 rule2.interval, .int .i64 rule2.count, .int .i64 rule2.until_, vm_rule2, vd_rule2, vy_rule2, vp_rule2, .int .i64 rule2.start, .slice o_ex2 n_ex2 c_ex2, .slice o_plus2 n_plus2 c_plus2, .slice o_changes2 n_changes2 c_changes2] 45)) from ((Below.refl _ _).alloc (Nat.le_refl _) _).alloc (by simp) _)
            go_enter Try.func38, Try.ntmps38
            go_wp2_with fail
            go_ret
            exact ⟨ret_f (fun e => H_changes.out (by rw [← L_changes1.out, ← L_changes2.out]; cases e; rfl)), (by first | exact below_drewN (below_drewN HB.out _) _ | exact below_drewN HB.out _ | exact HB.out)⟩
        · have g_world : (world1 == world2) = false := by rw [beq_eq_false_iff_ne]; exact h_world
          have H_world := Lib.hid h_world; clear h_world
          have HB := Lib.hid (show Below w.heap.size w ((w.alloc (.cells #[.int .i64 start1, .int .i64 long1, .bool world1, .bool again1, .int .i64 rule1.freq, .int .i64 rule1.interval, .int .i64 rule1.count, .int .i64 rule1.until_, vm_rule1, vd_rule1, vy_rule1, vp_rule1, .int .i64 rule1.start, .slice o_ex1 n_ex1 c_ex1, .slice o_plus1 n_plus1 c_plus1, .slice o_changes1 n_changes1 c_changes1] 45)).alloc (.cells #[.int .i64 start1, .int .i64 long1, .bool world2, .bool again1, .int .i64 rule2.freq, .int .i64 rule2.interval, .int .i64 rule2.count, .int .i64 rule2.until_, vm_rule2, vd_rule2, vy_rule2, vp_rule2, .int .i64 rule2.start, .slice o_ex2 n_ex2 c_ex2, .slice o_plus2 n_plus2 c_plus2, .slice o_changes2 n_changes2 c_changes2] 45)) from ((Below.refl _ _).alloc (Nat.le_refl _) _).alloc (by simp) _)
          go_enter Try.func38, Try.ntmps38
          go_wp2_with fail
          go_ret
          exact ⟨ret_f (fun e => H_world.out (by cases e; rfl)), (by first | exact below_drewN (below_drewN HB.out _) _ | exact below_drewN HB.out _ | exact HB.out)⟩
      · have g_again : (again1 == again2) = false := by rw [beq_eq_false_iff_ne]; exact h_again
        have H_again := Lib.hid h_again; clear h_again
        have HB := Lib.hid (show Below w.heap.size w ((w.alloc (.cells #[.int .i64 start1, .int .i64 long1, .bool world1, .bool again1, .int .i64 rule1.freq, .int .i64 rule1.interval, .int .i64 rule1.count, .int .i64 rule1.until_, vm_rule1, vd_rule1, vy_rule1, vp_rule1, .int .i64 rule1.start, .slice o_ex1 n_ex1 c_ex1, .slice o_plus1 n_plus1 c_plus1, .slice o_changes1 n_changes1 c_changes1] 45)).alloc (.cells #[.int .i64 start1, .int .i64 long1, .bool world2, .bool again2, .int .i64 rule2.freq, .int .i64 rule2.interval, .int .i64 rule2.count, .int .i64 rule2.until_, vm_rule2, vd_rule2, vy_rule2, vp_rule2, .int .i64 rule2.start, .slice o_ex2 n_ex2 c_ex2, .slice o_plus2 n_plus2 c_plus2, .slice o_changes2 n_changes2 c_changes2] 45)) from ((Below.refl _ _).alloc (Nat.le_refl _) _).alloc (by simp) _)
        go_enter Try.func38, Try.ntmps38
        go_wp2_with fail
        go_ret
        exact ⟨ret_f (fun e => H_again.out (by cases e; rfl)), (by first | exact below_drewN (below_drewN HB.out _) _ | exact below_drewN HB.out _ | exact HB.out)⟩
    · have g_long : (long1 == long2) = false := by rw [beq_eq_false_iff_ne]; exact h_long
      have H_long := Lib.hid h_long; clear h_long
      have HB := Lib.hid (show Below w.heap.size w ((w.alloc (.cells #[.int .i64 start1, .int .i64 long1, .bool world1, .bool again1, .int .i64 rule1.freq, .int .i64 rule1.interval, .int .i64 rule1.count, .int .i64 rule1.until_, vm_rule1, vd_rule1, vy_rule1, vp_rule1, .int .i64 rule1.start, .slice o_ex1 n_ex1 c_ex1, .slice o_plus1 n_plus1 c_plus1, .slice o_changes1 n_changes1 c_changes1] 45)).alloc (.cells #[.int .i64 start1, .int .i64 long2, .bool world2, .bool again2, .int .i64 rule2.freq, .int .i64 rule2.interval, .int .i64 rule2.count, .int .i64 rule2.until_, vm_rule2, vd_rule2, vy_rule2, vp_rule2, .int .i64 rule2.start, .slice o_ex2 n_ex2 c_ex2, .slice o_plus2 n_plus2 c_plus2, .slice o_changes2 n_changes2 c_changes2] 45)) from ((Below.refl _ _).alloc (Nat.le_refl _) _).alloc (by simp) _)
      go_enter Try.func38, Try.ntmps38
      go_wp2_with fail
      go_ret
      exact ⟨ret_f (fun e => H_long.out (by cases e; rfl)), (by first | exact below_drewN (below_drewN HB.out _) _ | exact below_drewN HB.out _ | exact HB.out)⟩
  · have g_start : (start1 == start2) = false := by rw [beq_eq_false_iff_ne]; exact h_start
    have H_start := Lib.hid h_start; clear h_start
    have HB := Lib.hid (show Below w.heap.size w ((w.alloc (.cells #[.int .i64 start1, .int .i64 long1, .bool world1, .bool again1, .int .i64 rule1.freq, .int .i64 rule1.interval, .int .i64 rule1.count, .int .i64 rule1.until_, vm_rule1, vd_rule1, vy_rule1, vp_rule1, .int .i64 rule1.start, .slice o_ex1 n_ex1 c_ex1, .slice o_plus1 n_plus1 c_plus1, .slice o_changes1 n_changes1 c_changes1] 45)).alloc (.cells #[.int .i64 start2, .int .i64 long2, .bool world2, .bool again2, .int .i64 rule2.freq, .int .i64 rule2.interval, .int .i64 rule2.count, .int .i64 rule2.until_, vm_rule2, vd_rule2, vy_rule2, vp_rule2, .int .i64 rule2.start, .slice o_ex2 n_ex2 c_ex2, .slice o_plus2 n_plus2 c_plus2, .slice o_changes2 n_changes2 c_changes2] 45)) from ((Below.refl _ _).alloc (Nat.le_refl _) _).alloc (by simp) _)
    go_enter Try.func38, Try.ntmps38
    go_wp2_with fail
    go_ret
    exact ⟨ret_f (fun e => H_start.out (by cases e; rfl)), (by first | exact below_drewN (below_drewN HB.out _) _ | exact below_drewN HB.out _ | exact HB.out)⟩
end Go.Proofs.Ytcleicjgeflbnaa
