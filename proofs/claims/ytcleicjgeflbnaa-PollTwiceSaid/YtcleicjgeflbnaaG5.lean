/- Walks of the functions that compare two records: each answers whether what they read as is the same. No condition but that the arguments read. -/
import Derived.Test.YtcleicjgeflbnaaG3
namespace Go.Proofs.Ytcleicjgeflbnaa
open Go.RowKit Go.ChangeShapes Go.WideShapes Go.Deep

set_option maxHeartbeats 16000000 in
set_option maxRecDepth 4000 in
theorem query_any (cs1 cs2 : List Value) (x1 x2 : QueryD) (w : World) (h1 : rQuery w cs1 x1) (h2 : rQuery w cs2 x2) :
    Calls Try.prog 39 #[.agg cs1.toArray, .agg cs2.toArray] w fun e w' => e = .returned (.bool (dec (x1 = x2))) ∧ Below w.heap.size w w' := by
  obtain ⟨m1, y1, a1, p1, rfl, _, _, _, _, _, R_must1, R_may1, R_apart1, R_prefer1⟩ := h1
  rcases x1 with ⟨from_1, to_1, long1, grid1, must1, may1, seats1, apart1, prefer1⟩
  obtain ⟨m2, y2, a2, p2, rfl, _, _, _, _, _, R_must2, R_may2, R_apart2, R_prefer2⟩ := h2
  rcases x2 with ⟨from_2, to_2, long2, grid2, must2, may2, seats2, apart2, prefer2⟩
  dsimp only at *
  obtain ⟨o_must1, n_must1, c_must1, rfl, l_must1, m_must1, k_must1, R_must1⟩ := R_must1.open
  have L_must1 := Lib.hid l_must1; have S_must1 := Lib.hid R_must1
  obtain ⟨o_must2, n_must2, c_must2, rfl, l_must2, m_must2, k_must2, R_must2⟩ := R_must2.open
  have L_must2 := Lib.hid l_must2; have S_must2 := Lib.hid R_must2
  have M_must : n_must1 < 9223372036854775808 := by (unfold maxLen at k_must1; omega)
  clear l_must1 l_must2 R_must1 R_must2 m_must1 m_must2 k_must1 k_must2
  obtain ⟨o_may1, n_may1, c_may1, rfl, l_may1, m_may1, k_may1, R_may1⟩ := R_may1.open
  have L_may1 := Lib.hid l_may1; have S_may1 := Lib.hid R_may1
  obtain ⟨o_may2, n_may2, c_may2, rfl, l_may2, m_may2, k_may2, R_may2⟩ := R_may2.open
  have L_may2 := Lib.hid l_may2; have S_may2 := Lib.hid R_may2
  have M_may : n_may1 < 9223372036854775808 := by (unfold maxLen at k_may1; omega)
  clear l_may1 l_may2 R_may1 R_may2 m_may1 m_may2 k_may1 k_may2
  obtain ⟨o_apart1, n_apart1, c_apart1, rfl, l_apart1, m_apart1, k_apart1, R_apart1⟩ := R_apart1.open
  have L_apart1 := Lib.hid l_apart1; have S_apart1 := Lib.hid R_apart1
  obtain ⟨o_apart2, n_apart2, c_apart2, rfl, l_apart2, m_apart2, k_apart2, R_apart2⟩ := R_apart2.open
  have L_apart2 := Lib.hid l_apart2; have S_apart2 := Lib.hid R_apart2
  have M_apart : n_apart1 < 9223372036854775808 := by (unfold maxLen at k_apart1; omega)
  clear l_apart1 l_apart2 R_apart1 R_apart2 m_apart1 m_apart2 k_apart1 k_apart2
  obtain ⟨o_prefer1, n_prefer1, c_prefer1, rfl, l_prefer1, m_prefer1, k_prefer1, R_prefer1⟩ := R_prefer1.open
  have L_prefer1 := Lib.hid l_prefer1; have S_prefer1 := Lib.hid R_prefer1
  obtain ⟨o_prefer2, n_prefer2, c_prefer2, rfl, l_prefer2, m_prefer2, k_prefer2, R_prefer2⟩ := R_prefer2.open
  have L_prefer2 := Lib.hid l_prefer2; have S_prefer2 := Lib.hid R_prefer2
  have M_prefer : n_prefer1 < 9223372036854775808 := by (unfold maxLen at k_prefer1; omega)
  clear l_prefer1 l_prefer2 R_prefer1 R_prefer2 m_prefer1 m_prefer2 k_prefer1 k_prefer2
  by_cases h_from_ : from_1 = from_2
  · subst h_from_
    by_cases h_to_ : to_1 = to_2
    · subst h_to_
      by_cases h_long : long1 = long2
      · subst h_long
        by_cases h_grid : grid1 = grid2
        · subst h_grid
          by_cases h_seats : seats1 = seats2
          · subst h_seats
            by_cases h_must : n_must1 = n_must2
            · subst h_must
              by_cases h_may : n_may1 = n_may2
              · subst h_may
                by_cases h_apart : n_apart1 = n_apart2
                · subst h_apart
                  have HB := Lib.hid (show Below w.heap.size w ((w.alloc (.cells #[.int .i64 from_1, .int .i64 to_1, .int .i64 long1, .int .i64 grid1, .slice o_must1 n_must1 c_must1, .slice o_may1 n_may1 c_may1, .int .i64 seats1, .slice o_apart1 n_apart1 c_apart1, .slice o_prefer1 n_prefer1 c_prefer1] 52)).alloc (.cells #[.int .i64 from_1, .int .i64 to_1, .int .i64 long1, .int .i64 grid1, .slice o_must2 n_must1 c_must2, .slice o_may2 n_may1 c_may2, .int .i64 seats1, .slice o_apart2 n_apart1 c_apart2, .slice o_prefer2 n_prefer2 c_prefer2] 52)) from ((Below.refl _ _).alloc (Nat.le_refl _) _).alloc (by simp) _)
                  go_enter Try.func39, Try.ntmps39
                  go_wp2_with fail
                  go_loopw [64] (fun a wr => ∃ (k : Nat) (q : Nat), k ≤ n_must1 ∧ a = .int .i64 k ∧ wr = World.drewN ((w.alloc (.cells #[.int .i64 from_1, .int .i64 to_1, .int .i64 long1, .int .i64 grid1, .slice o_must1 n_must1 c_must1, .slice o_may1 n_may1 c_may1, .int .i64 seats1, .slice o_apart1 n_apart1 c_apart1, .slice o_prefer1 n_prefer1 c_prefer1] 52)).alloc (.cells #[.int .i64 from_1, .int .i64 to_1, .int .i64 long1, .int .i64 grid1, .slice o_must2 n_must1 c_must2, .slice o_may2 n_may1 c_may2, .int .i64 seats1, .slice o_apart2 n_apart1 c_apart2, .slice o_prefer2 n_prefer2 c_prefer2] 52)) q ∧ ∀ i, i < k → must1[i]? = must2[i]?) (fun a _ => n_must1 - (intOf a).toNat)
                  case atStart => first | exact ⟨0, 0, Nat.zero_le _, rfl, rfl, fun i hi => absurd hi (by omega)⟩ | exact ⟨0, _, Nat.zero_le _, rfl, rfl, fun i hi => absurd hi (by omega)⟩
                  case round =>
                    obtain ⟨k, q, hk, rfl, rfl, heq⟩ := hrel
                    have HEQ := Lib.hid heq
                    clear heq
                    by_cases hlt : k < n_must1
                    · obtain ⟨x, a1, cs1, hx, rfl, q1, q3, q0, q2⟩ := S_must1.out.elem HB.out k hlt
                      obtain ⟨y, a2, cs2, hy, rfl, p1, p3, p0, p2⟩ := S_must2.out.elem HB.out k hlt
                      obtain ⟨rfl, _⟩ := q3
                      obtain ⟨rfl, _⟩ := p3
                      have hc0 := q0 (by decide); have hd0 := p0 (by decide)
                      simp only [Nat.mul_one, List.getElem?_cons_zero] at hc0 hd0
                      have Hx := Lib.hid hx; have Hy := Lib.hid hy
                      clear q0 q1 q2 p0 p1 p2 hx hy
                      have hlt' : (k : Int) < (n_must1 : Int) := by omega
                      by_cases h0 : x = y
                      · subst h0
                        go_wp2; go_quiet (fail); go_wp2; go_roundw
                        case measure => simp [intOf]; omega
                        case rel =>
                        refine ⟨k + 1, _, by omega, by go_num, rfl, fun i hi => ?_⟩
                        by_cases hik : i = k
                        · rw [hik, Hx.out, Hy.out]
                        · exact HEQ.out i (by omega)
                      · have g0 : (x == y) = false := by rw [beq_eq_false_iff_ne]; exact h0
                        have H0 := Lib.hid h0; clear h0
                        go_wp2; go_quiet (fail); go_wp2; go_ret
                        exact ⟨ret_f (fun e => rows_ne' k Hx.out Hy.out (fun e => H0.out (by cases e; rfl)) (by cases e; rfl)), (by first | exact below_drewN (below_drewN HB.out _) _ | exact below_drewN HB.out _ | exact HB.out)⟩
                    · obtain rfl : n_must1 = k := by omega
                      have E_must := Lib.hid (rows_eq' L_must1.out L_must2.out HEQ.out)
                      clear HEQ hlt
                      go_wp2_with fail
                      go_loopw [82] (fun a wr => ∃ (k : Nat) (q : Nat), k ≤ n_may1 ∧ a = .int .i64 k ∧ wr = World.drewN ((w.alloc (.cells #[.int .i64 from_1, .int .i64 to_1, .int .i64 long1, .int .i64 grid1, .slice o_must1 n_must1 c_must1, .slice o_may1 n_may1 c_may1, .int .i64 seats1, .slice o_apart1 n_apart1 c_apart1, .slice o_prefer1 n_prefer1 c_prefer1] 52)).alloc (.cells #[.int .i64 from_1, .int .i64 to_1, .int .i64 long1, .int .i64 grid1, .slice o_must2 n_must1 c_must2, .slice o_may2 n_may1 c_may2, .int .i64 seats1, .slice o_apart2 n_apart1 c_apart2, .slice o_prefer2 n_prefer2 c_prefer2] 52)) q ∧ ∀ i, i < k → may1[i]? = may2[i]?) (fun a _ => n_may1 - (intOf a).toNat)
                      case atStart => first | exact ⟨0, 0, Nat.zero_le _, rfl, rfl, fun i hi => absurd hi (by omega)⟩ | exact ⟨0, _, Nat.zero_le _, rfl, rfl, fun i hi => absurd hi (by omega)⟩
                      case round =>
                        obtain ⟨k, q, hk, rfl, rfl, heq⟩ := hrel
                        have HEQ := Lib.hid heq
                        clear heq
                        by_cases hlt : k < n_may1
                        · obtain ⟨x, a1, cs1, hx, rfl, q1, q3, q0, q2⟩ := S_may1.out.elem HB.out k hlt
                          obtain ⟨y, a2, cs2, hy, rfl, p1, p3, p0, p2⟩ := S_may2.out.elem HB.out k hlt
                          obtain ⟨rfl, _⟩ := q3
                          obtain ⟨rfl, _⟩ := p3
                          have hc0 := q0 (by decide); have hd0 := p0 (by decide)
                          have hc1 := q2 1 (by decide) (by decide); have hd1 := p2 1 (by decide) (by decide)
                          simp only [List.getElem?_cons_zero, List.getElem?_cons_succ] at hc0 hd0 hc1 hd1
                          have Hx := Lib.hid hx; have Hy := Lib.hid hy
                          clear q0 q1 q2 p0 p1 p2 hx hy
                          have hlt' : (k : Int) < (n_may1 : Int) := by omega
                          rcases x with ⟨x0, x1⟩
                          rcases y with ⟨y0, y1⟩
                          by_cases h0 : x0 = y0
                          · subst h0
                            by_cases h1 : x1 = y1
                            · subst h1
                              go_wp2; go_quiet (fail); go_wp2; go_roundw
                              case measure => simp [intOf]; omega
                              case rel =>
                              refine ⟨k + 1, _, by omega, by go_num, rfl, fun i hi => ?_⟩
                              by_cases hik : i = k
                              · rw [hik, Hx.out, Hy.out]
                              · exact HEQ.out i (by omega)
                            · have g1 : (x1 == y1) = false := by rw [beq_eq_false_iff_ne]; exact h1
                              have H1 := Lib.hid h1; clear h1
                              go_wp2; go_quiet (fail); go_wp2; go_ret
                              exact ⟨ret_f (fun e => rows_ne' k Hx.out Hy.out (fun e => H1.out (by cases e; rfl)) (by cases e; rfl)), (by first | exact below_drewN (below_drewN HB.out _) _ | exact below_drewN HB.out _ | exact HB.out)⟩
                          · have g0 : (x0 == y0) = false := by rw [beq_eq_false_iff_ne]; exact h0
                            have H0 := Lib.hid h0; clear h0
                            go_wp2; go_quiet (fail); go_wp2; go_ret
                            exact ⟨ret_f (fun e => rows_ne' k Hx.out Hy.out (fun e => H0.out (by cases e; rfl)) (by cases e; rfl)), (by first | exact below_drewN (below_drewN HB.out _) _ | exact below_drewN HB.out _ | exact HB.out)⟩
                        · obtain rfl : n_may1 = k := by omega
                          have E_may := Lib.hid (rows_eq' L_may1.out L_may2.out HEQ.out)
                          clear HEQ hlt
                          go_wp2_with fail
                          go_loopw [100] (fun a wr => ∃ (k : Nat) (q : Nat), k ≤ n_apart1 ∧ a = .int .i64 k ∧ wr = World.drewN ((w.alloc (.cells #[.int .i64 from_1, .int .i64 to_1, .int .i64 long1, .int .i64 grid1, .slice o_must1 n_must1 c_must1, .slice o_may1 n_may1 c_may1, .int .i64 seats1, .slice o_apart1 n_apart1 c_apart1, .slice o_prefer1 n_prefer1 c_prefer1] 52)).alloc (.cells #[.int .i64 from_1, .int .i64 to_1, .int .i64 long1, .int .i64 grid1, .slice o_must2 n_must1 c_must2, .slice o_may2 n_may1 c_may2, .int .i64 seats1, .slice o_apart2 n_apart1 c_apart2, .slice o_prefer2 n_prefer2 c_prefer2] 52)) q ∧ ∀ i, i < k → apart1[i]? = apart2[i]?) (fun a _ => n_apart1 - (intOf a).toNat)
                          case atStart => first | exact ⟨0, 0, Nat.zero_le _, rfl, rfl, fun i hi => absurd hi (by omega)⟩ | exact ⟨0, _, Nat.zero_le _, rfl, rfl, fun i hi => absurd hi (by omega)⟩
                          case round =>
                            obtain ⟨k, q, hk, rfl, rfl, heq⟩ := hrel
                            have HEQ := Lib.hid heq
                            clear heq
                            by_cases hlt : k < n_apart1
                            · obtain ⟨x, a1, cs1, hx, rfl, q1, q3, q0, q2⟩ := S_apart1.out.elem HB.out k hlt
                              obtain ⟨y, a2, cs2, hy, rfl, p1, p3, p0, p2⟩ := S_apart2.out.elem HB.out k hlt
                              obtain ⟨rfl, _⟩ := q3
                              obtain ⟨rfl, _⟩ := p3
                              have hc0 := q0 (by decide); have hd0 := p0 (by decide)
                              have hc1 := q2 1 (by decide) (by decide); have hd1 := p2 1 (by decide) (by decide)
                              simp only [List.getElem?_cons_zero, List.getElem?_cons_succ] at hc0 hd0 hc1 hd1
                              have Hx := Lib.hid hx; have Hy := Lib.hid hy
                              clear q0 q1 q2 p0 p1 p2 hx hy
                              have hlt' : (k : Int) < (n_apart1 : Int) := by omega
                              rcases x with ⟨x0, x1⟩
                              rcases y with ⟨y0, y1⟩
                              by_cases h0 : x0 = y0
                              · subst h0
                                by_cases h1 : x1 = y1
                                · subst h1
                                  go_wp2; go_quiet (fail); go_wp2; go_roundw
                                  case measure => simp [intOf]; omega
                                  case rel =>
                                  refine ⟨k + 1, _, by omega, by go_num, rfl, fun i hi => ?_⟩
                                  by_cases hik : i = k
                                  · rw [hik, Hx.out, Hy.out]
                                  · exact HEQ.out i (by omega)
                                · have g1 : (x1 == y1) = false := by rw [beq_eq_false_iff_ne]; exact h1
                                  have H1 := Lib.hid h1; clear h1
                                  go_wp2; go_quiet (fail); go_wp2; go_ret
                                  exact ⟨ret_f (fun e => rows_ne' k Hx.out Hy.out (fun e => H1.out (by cases e; rfl)) (by cases e; rfl)), (by first | exact below_drewN (below_drewN HB.out _) _ | exact below_drewN HB.out _ | exact HB.out)⟩
                              · have g0 : (x0 == y0) = false := by rw [beq_eq_false_iff_ne]; exact h0
                                have H0 := Lib.hid h0; clear h0
                                go_wp2; go_quiet (fail); go_wp2; go_ret
                                exact ⟨ret_f (fun e => rows_ne' k Hx.out Hy.out (fun e => H0.out (by cases e; rfl)) (by cases e; rfl)), (by first | exact below_drewN (below_drewN HB.out _) _ | exact below_drewN HB.out _ | exact HB.out)⟩
                            · obtain rfl : n_apart1 = k := by omega
                              have E_apart := Lib.hid (rows_eq' L_apart1.out L_apart2.out HEQ.out)
                              clear HEQ hlt
                              by_cases h_prefer : prefer1 = prefer2
                              · have E_prefer := Lib.hid h_prefer; clear h_prefer
                                have C_prefer := Lib.hid (fun (W : World) (hb : Below w.heap.size w W) => c_t (shifts_any _ _ prefer1 prefer2 W (S_prefer1.out.later' hb) (S_prefer2.out.later' hb)) E_prefer.out)
                                go_wp2_with fail
                                (with_reducible refine (C_prefer.out _ (below_drewN HB.out _)).mono ?_)
                                rintro e w_q ⟨rfl, m_q, rfl⟩
                                go_wp2_with fail
                                go_ret
                                exact ⟨ret_t (by rw [E_must.out, E_may.out, E_apart.out, E_prefer.out]), (by first | exact below_drewN (below_drewN HB.out _) _ | exact below_drewN HB.out _ | exact HB.out)⟩
                              · have E_prefer := Lib.hid h_prefer; clear h_prefer
                                have C_prefer := Lib.hid (fun (W : World) (hb : Below w.heap.size w W) => c_f (shifts_any _ _ prefer1 prefer2 W (S_prefer1.out.later' hb) (S_prefer2.out.later' hb)) E_prefer.out)
                                go_wp2_with fail
                                (with_reducible refine (C_prefer.out _ (below_drewN HB.out _)).mono ?_)
                                rintro e w_q ⟨rfl, m_q, rfl⟩
                                go_wp2_with fail
                                go_ret
                                exact ⟨ret_f (fun e => E_prefer.out (by cases e; rfl)), (by first | exact below_drewN (below_drewN HB.out _) _ | exact below_drewN HB.out _ | exact HB.out)⟩
                · have g_apart : ((n_apart1 : Int) == n_apart2) = false := by rw [beq_eq_false_iff_ne]; omega
                  have H_apart := Lib.hid h_apart
                  have HB := Lib.hid (show Below w.heap.size w ((w.alloc (.cells #[.int .i64 from_1, .int .i64 to_1, .int .i64 long1, .int .i64 grid1, .slice o_must1 n_must1 c_must1, .slice o_may1 n_may1 c_may1, .int .i64 seats1, .slice o_apart1 n_apart1 c_apart1, .slice o_prefer1 n_prefer1 c_prefer1] 52)).alloc (.cells #[.int .i64 from_1, .int .i64 to_1, .int .i64 long1, .int .i64 grid1, .slice o_must2 n_must1 c_must2, .slice o_may2 n_may1 c_may2, .int .i64 seats1, .slice o_apart2 n_apart2 c_apart2, .slice o_prefer2 n_prefer2 c_prefer2] 52)) from ((Below.refl _ _).alloc (Nat.le_refl _) _).alloc (by simp) _)
                  go_enter Try.func39, Try.ntmps39
                  go_wp2_with fail
                  go_ret
                  exact ⟨ret_f (fun e => H_apart.out (by rw [← L_apart1.out, ← L_apart2.out]; cases e; rfl)), (by first | exact below_drewN (below_drewN HB.out _) _ | exact below_drewN HB.out _ | exact HB.out)⟩
              · have g_may : ((n_may1 : Int) == n_may2) = false := by rw [beq_eq_false_iff_ne]; omega
                have H_may := Lib.hid h_may
                have HB := Lib.hid (show Below w.heap.size w ((w.alloc (.cells #[.int .i64 from_1, .int .i64 to_1, .int .i64 long1, .int .i64 grid1, .slice o_must1 n_must1 c_must1, .slice o_may1 n_may1 c_may1, .int .i64 seats1, .slice o_apart1 n_apart1 c_apart1, .slice o_prefer1 n_prefer1 c_prefer1] 52)).alloc (.cells #[.int .i64 from_1, .int .i64 to_1, .int .i64 long1, .int .i64 grid1, .slice o_must2 n_must1 c_must2, .slice o_may2 n_may2 c_may2, .int .i64 seats1, .slice o_apart2 n_apart2 c_apart2, .slice o_prefer2 n_prefer2 c_prefer2] 52)) from ((Below.refl _ _).alloc (Nat.le_refl _) _).alloc (by simp) _)
                go_enter Try.func39, Try.ntmps39
                go_wp2_with fail
                go_ret
                exact ⟨ret_f (fun e => H_may.out (by rw [← L_may1.out, ← L_may2.out]; cases e; rfl)), (by first | exact below_drewN (below_drewN HB.out _) _ | exact below_drewN HB.out _ | exact HB.out)⟩
            · have g_must : ((n_must1 : Int) == n_must2) = false := by rw [beq_eq_false_iff_ne]; omega
              have H_must := Lib.hid h_must
              have HB := Lib.hid (show Below w.heap.size w ((w.alloc (.cells #[.int .i64 from_1, .int .i64 to_1, .int .i64 long1, .int .i64 grid1, .slice o_must1 n_must1 c_must1, .slice o_may1 n_may1 c_may1, .int .i64 seats1, .slice o_apart1 n_apart1 c_apart1, .slice o_prefer1 n_prefer1 c_prefer1] 52)).alloc (.cells #[.int .i64 from_1, .int .i64 to_1, .int .i64 long1, .int .i64 grid1, .slice o_must2 n_must2 c_must2, .slice o_may2 n_may2 c_may2, .int .i64 seats1, .slice o_apart2 n_apart2 c_apart2, .slice o_prefer2 n_prefer2 c_prefer2] 52)) from ((Below.refl _ _).alloc (Nat.le_refl _) _).alloc (by simp) _)
              go_enter Try.func39, Try.ntmps39
              go_wp2_with fail
              go_ret
              exact ⟨ret_f (fun e => H_must.out (by rw [← L_must1.out, ← L_must2.out]; cases e; rfl)), (by first | exact below_drewN (below_drewN HB.out _) _ | exact below_drewN HB.out _ | exact HB.out)⟩
          · have g_seats : (seats1 == seats2) = false := by rw [beq_eq_false_iff_ne]; exact h_seats
            have H_seats := Lib.hid h_seats; clear h_seats
            have HB := Lib.hid (show Below w.heap.size w ((w.alloc (.cells #[.int .i64 from_1, .int .i64 to_1, .int .i64 long1, .int .i64 grid1, .slice o_must1 n_must1 c_must1, .slice o_may1 n_may1 c_may1, .int .i64 seats1, .slice o_apart1 n_apart1 c_apart1, .slice o_prefer1 n_prefer1 c_prefer1] 52)).alloc (.cells #[.int .i64 from_1, .int .i64 to_1, .int .i64 long1, .int .i64 grid1, .slice o_must2 n_must2 c_must2, .slice o_may2 n_may2 c_may2, .int .i64 seats2, .slice o_apart2 n_apart2 c_apart2, .slice o_prefer2 n_prefer2 c_prefer2] 52)) from ((Below.refl _ _).alloc (Nat.le_refl _) _).alloc (by simp) _)
            go_enter Try.func39, Try.ntmps39
            go_wp2_with fail
            go_ret
            exact ⟨ret_f (fun e => H_seats.out (by cases e; rfl)), (by first | exact below_drewN (below_drewN HB.out _) _ | exact below_drewN HB.out _ | exact HB.out)⟩
        · have g_grid : (grid1 == grid2) = false := by rw [beq_eq_false_iff_ne]; exact h_grid
          have H_grid := Lib.hid h_grid; clear h_grid
          have HB := Lib.hid (show Below w.heap.size w ((w.alloc (.cells #[.int .i64 from_1, .int .i64 to_1, .int .i64 long1, .int .i64 grid1, .slice o_must1 n_must1 c_must1, .slice o_may1 n_may1 c_may1, .int .i64 seats1, .slice o_apart1 n_apart1 c_apart1, .slice o_prefer1 n_prefer1 c_prefer1] 52)).alloc (.cells #[.int .i64 from_1, .int .i64 to_1, .int .i64 long1, .int .i64 grid2, .slice o_must2 n_must2 c_must2, .slice o_may2 n_may2 c_may2, .int .i64 seats2, .slice o_apart2 n_apart2 c_apart2, .slice o_prefer2 n_prefer2 c_prefer2] 52)) from ((Below.refl _ _).alloc (Nat.le_refl _) _).alloc (by simp) _)
          go_enter Try.func39, Try.ntmps39
          go_wp2_with fail
          go_ret
          exact ⟨ret_f (fun e => H_grid.out (by cases e; rfl)), (by first | exact below_drewN (below_drewN HB.out _) _ | exact below_drewN HB.out _ | exact HB.out)⟩
      · have g_long : (long1 == long2) = false := by rw [beq_eq_false_iff_ne]; exact h_long
        have H_long := Lib.hid h_long; clear h_long
        have HB := Lib.hid (show Below w.heap.size w ((w.alloc (.cells #[.int .i64 from_1, .int .i64 to_1, .int .i64 long1, .int .i64 grid1, .slice o_must1 n_must1 c_must1, .slice o_may1 n_may1 c_may1, .int .i64 seats1, .slice o_apart1 n_apart1 c_apart1, .slice o_prefer1 n_prefer1 c_prefer1] 52)).alloc (.cells #[.int .i64 from_1, .int .i64 to_1, .int .i64 long2, .int .i64 grid2, .slice o_must2 n_must2 c_must2, .slice o_may2 n_may2 c_may2, .int .i64 seats2, .slice o_apart2 n_apart2 c_apart2, .slice o_prefer2 n_prefer2 c_prefer2] 52)) from ((Below.refl _ _).alloc (Nat.le_refl _) _).alloc (by simp) _)
        go_enter Try.func39, Try.ntmps39
        go_wp2_with fail
        go_ret
        exact ⟨ret_f (fun e => H_long.out (by cases e; rfl)), (by first | exact below_drewN (below_drewN HB.out _) _ | exact below_drewN HB.out _ | exact HB.out)⟩
    · have g_to_ : (to_1 == to_2) = false := by rw [beq_eq_false_iff_ne]; exact h_to_
      have H_to_ := Lib.hid h_to_; clear h_to_
      have HB := Lib.hid (show Below w.heap.size w ((w.alloc (.cells #[.int .i64 from_1, .int .i64 to_1, .int .i64 long1, .int .i64 grid1, .slice o_must1 n_must1 c_must1, .slice o_may1 n_may1 c_may1, .int .i64 seats1, .slice o_apart1 n_apart1 c_apart1, .slice o_prefer1 n_prefer1 c_prefer1] 52)).alloc (.cells #[.int .i64 from_1, .int .i64 to_2, .int .i64 long2, .int .i64 grid2, .slice o_must2 n_must2 c_must2, .slice o_may2 n_may2 c_may2, .int .i64 seats2, .slice o_apart2 n_apart2 c_apart2, .slice o_prefer2 n_prefer2 c_prefer2] 52)) from ((Below.refl _ _).alloc (Nat.le_refl _) _).alloc (by simp) _)
      go_enter Try.func39, Try.ntmps39
      go_wp2_with fail
      go_ret
      exact ⟨ret_f (fun e => H_to_.out (by cases e; rfl)), (by first | exact below_drewN (below_drewN HB.out _) _ | exact below_drewN HB.out _ | exact HB.out)⟩
  · have g_from_ : (from_1 == from_2) = false := by rw [beq_eq_false_iff_ne]; exact h_from_
    have H_from_ := Lib.hid h_from_; clear h_from_
    have HB := Lib.hid (show Below w.heap.size w ((w.alloc (.cells #[.int .i64 from_1, .int .i64 to_1, .int .i64 long1, .int .i64 grid1, .slice o_must1 n_must1 c_must1, .slice o_may1 n_may1 c_may1, .int .i64 seats1, .slice o_apart1 n_apart1 c_apart1, .slice o_prefer1 n_prefer1 c_prefer1] 52)).alloc (.cells #[.int .i64 from_2, .int .i64 to_2, .int .i64 long2, .int .i64 grid2, .slice o_must2 n_must2 c_must2, .slice o_may2 n_may2 c_may2, .int .i64 seats2, .slice o_apart2 n_apart2 c_apart2, .slice o_prefer2 n_prefer2 c_prefer2] 52)) from ((Below.refl _ _).alloc (Nat.le_refl _) _).alloc (by simp) _)
    go_enter Try.func39, Try.ntmps39
    go_wp2_with fail
    go_ret
    exact ⟨ret_f (fun e => H_from_.out (by cases e; rfl)), (by first | exact below_drewN (below_drewN HB.out _) _ | exact below_drewN HB.out _ | exact HB.out)⟩
end Go.Proofs.Ytcleicjgeflbnaa
