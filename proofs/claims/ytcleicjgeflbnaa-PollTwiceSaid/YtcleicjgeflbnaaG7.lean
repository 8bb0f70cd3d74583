/- Walks of the functions that compare two records: each answers whether what they read as is the same. No condition but that the arguments read. -/
import Derived.Test.YtcleicjgeflbnaaG5
namespace Go.Proofs.Ytcleicjgeflbnaa
open Go.RowKit Go.ChangeShapes Go.WideShapes Go.Deep

set_option maxHeartbeats 16000000 in
set_option maxRecDepth 4000 in
theorem poll_any (cs1 cs2 : List Value) (x1 x2 : PollD) (w : World) (h1 : rPoll w cs1 x1) (h2 : rPoll w cs2 x2) :
    Calls Try.prog 19 #[.agg cs1.toArray, .agg cs2.toArray] w fun e w' => e = .returned (.bool (dec (x1 = x2))) ∧ Below w.heap.size w w' := by
  obtain ⟨q1, s1, v1, rfl, _, _, _, _, _, R_query1, R_slots1, R_votes1⟩ := h1
  have Q_query1 := R_query1; obtain ⟨vm_query1, vy_query1, va_query1, vp_query1, rfl, _⟩ := Q_query1
  rcases x1 with ⟨id1, owner1, query1, slots1, votes1, until_1, state1, winner1⟩
  obtain ⟨q2, s2, v2, rfl, _, _, _, _, _, R_query2, R_slots2, R_votes2⟩ := h2
  have Q_query2 := R_query2; obtain ⟨vm_query2, vy_query2, va_query2, vp_query2, rfl, _⟩ := Q_query2
  rcases x2 with ⟨id2, owner2, query2, slots2, votes2, until_2, state2, winner2⟩
  dsimp only at *
  have S_query1 := Lib.hid R_query1; clear R_query1
  have S_query2 := Lib.hid R_query2; clear R_query2
  obtain ⟨o_slots1, n_slots1, c_slots1, rfl, l_slots1, m_slots1, k_slots1, R_slots1⟩ := R_slots1.open
  have L_slots1 := Lib.hid l_slots1; have S_slots1 := Lib.hid R_slots1
  obtain ⟨o_slots2, n_slots2, c_slots2, rfl, l_slots2, m_slots2, k_slots2, R_slots2⟩ := R_slots2.open
  have L_slots2 := Lib.hid l_slots2; have S_slots2 := Lib.hid R_slots2
  have M_slots : n_slots1 < 9223372036854775808 := by (unfold maxLen at k_slots1; omega)
  clear l_slots1 l_slots2 R_slots1 R_slots2 m_slots1 m_slots2 k_slots1 k_slots2
  obtain ⟨o_votes1, n_votes1, c_votes1, rfl, l_votes1, m_votes1, k_votes1, R_votes1⟩ := R_votes1.open
  have L_votes1 := Lib.hid l_votes1; have S_votes1 := Lib.hid R_votes1
  obtain ⟨o_votes2, n_votes2, c_votes2, rfl, l_votes2, m_votes2, k_votes2, R_votes2⟩ := R_votes2.open
  have L_votes2 := Lib.hid l_votes2; have S_votes2 := Lib.hid R_votes2
  have M_votes : n_votes1 < 9223372036854775808 := by (unfold maxLen at k_votes1; omega)
  clear l_votes1 l_votes2 R_votes1 R_votes2 m_votes1 m_votes2 k_votes1 k_votes2
  simp only [List.cons_append, List.nil_append]
  by_cases h_id : id1 = id2
  · subst h_id
    by_cases h_owner : owner1 = owner2
    · subst h_owner
      by_cases h_query : query1 = query2
      · have E_query := Lib.hid h_query; clear h_query
        have C_query := Lib.hid (fun (W : World) (hb : Below w.heap.size w W) => c_t (query_any _ _ query1 query2 W (S_query1.out.later hb) (S_query2.out.later hb)) E_query.out)
        by_cases h_slots : slots1 = slots2
        · have E_slots := Lib.hid h_slots; clear h_slots
          have C_slots := Lib.hid (fun (W : World) (hb : Below w.heap.size w W) => c_t (longs_any _ _ slots1 slots2 W (S_slots1.out.later' hb) (S_slots2.out.later' hb)) E_slots.out)
          by_cases h_votes : n_votes1 = n_votes2
          · subst h_votes
            by_cases h_until_ : until_1 = until_2
            · subst h_until_
              by_cases h_state : state1 = state2
              · subst h_state
                by_cases h_winner : winner1 = winner2
                · subst h_winner
                  have HB := Lib.hid (show Below w.heap.size w ((w.alloc (.cells #[.int .u32 id1, .int .u32 owner1, .int .i64 query1.from_, .int .i64 query1.to_, .int .i64 query1.long, .int .i64 query1.grid, vm_query1, vy_query1, .int .i64 query1.seats, va_query1, vp_query1, .slice o_slots1 n_slots1 c_slots1, .slice o_votes1 n_votes1 c_votes1, .int .i64 until_1, .int .i64 state1, .int .i64 winner1] 64)).alloc (.cells #[.int .u32 id1, .int .u32 owner1, .int .i64 query2.from_, .int .i64 query2.to_, .int .i64 query2.long, .int .i64 query2.grid, vm_query2, vy_query2, .int .i64 query2.seats, va_query2, vp_query2, .slice o_slots2 n_slots2 c_slots2, .slice o_votes2 n_votes1 c_votes2, .int .i64 until_1, .int .i64 state1, .int .i64 winner1] 64)) from ((Below.refl _ _).alloc (Nat.le_refl _) _).alloc (by simp) _)
                  go_enter Try.func19, Try.ntmps19
                  go_wp2_with fail
                  (with_reducible refine (C_query.out _ (HB.out)).mono ?_)
                  rintro e w1 ⟨rfl, hb_w1⟩
                  have b_w1 := below_call (HB.out) hb_w1
                  have HB_w1 := Lib.hid b_w1
                  have kA_w1 : ∀ j, World.cell? w1 ⟨w.heap.size, j, none⟩ = _ := fun j => hb_w1.cell (by simp <;> omega)
                  have kB_w1 : ∀ j, World.cell? w1 ⟨w.heap.size + 1, j, none⟩ = _ := fun j => hb_w1.cell (by simp <;> omega)
                  clear hb_w1 b_w1
                  go_wp2_with fail
                  (with_reducible refine (C_slots.out _ (HB_w1.out)).mono ?_)
                  rintro e w_q ⟨rfl, m_q, rfl⟩
                  go_wp2_with fail
                  go_loopw [67] (fun a wr => ∃ (k : Nat) (q : Nat), k ≤ n_votes1 ∧ a = .int .i64 k ∧ wr = World.drewN w1 q ∧ ∀ i, i < k → votes1[i]? = votes2[i]?) (fun a _ => n_votes1 - (intOf a).toNat)
                  case atStart => first | exact ⟨0, 0, Nat.zero_le _, rfl, rfl, fun i hi => absurd hi (by omega)⟩ | exact ⟨0, _, Nat.zero_le _, rfl, rfl, fun i hi => absurd hi (by omega)⟩
                  case round =>
                    obtain ⟨k, q, hk, rfl, rfl, heq⟩ := hrel
                    have HEQ := Lib.hid heq
                    clear heq
                    by_cases hlt : k < n_votes1
                    · obtain ⟨x, a1, cs1, hx, rfl, q1, q3, q0, q2⟩ := S_votes1.out.elem HB_w1.out k hlt
                      obtain ⟨y, a2, cs2, hy, rfl, p1, p3, p0, p2⟩ := S_votes2.out.elem HB_w1.out k hlt
                      obtain ⟨rfl, _⟩ := q3
                      obtain ⟨rfl, _⟩ := p3
                      have hc0 := q0 (by decide); have hd0 := p0 (by decide)
                      have hc1 := q2 1 (by decide) (by decide); have hd1 := p2 1 (by decide) (by decide)
                      simp only [List.getElem?_cons_zero, List.getElem?_cons_succ] at hc0 hd0 hc1 hd1
                      have Hx := Lib.hid hx; have Hy := Lib.hid hy
                      clear q0 q1 q2 p0 p1 p2 hx hy
                      have hlt' : (k : Int) < (n_votes1 : Int) := by omega
                      rcases x with ⟨x0, x1⟩
                      rcases y with ⟨y0, y1⟩
                      by_cases h0 : x0 = y0
                      · subst h0
                        by_cases h1 : x1 = y1
                        · subst h1
                          go_wp2; go_quiet (fail); go_wp2; go_roundw
                          case measure => simp [intOf]; omega
                          case rel =>
                          refine ⟨k + 1, _, by omega, by go_num, rfl, fun i hi => ?_⟩
                          by_cases hik : i = k
                          · rw [hik, Hx.out, Hy.out]
                          · exact HEQ.out i (by omega)
                        · have g1 : (x1 == y1) = false := by rw [beq_eq_false_iff_ne]; exact h1
                          have H1 := Lib.hid h1; clear h1
                          go_wp2; go_quiet (fail); go_wp2; go_ret
                          exact ⟨ret_f (fun e => rows_ne' k Hx.out Hy.out (fun e => H1.out (by cases e; rfl)) (by cases e; rfl)), (by first | exact below_drewN (below_drewN HB_w1.out _) _ | exact below_drewN HB_w1.out _ | exact HB_w1.out)⟩
                      · have g0 : (x0 == y0) = false := by rw [beq_eq_false_iff_ne]; exact h0
                        have H0 := Lib.hid h0; clear h0
                        go_wp2; go_quiet (fail); go_wp2; go_ret
                        exact ⟨ret_f (fun e => rows_ne' k Hx.out Hy.out (fun e => H0.out (by cases e; rfl)) (by cases e; rfl)), (by first | exact below_drewN (below_drewN HB_w1.out _) _ | exact below_drewN HB_w1.out _ | exact HB_w1.out)⟩
                    · obtain rfl : n_votes1 = k := by omega
                      have E_votes := Lib.hid (rows_eq' L_votes1.out L_votes2.out HEQ.out)
                      clear HEQ hlt
                      go_wp2_with fail
                      go_ret
                      exact ⟨ret_t (by rw [E_query.out, E_slots.out, E_votes.out]), (by first | exact below_drewN (below_drewN HB_w1.out _) _ | exact below_drewN HB_w1.out _ | exact HB_w1.out)⟩
                · have g_winner : (winner1 == winner2) = false := by rw [beq_eq_false_iff_ne]; exact h_winner
                  have H_winner := Lib.hid h_winner; clear h_winner
                  have HB := Lib.hid (show Below w.heap.size w ((w.alloc (.cells #[.int .u32 id1, .int .u32 owner1, .int .i64 query1.from_, .int .i64 query1.to_, .int .i64 query1.long, .int .i64 query1.grid, vm_query1, vy_query1, .int .i64 query1.seats, va_query1, vp_query1, .slice o_slots1 n_slots1 c_slots1, .slice o_votes1 n_votes1 c_votes1, .int .i64 until_1, .int .i64 state1, .int .i64 winner1] 64)).alloc (.cells #[.int .u32 id1, .int .u32 owner1, .int .i64 query2.from_, .int .i64 query2.to_, .int .i64 query2.long, .int .i64 query2.grid, vm_query2, vy_query2, .int .i64 query2.seats, va_query2, vp_query2, .slice o_slots2 n_slots2 c_slots2, .slice o_votes2 n_votes1 c_votes2, .int .i64 until_1, .int .i64 state1, .int .i64 winner2] 64)) from ((Below.refl _ _).alloc (Nat.le_refl _) _).alloc (by simp) _)
                  go_enter Try.func19, Try.ntmps19
                  go_wp2_with fail
                  (with_reducible refine (C_query.out _ (HB.out)).mono ?_)
                  rintro e w1 ⟨rfl, hb_w1⟩
                  have b_w1 := below_call (HB.out) hb_w1
                  have HB_w1 := Lib.hid b_w1
                  have kA_w1 : ∀ j, World.cell? w1 ⟨w.heap.size, j, none⟩ = _ := fun j => hb_w1.cell (by simp <;> omega)
                  have kB_w1 : ∀ j, World.cell? w1 ⟨w.heap.size + 1, j, none⟩ = _ := fun j => hb_w1.cell (by simp <;> omega)
                  clear hb_w1 b_w1
                  go_wp2_with fail
                  (with_reducible refine (C_slots.out _ (HB_w1.out)).mono ?_)
                  rintro e w_q ⟨rfl, m_q, rfl⟩
                  go_wp2_with fail
                  go_ret
                  exact ⟨ret_f (fun e => H_winner.out (by cases e; rfl)), (by first | exact below_drewN (below_drewN HB_w1.out _) _ | exact below_drewN HB_w1.out _ | exact HB_w1.out)⟩
              · have g_state : (state1 == state2) = false := by rw [beq_eq_false_iff_ne]; exact h_state
                have H_state := Lib.hid h_state; clear h_state
                have HB := Lib.hid (show Below w.heap.size w ((w.alloc (.cells #[.int .u32 id1, .int .u32 owner1, .int .i64 query1.from_, .int .i64 query1.to_, .int .i64 query1.long, .int .i64 query1.grid, vm_query1, vy_query1, .int .i64 query1.seats, va_query1, vp_query1, .slice o_slots1 n_slots1 c_slots1, .slice o_votes1 n_votes1 c_votes1, .int .i64 until_1, .int .i64 state1, .int .i64 winner1] 64)).alloc (.cells #[.int .u32 id1, .int .u32 owner1, .int .i64 query2.from_, .int .i64 query2.to_, .int .i64 query2.long, .int .i64 query2.grid, vm_query2, vy_query2, .int .i64 query2.seats, va_query2, vp_query2, .slice o_slots2 n_slots2 c_slots2, .slice o_votes2 n_votes1 c_votes2, .int .i64 until_1, .int .i64 state2, .int .i64 winner2] 64)) from ((Below.refl _ _).alloc (Nat.le_refl _) _).alloc (by simp) _)
                go_enter Try.func19, Try.ntmps19
                go_wp2_with fail
                (with_reducible refine (C_query.out _ (HB.out)).mono ?_)
                rintro e w1 ⟨rfl, hb_w1⟩
                have b_w1 := below_call (HB.out) hb_w1
                have HB_w1 := Lib.hid b_w1
                have kA_w1 : ∀ j, World.cell? w1 ⟨w.heap.size, j, none⟩ = _ := fun j => hb_w1.cell (by simp <;> omega)
                have kB_w1 : ∀ j, World.cell? w1 ⟨w.heap.size + 1, j, none⟩ = _ := fun j => hb_w1.cell (by simp <;> omega)
                clear hb_w1 b_w1
                go_wp2_with fail
                (with_reducible refine (C_slots.out _ (HB_w1.out)).mono ?_)
                rintro e w_q ⟨rfl, m_q, rfl⟩
                go_wp2_with fail
                go_ret
                exact ⟨ret_f (fun e => H_state.out (by cases e; rfl)), (by first | exact below_drewN (below_drewN HB_w1.out _) _ | exact below_drewN HB_w1.out _ | exact HB_w1.out)⟩
            · have g_until_ : (until_1 == until_2) = false := by rw [beq_eq_false_iff_ne]; exact h_until_
              have H_until_ := Lib.hid h_until_; clear h_until_
              have HB := Lib.hid (show Below w.heap.size w ((w.alloc (.cells #[.int .u32 id1, .int .u32 owner1, .int .i64 query1.from_, .int .i64 query1.to_, .int .i64 query1.long, .int .i64 query1.grid, vm_query1, vy_query1, .int .i64 query1.seats, va_query1, vp_query1, .slice o_slots1 n_slots1 c_slots1, .slice o_votes1 n_votes1 c_votes1, .int .i64 until_1, .int .i64 state1, .int .i64 winner1] 64)).alloc (.cells #[.int .u32 id1, .int .u32 owner1, .int .i64 query2.from_, .int .i64 query2.to_, .int .i64 query2.long, .int .i64 query2.grid, vm_query2, vy_query2, .int .i64 query2.seats, va_query2, vp_query2, .slice o_slots2 n_slots2 c_slots2, .slice o_votes2 n_votes1 c_votes2, .int .i64 until_2, .int .i64 state2, .int .i64 winner2] 64)) from ((Below.refl _ _).alloc (Nat.le_refl _) _).alloc (by simp) _)
              go_enter Try.func19, Try.ntmps19
              go_wp2_with fail
              (with_reducible refine (C_query.out _ (HB.out)).mono ?_)
              rintro e w1 ⟨rfl, hb_w1⟩
              have b_w1 := below_call (HB.out) hb_w1
              have HB_w1 := Lib.hid b_w1
              have kA_w1 : ∀ j, World.cell? w1 ⟨w.heap.size, j, none⟩ = _ := fun j => hb_w1.cell (by simp <;> omega)
              have kB_w1 : ∀ j, World.cell? w1 ⟨w.heap.size + 1, j, none⟩ = _ := fun j => hb_w1.cell (by simp <;> omega)
              clear hb_w1 b_w1
              go_wp2_with fail
              (with_reducible refine (C_slots.out _ (HB_w1.out)).mono ?_)
              rintro e w_q ⟨rfl, m_q, rfl⟩
              go_wp2_with fail
              go_ret
              exact ⟨ret_f (fun e => H_until_.out (by cases e; rfl)), (by first | exact below_drewN (below_drewN HB_w1.out _) _ | exact below_drewN HB_w1.out _ | exact HB_w1.out)⟩
          · have g_votes : ((n_votes1 : Int) == n_votes2) = false := by rw [beq_eq_false_iff_ne]; omega
            have H_votes := Lib.hid h_votes
            have HB := Lib.hid (show Below w.heap.size w ((w.alloc (.cells #[.int .u32 id1, .int .u32 owner1, .int .i64 query1.from_, .int .i64 query1.to_, .int .i64 query1.long, .int .i64 query1.grid, vm_query1, vy_query1, .int .i64 query1.seats, va_query1, vp_query1, .slice o_slots1 n_slots1 c_slots1, .slice o_votes1 n_votes1 c_votes1, .int .i64 until_1, .int .i64 state1, .int .i64 winner1] 64)).alloc (.cells #[.int .u32 id1, .int .u32 owner1, .int .i64 query2.from_, .int .i64 query2.to_, .int .i64 query2.long, .int .i64 query2.grid, vm_query2, vy_query2, .int .i64 query2.seats, va_query2, vp_query2, .slice o_slots2 n_slots2 c_slots2, .slice o_votes2 n_votes2 c_votes2, .int .i64 until_2, .int .i64 state2, .int .i64 winner2] 64)) from ((Below.refl _ _).alloc (Nat.le_refl _) _).alloc (by simp) _)
            go_enter Try.func19, Try.ntmps19
            go_wp2_with fail
            (with_reducible refine (C_query.out _ (HB.out)).mono ?_)
            rintro e w1 ⟨rfl, hb_w1⟩
            have b_w1 := below_call (HB.out) hb_w1
            have HB_w1 := Lib.hid b_w1
            have kA_w1 : ∀ j, World.cell? w1 ⟨w.heap.size, j, none⟩ = _ := fun j => hb_w1.cell (by simp <;> omega)
            have kB_w1 : ∀ j, World.cell? w1 ⟨w.heap.size + 1, j, none⟩ = _ := fun j => hb_w1.cell (by simp <;> omega)
            clear hb_w1 b_w1
            go_wp2_with fail
            (with_reducible refine (C_slots.out _ (HB_w1.out)).mono ?_)
            rintro e w_q ⟨rfl, m_q, rfl⟩
            go_wp2_with fail
            go_ret
            exact ⟨ret_f (fun e => H_votes.out (by rw [← L_votes1.out, ← L_votes2.out]; cases e; rfl)), (by first | exact below_drewN (below_drewN HB_w1.out _) _ | exact below_drewN HB_w1.out _ | exact HB_w1.out)⟩
        · have E_slots := Lib.hid h_slots; clear h_slots
          have C_slots := Lib.hid (fun (W : World) (hb : Below w.heap.size w W) => c_f (longs_any _ _ slots1 slots2 W (S_slots1.out.later' hb) (S_slots2.out.later' hb)) E_slots.out)
          have HB := Lib.hid (show Below w.heap.size w ((w.alloc (.cells #[.int .u32 id1, .int .u32 owner1, .int .i64 query1.from_, .int .i64 query1.to_, .int .i64 query1.long, .int .i64 query1.grid, vm_query1, vy_query1, .int .i64 query1.seats, va_query1, vp_query1, .slice o_slots1 n_slots1 c_slots1, .slice o_votes1 n_votes1 c_votes1, .int .i64 until_1, .int .i64 state1, .int .i64 winner1] 64)).alloc (.cells #[.int .u32 id1, .int .u32 owner1, .int .i64 query2.from_, .int .i64 query2.to_, .int .i64 query2.long, .int .i64 query2.grid, vm_query2, vy_query2, .int .i64 query2.seats, va_query2, vp_query2, .slice o_slots2 n_slots2 c_slots2, .slice o_votes2 n_votes2 c_votes2, .int .i64 until_2, .int .i64 state2, .int .i64 winner2] 64)) from ((Below.refl _ _).alloc (Nat.le_refl _) _).alloc (by simp) _)
          go_enter Try.func19, Try.ntmps19
          go_wp2_with fail
          (with_reducible refine (C_query.out _ (HB.out)).mono ?_)
          rintro e w1 ⟨rfl, hb_w1⟩
          have b_w1 := below_call (HB.out) hb_w1
          have HB_w1 := Lib.hid b_w1
          have kA_w1 : ∀ j, World.cell? w1 ⟨w.heap.size, j, none⟩ = _ := fun j => hb_w1.cell (by simp <;> omega)
          have kB_w1 : ∀ j, World.cell? w1 ⟨w.heap.size + 1, j, none⟩ = _ := fun j => hb_w1.cell (by simp <;> omega)
          clear hb_w1 b_w1
          go_wp2_with fail
          (with_reducible refine (C_slots.out _ (HB_w1.out)).mono ?_)
          rintro e w_q ⟨rfl, m_q, rfl⟩
          go_wp2_with fail
          go_ret
          exact ⟨ret_f (fun e => E_slots.out (by cases e; rfl)), (by first | exact below_drewN (below_drewN HB_w1.out _) _ | exact below_drewN HB_w1.out _ | exact HB_w1.out)⟩
      · have E_query := Lib.hid h_query; clear h_query
        have C_query := Lib.hid (fun (W : World) (hb : Below w.heap.size w W) => c_f (query_any _ _ query1 query2 W (S_query1.out.later hb) (S_query2.out.later hb)) E_query.out)
        have HB := Lib.hid (show Below w.heap.size w ((w.alloc (.cells #[.int .u32 id1, .int .u32 owner1, .int .i64 query1.from_, .int .i64 query1.to_, .int .i64 query1.long, .int .i64 query1.grid, vm_query1, vy_query1, .int .i64 query1.seats, va_query1, vp_query1, .slice o_slots1 n_slots1 c_slots1, .slice o_votes1 n_votes1 c_votes1, .int .i64 until_1, .int .i64 state1, .int .i64 winner1] 64)).alloc (.cells #[.int .u32 id1, .int .u32 owner1, .int .i64 query2.from_, .int .i64 query2.to_, .int .i64 query2.long, .int .i64 query2.grid, vm_query2, vy_query2, .int .i64 query2.seats, va_query2, vp_query2, .slice o_slots2 n_slots2 c_slots2, .slice o_votes2 n_votes2 c_votes2, .int .i64 until_2, .int .i64 state2, .int .i64 winner2] 64)) from ((Below.refl _ _).alloc (Nat.le_refl _) _).alloc (by simp) _)
        go_enter Try.func19, Try.ntmps19
        go_wp2_with fail
        (with_reducible refine (C_query.out _ (HB.out)).mono ?_)
        rintro e w1 ⟨rfl, hb_w1⟩
        have b_w1 := below_call (HB.out) hb_w1
        have HB_w1 := Lib.hid b_w1
        have kA_w1 : ∀ j, World.cell? w1 ⟨w.heap.size, j, none⟩ = _ := fun j => hb_w1.cell (by simp <;> omega)
        have kB_w1 : ∀ j, World.cell? w1 ⟨w.heap.size + 1, j, none⟩ = _ := fun j => hb_w1.cell (by simp <;> omega)
        clear hb_w1 b_w1
        go_wp2_with fail
        go_ret
        exact ⟨ret_f (fun e => E_query.out (by cases e; rfl)), (by first | exact below_drewN (below_drewN HB_w1.out _) _ | exact below_drewN HB_w1.out _ | exact HB_w1.out)⟩
    · have g_owner : (owner1 == owner2) = false := by rw [beq_eq_false_iff_ne]; exact h_owner
      have H_owner := Lib.hid h_owner; clear h_owner
      have HB := Lib.hid (show Below w.heap.size w ((w.alloc (.cells #[.int .u32 id1, .int .u32 owner1, .int .i64 query1.from_, .int .i64 query1.to_, .int .i64 query1.long, .int .i64 query1.grid, vm_query1, vy_query1, .int .i64 query1.seats, va_query1, vp_query1, .slice o_slots1 n_slots1 c_slots1, .slice o_votes1 n_votes1 c_votes1, .int .i64 until_1, .int .i64 state1, .int .i64 winner1] 64)).alloc (.cells #[.int .u32 id1, .int .u32 owner2, .int .i64 query2.from_, .int .i64 query2.to_, .int .i64 query2.long, .int .i64 query2.grid, vm_query2, vy_query2, .int .i64 query2.seats, va_query2, vp_query2, .slice o_slots2 n_slots2 c_slots2, .slice o_votes2 n_votes2 c_votes2, .int .i64 until_2, .int .i64 state2, .int .i64 winner2] 64)) from ((Below.refl _ _).alloc (Nat.le_refl _) _).alloc (by simp) _)
      go_enter Try.func19, Try.ntmps19
      go_wp2_with fail
      go_ret
      exact ⟨ret_f (fun e => H_owner.out (by cases e; rfl)), (by first | exact below_drewN (below_drewN HB.out _) _ | exact below_drewN HB.out _ | exact HB.out)⟩
  · have g_id : (id1 == id2) = false := by rw [beq_eq_false_iff_ne]; exact h_id
    have H_id := Lib.hid h_id; clear h_id
    have HB := Lib.hid (show Below w.heap.size w ((w.alloc (.cells #[.int .u32 id1, .int .u32 owner1, .int .i64 query1.from_, .int .i64 query1.to_, .int .i64 query1.long, .int .i64 query1.grid, vm_query1, vy_query1, .int .i64 query1.seats, va_query1, vp_query1, .slice o_slots1 n_slots1 c_slots1, .slice o_votes1 n_votes1 c_votes1, .int .i64 until_1, .int .i64 state1, .int .i64 winner1] 64)).alloc (.cells #[.int .u32 id2, .int .u32 owner2, .int .i64 query2.from_, .int .i64 query2.to_, .int .i64 query2.long, .int .i64 query2.grid, vm_query2, vy_query2, .int .i64 query2.seats, va_query2, vp_query2, .slice o_slots2 n_slots2 c_slots2, .slice o_votes2 n_votes2 c_votes2, .int .i64 until_2, .int .i64 state2, .int .i64 winner2] 64)) from ((Below.refl _ _).alloc (Nat.le_refl _) _).alloc (by simp) _)
    go_enter Try.func19, Try.ntmps19
    go_wp2_with fail
    go_ret
    exact ⟨ret_f (fun e => H_id.out (by cases e; rfl)), (by first | exact below_drewN (below_drewN HB.out _) _ | exact below_drewN HB.out _ | exact HB.out)⟩
end Go.Proofs.Ytcleicjgeflbnaa
