/- Walks of the functions that compare two records: each answers whether what they read as is the same. No condition but that the arguments read. -/
import Derived.Test.YtcleicjgeflbnaaG7
import Derived.Test.YtcleicjgeflbnaaG8
import Derived.StillTailTactics
namespace Go.Proofs.Ytcleicjgeflbnaa
open Go.RowKit Go.ChangeShapes Go.WideShapes Go.Deep

set_option maxHeartbeats 16000000 in
set_option maxRecDepth 4000 in
theorem state_any (cs1 cs2 : List Value) (x1 x2 : StateD) (w : World) (h1 : rState w cs1 x1) (h2 : rState w cs2 x2) :
    Calls Try.prog 8 #[.agg cs1.toArray, .agg cs2.toArray] w fun e w' => e = .returned (.bool (dec (x1 = x2))) ∧ Below w.heap.size w w' := by
  obtain ⟨u1, p1, d1, rfl, _, R_users1, R_polls1, R_done1⟩ := h1
  rcases x1 with ⟨clock1, users1, polls1, done1⟩
  obtain ⟨u2, p2, d2, rfl, _, R_users2, R_polls2, R_done2⟩ := h2
  rcases x2 with ⟨clock2, users2, polls2, done2⟩
  dsimp only at *
  obtain ⟨o_users1, n_users1, c_users1, rfl, l_users1, m_users1, k_users1, R_users1⟩ := R_users1.open
  have L_users1 := Lib.hid l_users1; have S_users1 := Lib.hid R_users1
  obtain ⟨o_users2, n_users2, c_users2, rfl, l_users2, m_users2, k_users2, R_users2⟩ := R_users2.open
  have L_users2 := Lib.hid l_users2; have S_users2 := Lib.hid R_users2
  have M_users : n_users1 < 9223372036854775808 := by (unfold maxLen at k_users1; omega)
  clear l_users1 l_users2 R_users1 R_users2 m_users1 m_users2 k_users1 k_users2
  obtain ⟨o_polls1, n_polls1, c_polls1, rfl, l_polls1, m_polls1, k_polls1, R_polls1⟩ := R_polls1.open
  have L_polls1 := Lib.hid l_polls1; have S_polls1 := Lib.hid R_polls1
  obtain ⟨o_polls2, n_polls2, c_polls2, rfl, l_polls2, m_polls2, k_polls2, R_polls2⟩ := R_polls2.open
  have L_polls2 := Lib.hid l_polls2; have S_polls2 := Lib.hid R_polls2
  have M_polls : n_polls1 < 9223372036854775808 := by (unfold maxLen at k_polls1; omega)
  clear l_polls1 l_polls2 R_polls1 R_polls2 m_polls1 m_polls2 k_polls1 k_polls2
  obtain ⟨o_done1, n_done1, c_done1, rfl, l_done1, m_done1, k_done1, R_done1⟩ := R_done1.open
  have L_done1 := Lib.hid l_done1; have S_done1 := Lib.hid R_done1
  obtain ⟨o_done2, n_done2, c_done2, rfl, l_done2, m_done2, k_done2, R_done2⟩ := R_done2.open
  have L_done2 := Lib.hid l_done2; have S_done2 := Lib.hid R_done2
  have M_done : n_done1 < 9223372036854775808 := by (unfold maxLen at k_done1; omega)
  clear l_done1 l_done2 R_done1 R_done2 m_done1 m_done2 k_done1 k_done2
  by_cases h_clock : clock1 = clock2
  · subst h_clock
    by_cases h_users : n_users1 = n_users2
    · subst h_users
      by_cases h_polls : n_polls1 = n_polls2
      · subst h_polls
        by_cases h_done : n_done1 = n_done2
        · subst h_done
          have HB := Lib.hid (show Below w.heap.size w ((w.alloc (.cells #[.int .i64 clock1, .slice o_users1 n_users1 c_users1, .slice o_polls1 n_polls1 c_polls1, .slice o_done1 n_done1 c_done1] 26)).alloc (.cells #[.int .i64 clock1, .slice o_users2 n_users1 c_users2, .slice o_polls2 n_polls1 c_polls2, .slice o_done2 n_done1 c_done2] 26)) from ((Below.refl _ _).alloc (Nat.le_refl _) _).alloc (by simp) _)
          go_enter Try.func8, Try.ntmps8
          go_wp2_with fail
          go_loopw [43] (fun a wr => ∃ (k : Nat), k ≤ n_users1 ∧ a = .int .i64 k ∧ (∀ j, wr.cell? ⟨w.heap.size, j, none⟩ = World.cell? ((w.alloc (.cells #[.int .i64 clock1, .slice o_users1 n_users1 c_users1, .slice o_polls1 n_polls1 c_polls1, .slice o_done1 n_done1 c_done1] 26)).alloc (.cells #[.int .i64 clock1, .slice o_users2 n_users1 c_users2, .slice o_polls2 n_polls1 c_polls2, .slice o_done2 n_done1 c_done2] 26)) ⟨w.heap.size, j, none⟩) ∧ (∀ j, wr.cell? ⟨w.heap.size + 1, j, none⟩ = World.cell? ((w.alloc (.cells #[.int .i64 clock1, .slice o_users1 n_users1 c_users1, .slice o_polls1 n_polls1 c_polls1, .slice o_done1 n_done1 c_done1] 26)).alloc (.cells #[.int .i64 clock1, .slice o_users2 n_users1 c_users2, .slice o_polls2 n_polls1 c_polls2, .slice o_done2 n_done1 c_done2] 26)) ⟨w.heap.size + 1, j, none⟩) ∧ Below w.heap.size w wr ∧ w.heap.size + 1 < wr.heap.size ∧ ∀ i, i < k → users1[i]? = users2[i]?) (fun a _ => n_users1 - (intOf a).toNat)
          case atStart => exact ⟨0, Nat.zero_le _, rfl, fun _ => rfl, fun _ => rfl, HB.out, by simp, fun i hi => absurd hi (by omega)⟩
          case round =>
            obtain ⟨k, hk, rfl, kA_wl0, kB_wl0, hbw, Z_wl0, heq⟩ := hrel
            obtain ⟨wl0, rfl⟩ : ∃ x, x = wr := ⟨_, rfl⟩
            have HEQ := Lib.hid heq; have HB_wl0 := Lib.hid hbw
            clear heq hbw
            by_cases hlt : k < n_users1
            · obtain ⟨x, a1, cs1, hx, rfl, q1, q3, q0, q2⟩ := S_users1.out.elem HB_wl0.out k hlt
              obtain ⟨y, a2, cs2, hy, rfl, p1, p3, p0, p2⟩ := S_users2.out.elem HB_wl0.out k hlt
              have R_1 := q3
              have R_2 := p3
              obtain ⟨st1, ve1, rfl, _, _, hr1, _⟩ := q3
              obtain ⟨st2, ve2, rfl, _, _, hr2, _⟩ := p3
              obtain ⟨vt1, vh1, vo1, rfl, _⟩ := hr1
              obtain ⟨vt2, vh2, vo2, rfl, _⟩ := hr2
              have Q_1 := Lib.hid R_1; clear R_1
              have Q_2 := Lib.hid R_2; clear R_2
              simp only [List.cons_append, List.nil_append] at q0 q2 p0 p2
              have hc0 := q0 (by decide); have hd0 := p0 (by decide)
              have hc1 := q2 1 (by decide) (by decide); have hd1 := p2 1 (by decide) (by decide)
              have hc2 := q2 2 (by decide) (by decide); have hd2 := p2 2 (by decide) (by decide)
              have hc3 := q2 3 (by decide) (by decide); have hd3 := p2 3 (by decide) (by decide)
              have hc4 := q2 4 (by decide) (by decide); have hd4 := p2 4 (by decide) (by decide)
              have hc5 := q2 5 (by decide) (by decide); have hd5 := p2 5 (by decide) (by decide)
              have hc6 := q2 6 (by decide) (by decide); have hd6 := p2 6 (by decide) (by decide)
              have hc7 := q2 7 (by decide) (by decide); have hd7 := p2 7 (by decide) (by decide)
              have hc8 := q2 8 (by decide) (by decide); have hd8 := p2 8 (by decide) (by decide)
              simp only [List.getElem?_cons_zero, List.getElem?_cons_succ] at hc0 hd0 hc1 hd1 hc2 hd2 hc3 hd3 hc4 hd4 hc5 hd5 hc6 hd6 hc7 hd7 hc8 hd8
              have Hx := Lib.hid hx; have Hy := Lib.hid hy
              clear q0 q1 q2 p0 p1 p2 hx hy
              have hlt' : (k : Int) < (n_users1 : Int) := by omega
              by_cases hv : x = y
              · have E_v := Lib.hid hv; clear hv
                have C_v := Lib.hid (fun (W : World) (hb : Below w.heap.size w W) => c_t (user_any _ _ x y W (Q_1.out.later hb) (Q_2.out.later hb)) E_v.out)
                try simp only [List.cons_append, List.nil_append] at C_v
                go_wp2
                go_still_tail 10, (by kernel_rfl)
                have hbd := Lib.hid (show Below w.heap.size w wl0.drew from below_drewN HB_wl0.out 1)
                go_wp2_with fail
                (with_reducible refine (C_v.out _ hbd.out).mono ?_)
                rintro e wz ⟨rfl, hbz⟩
                have hz : wl0.heap.size ≤ wz.heap.size := hbz.size
                have HB_z := Lib.hid (below_call hbd.out hbz)
                have kA_z : ∀ j, wz.cell? ⟨w.heap.size, j, none⟩ = _ := fun j => (hbz.cell (show w.heap.size < wl0.heap.size by omega)).trans (kA_wl0 j)
                have kB_z : ∀ j, wz.cell? ⟨w.heap.size + 1, j, none⟩ = _ := fun j => (hbz.cell (show w.heap.size + 1 < wl0.heap.size by omega)).trans (kB_wl0 j)
                clear hbz
                go_wp2_with fail
                go_roundw
                case measure => simp [intOf]; omega
                case rel =>
                refine ⟨k + 1, by omega, by go_num, kA_z, kB_z, HB_z.out, by omega, fun i hi => ?_⟩
                by_cases hik : i = k
                · rw [hik, Hx.out, Hy.out, E_v.out]
                · exact HEQ.out i (by omega)
              · have E_v := Lib.hid hv; clear hv
                have C_v := Lib.hid (fun (W : World) (hb : Below w.heap.size w W) => c_f (user_any _ _ x y W (Q_1.out.later hb) (Q_2.out.later hb)) E_v.out)
                try simp only [List.cons_append, List.nil_append] at C_v
                go_wp2
                go_still_tail 10, (by kernel_rfl)
                have hbd := Lib.hid (show Below w.heap.size w wl0.drew from below_drewN HB_wl0.out 1)
                go_wp2_with fail
                (with_reducible refine (C_v.out _ hbd.out).mono ?_)
                rintro e wz ⟨rfl, hbz⟩
                have hz : wl0.heap.size ≤ wz.heap.size := hbz.size
                have HB_z := Lib.hid (below_call hbd.out hbz)
                clear hbz
                go_wp2_with fail
                go_ret
                exact ⟨ret_f (fun e => rows_ne' k Hx.out Hy.out (fun e => E_v.out (by cases e; rfl)) (by cases e; rfl)), HB_z.out⟩
            · obtain rfl : n_users1 = k := by omega
              have E_users := Lib.hid (rows_eq' L_users1.out L_users2.out HEQ.out)
              clear HEQ hlt
              go_wp2_with fail
              go_loopw [62] (fun a wr => ∃ (k : Nat), k ≤ n_polls1 ∧ a = .int .i64 k ∧ (∀ j, wr.cell? ⟨w.heap.size, j, none⟩ = World.cell? ((w.alloc (.cells #[.int .i64 clock1, .slice o_users1 n_users1 c_users1, .slice o_polls1 n_polls1 c_polls1, .slice o_done1 n_done1 c_done1] 26)).alloc (.cells #[.int .i64 clock1, .slice o_users2 n_users1 c_users2, .slice o_polls2 n_polls1 c_polls2, .slice o_done2 n_done1 c_done2] 26)) ⟨w.heap.size, j, none⟩) ∧ (∀ j, wr.cell? ⟨w.heap.size + 1, j, none⟩ = World.cell? ((w.alloc (.cells #[.int .i64 clock1, .slice o_users1 n_users1 c_users1, .slice o_polls1 n_polls1 c_polls1, .slice o_done1 n_done1 c_done1] 26)).alloc (.cells #[.int .i64 clock1, .slice o_users2 n_users1 c_users2, .slice o_polls2 n_polls1 c_polls2, .slice o_done2 n_done1 c_done2] 26)) ⟨w.heap.size + 1, j, none⟩) ∧ Below w.heap.size w wr ∧ w.heap.size + 1 < wr.heap.size ∧ ∀ i, i < k → polls1[i]? = polls2[i]?) (fun a _ => n_polls1 - (intOf a).toNat)
              case atStart => exact ⟨0, Nat.zero_le _, rfl, kA_wl0, kB_wl0, HB_wl0.out, Z_wl0, fun i hi => absurd hi (by omega)⟩
              case round =>
                obtain ⟨k, hk, rfl, kA_wl1, kB_wl1, hbw, Z_wl1, heq⟩ := hrel
                obtain ⟨wl1, rfl⟩ : ∃ x, x = wr := ⟨_, rfl⟩
                have HEQ := Lib.hid heq; have HB_wl1 := Lib.hid hbw
                clear heq hbw
                by_cases hlt : k < n_polls1
                · obtain ⟨x, a1, cs1, hx, rfl, q1, q3, q0, q2⟩ := S_polls1.out.elem HB_wl1.out k hlt
                  obtain ⟨y, a2, cs2, hy, rfl, p1, p3, p0, p2⟩ := S_polls2.out.elem HB_wl1.out k hlt
                  have R_1 := q3
                  have R_2 := p3
                  obtain ⟨st1, ve1, vv1, rfl, _, _, _, _, _, hr1, _⟩ := q3
                  obtain ⟨st2, ve2, vv2, rfl, _, _, _, _, _, hr2, _⟩ := p3
                  obtain ⟨vm1, vy1, va1, vp1, rfl, _⟩ := hr1
                  obtain ⟨vm2, vy2, va2, vp2, rfl, _⟩ := hr2
                  have Q_1 := Lib.hid R_1; clear R_1
                  have Q_2 := Lib.hid R_2; clear R_2
                  simp only [List.cons_append, List.nil_append] at q0 q2 p0 p2
                  have hc0 := q0 (by decide); have hd0 := p0 (by decide)
                  have hc1 := q2 1 (by decide) (by decide); have hd1 := p2 1 (by decide) (by decide)
                  have hc2 := q2 2 (by decide) (by decide); have hd2 := p2 2 (by decide) (by decide)
                  have hc3 := q2 3 (by decide) (by decide); have hd3 := p2 3 (by decide) (by decide)
                  have hc4 := q2 4 (by decide) (by decide); have hd4 := p2 4 (by decide) (by decide)
                  have hc5 := q2 5 (by decide) (by decide); have hd5 := p2 5 (by decide) (by decide)
                  have hc6 := q2 6 (by decide) (by decide); have hd6 := p2 6 (by decide) (by decide)
                  have hc7 := q2 7 (by decide) (by decide); have hd7 := p2 7 (by decide) (by decide)
                  have hc8 := q2 8 (by decide) (by decide); have hd8 := p2 8 (by decide) (by decide)
                  have hc9 := q2 9 (by decide) (by decide); have hd9 := p2 9 (by decide) (by decide)
                  have hc10 := q2 10 (by decide) (by decide); have hd10 := p2 10 (by decide) (by decide)
                  have hc11 := q2 11 (by decide) (by decide); have hd11 := p2 11 (by decide) (by decide)
                  have hc12 := q2 12 (by decide) (by decide); have hd12 := p2 12 (by decide) (by decide)
                  have hc13 := q2 13 (by decide) (by decide); have hd13 := p2 13 (by decide) (by decide)
                  have hc14 := q2 14 (by decide) (by decide); have hd14 := p2 14 (by decide) (by decide)
                  have hc15 := q2 15 (by decide) (by decide); have hd15 := p2 15 (by decide) (by decide)
                  simp only [List.getElem?_cons_zero, List.getElem?_cons_succ] at hc0 hd0 hc1 hd1 hc2 hd2 hc3 hd3 hc4 hd4 hc5 hd5 hc6 hd6 hc7 hd7 hc8 hd8 hc9 hd9 hc10 hd10 hc11 hd11 hc12 hd12 hc13 hd13 hc14 hd14 hc15 hd15
                  have Hx := Lib.hid hx; have Hy := Lib.hid hy
                  clear q0 q1 q2 p0 p1 p2 hx hy
                  have hlt' : (k : Int) < (n_polls1 : Int) := by omega
                  by_cases hv : x = y
                  · have E_v := Lib.hid hv; clear hv
                    have C_v := Lib.hid (fun (W : World) (hb : Below w.heap.size w W) => c_t (poll_any _ _ x y W (Q_1.out.later hb) (Q_2.out.later hb)) E_v.out)
                    try simp only [List.cons_append, List.nil_append] at C_v
                    go_wp2
                    go_still_tail 10, (by kernel_rfl)
                    have hbd := Lib.hid (show Below w.heap.size w wl1.drew from below_drewN HB_wl1.out 1)
                    go_wp2_with fail
                    (with_reducible refine (C_v.out _ hbd.out).mono ?_)
                    rintro e wz ⟨rfl, hbz⟩
                    have hz : wl1.heap.size ≤ wz.heap.size := hbz.size
                    have HB_z := Lib.hid (below_call hbd.out hbz)
                    have kA_z : ∀ j, wz.cell? ⟨w.heap.size, j, none⟩ = _ := fun j => (hbz.cell (show w.heap.size < wl1.heap.size by omega)).trans (kA_wl1 j)
                    have kB_z : ∀ j, wz.cell? ⟨w.heap.size + 1, j, none⟩ = _ := fun j => (hbz.cell (show w.heap.size + 1 < wl1.heap.size by omega)).trans (kB_wl1 j)
                    clear hbz
                    go_wp2_with fail
                    go_roundw
                    case measure => simp [intOf]; omega
                    case rel =>
                    refine ⟨k + 1, by omega, by go_num, kA_z, kB_z, HB_z.out, by omega, fun i hi => ?_⟩
                    by_cases hik : i = k
                    · rw [hik, Hx.out, Hy.out, E_v.out]
                    · exact HEQ.out i (by omega)
                  · have E_v := Lib.hid hv; clear hv
                    have C_v := Lib.hid (fun (W : World) (hb : Below w.heap.size w W) => c_f (poll_any _ _ x y W (Q_1.out.later hb) (Q_2.out.later hb)) E_v.out)
                    try simp only [List.cons_append, List.nil_append] at C_v
                    go_wp2
                    go_still_tail 10, (by kernel_rfl)
                    have hbd := Lib.hid (show Below w.heap.size w wl1.drew from below_drewN HB_wl1.out 1)
                    go_wp2_with fail
                    (with_reducible refine (C_v.out _ hbd.out).mono ?_)
                    rintro e wz ⟨rfl, hbz⟩
                    have hz : wl1.heap.size ≤ wz.heap.size := hbz.size
                    have HB_z := Lib.hid (below_call hbd.out hbz)
                    clear hbz
                    go_wp2_with fail
                    go_ret
                    exact ⟨ret_f (fun e => rows_ne' k Hx.out Hy.out (fun e => E_v.out (by cases e; rfl)) (by cases e; rfl)), HB_z.out⟩
                · obtain rfl : n_polls1 = k := by omega
                  have E_polls := Lib.hid (rows_eq' L_polls1.out L_polls2.out HEQ.out)
                  clear HEQ hlt
                  go_wp2_with fail
                  go_loopw [81] (fun a wr => ∃ (k : Nat) (q : Nat), k ≤ n_done1 ∧ a = .int .i64 k ∧ wr = World.drewN wl1 q ∧ ∀ i, i < k → done1[i]? = done2[i]?) (fun a _ => n_done1 - (intOf a).toNat)
                  case atStart => first | exact ⟨0, 0, Nat.zero_le _, rfl, rfl, fun i hi => absurd hi (by omega)⟩ | exact ⟨0, _, Nat.zero_le _, rfl, rfl, fun i hi => absurd hi (by omega)⟩
                  case round =>
                    obtain ⟨k, q, hk, rfl, rfl, heq⟩ := hrel
                    have HEQ := Lib.hid heq
                    clear heq
                    by_cases hlt : k < n_done1
                    · obtain ⟨x, a1, cs1, hx, rfl, q1, q3, q0, q2⟩ := S_done1.out.elem HB_wl1.out k hlt
                      obtain ⟨y, a2, cs2, hy, rfl, p1, p3, p0, p2⟩ := S_done2.out.elem HB_wl1.out k hlt
                      obtain ⟨rfl, _⟩ := q3
                      obtain ⟨rfl, _⟩ := p3
                      have hc0 := q0 (by decide); have hd0 := p0 (by decide)
                      have hc1 := q2 1 (by decide) (by decide); have hd1 := p2 1 (by decide) (by decide)
                      have hc2 := q2 2 (by decide) (by decide); have hd2 := p2 2 (by decide) (by decide)
                      simp only [List.getElem?_cons_zero, List.getElem?_cons_succ] at hc0 hd0 hc1 hd1 hc2 hd2
                      have Hx := Lib.hid hx; have Hy := Lib.hid hy
                      clear q0 q1 q2 p0 p1 p2 hx hy
                      have hlt' : (k : Int) < (n_done1 : Int) := by omega
                      rcases x with ⟨x0, x1, x2⟩
                      rcases y with ⟨y0, y1, y2⟩
                      by_cases h0 : x0 = y0
                      · subst h0
                        by_cases h1 : x1 = y1
                        · subst h1
                          by_cases h2 : x2 = y2
                          · subst h2
                            go_wp2; go_quiet (fail); go_wp2; go_roundw
                            case measure => simp [intOf]; omega
                            case rel =>
                            refine ⟨k + 1, _, by omega, by go_num, rfl, fun i hi => ?_⟩
                            by_cases hik : i = k
                            · rw [hik, Hx.out, Hy.out]
                            · exact HEQ.out i (by omega)
                          · have g2 : (x2 == y2) = false := by rw [beq_eq_false_iff_ne]; exact h2
                            have H2 := Lib.hid h2; clear h2
                            go_wp2; go_quiet (fail); go_wp2; go_ret
                            exact ⟨ret_f (fun e => rows_ne' k Hx.out Hy.out (fun e => H2.out (by cases e; rfl)) (by cases e; rfl)), (by first | exact below_drewN (below_drewN HB_wl1.out _) _ | exact below_drewN HB_wl1.out _ | exact HB_wl1.out)⟩
                        · have g1 : (x1 == y1) = false := by rw [beq_eq_false_iff_ne]; exact h1
                          have H1 := Lib.hid h1; clear h1
                          go_wp2; go_quiet (fail); go_wp2; go_ret
                          exact ⟨ret_f (fun e => rows_ne' k Hx.out Hy.out (fun e => H1.out (by cases e; rfl)) (by cases e; rfl)), (by first | exact below_drewN (below_drewN HB_wl1.out _) _ | exact below_drewN HB_wl1.out _ | exact HB_wl1.out)⟩
                      · have g0 : (x0 == y0) = false := by rw [beq_eq_false_iff_ne]; exact h0
                        have H0 := Lib.hid h0; clear h0
                        go_wp2; go_quiet (fail); go_wp2; go_ret
                        exact ⟨ret_f (fun e => rows_ne' k Hx.out Hy.out (fun e => H0.out (by cases e; rfl)) (by cases e; rfl)), (by first | exact below_drewN (below_drewN HB_wl1.out _) _ | exact below_drewN HB_wl1.out _ | exact HB_wl1.out)⟩
                    · obtain rfl : n_done1 = k := by omega
                      have E_done := Lib.hid (rows_eq' L_done1.out L_done2.out HEQ.out)
                      clear HEQ hlt
                      go_wp2_with fail
                      go_ret
                      exact ⟨ret_t (by rw [E_users.out, E_polls.out, E_done.out]), (by first | exact below_drewN (below_drewN HB_wl1.out _) _ | exact below_drewN HB_wl1.out _ | exact HB_wl1.out)⟩
        · have g_done : ((n_done1 : Int) == n_done2) = false := by rw [beq_eq_false_iff_ne]; omega
          have H_done := Lib.hid h_done
          have HB := Lib.hid (show Below w.heap.size w ((w.alloc (.cells #[.int .i64 clock1, .slice o_users1 n_users1 c_users1, .slice o_polls1 n_polls1 c_polls1, .slice o_done1 n_done1 c_done1] 26)).alloc (.cells #[.int .i64 clock1, .slice o_users2 n_users1 c_users2, .slice o_polls2 n_polls1 c_polls2, .slice o_done2 n_done2 c_done2] 26)) from ((Below.refl _ _).alloc (Nat.le_refl _) _).alloc (by simp) _)
          go_enter Try.func8, Try.ntmps8
          go_wp2_with fail
          go_ret
          exact ⟨ret_f (fun e => H_done.out (by rw [← L_done1.out, ← L_done2.out]; cases e; rfl)), (by first | exact below_drewN (below_drewN HB.out _) _ | exact below_drewN HB.out _ | exact HB.out)⟩
      · have g_polls : ((n_polls1 : Int) == n_polls2) = false := by rw [beq_eq_false_iff_ne]; omega
        have H_polls := Lib.hid h_polls
        have HB := Lib.hid (show Below w.heap.size w ((w.alloc (.cells #[.int .i64 clock1, .slice o_users1 n_users1 c_users1, .slice o_polls1 n_polls1 c_polls1, .slice o_done1 n_done1 c_done1] 26)).alloc (.cells #[.int .i64 clock1, .slice o_users2 n_users1 c_users2, .slice o_polls2 n_polls2 c_polls2, .slice o_done2 n_done2 c_done2] 26)) from ((Below.refl _ _).alloc (Nat.le_refl _) _).alloc (by simp) _)
        go_enter Try.func8, Try.ntmps8
        go_wp2_with fail
        go_ret
        exact ⟨ret_f (fun e => H_polls.out (by rw [← L_polls1.out, ← L_polls2.out]; cases e; rfl)), (by first | exact below_drewN (below_drewN HB.out _) _ | exact below_drewN HB.out _ | exact HB.out)⟩
    · have g_users : ((n_users1 : Int) == n_users2) = false := by rw [beq_eq_false_iff_ne]; omega
      have H_users := Lib.hid h_users
      have HB := Lib.hid (show Below w.heap.size w ((w.alloc (.cells #[.int .i64 clock1, .slice o_users1 n_users1 c_users1, .slice o_polls1 n_polls1 c_polls1, .slice o_done1 n_done1 c_done1] 26)).alloc (.cells #[.int .i64 clock1, .slice o_users2 n_users2 c_users2, .slice o_polls2 n_polls2 c_polls2, .slice o_done2 n_done2 c_done2] 26)) from ((Below.refl _ _).alloc (Nat.le_refl _) _).alloc (by simp) _)
      go_enter Try.func8, Try.ntmps8
      go_wp2_with fail
      go_ret
      exact ⟨ret_f (fun e => H_users.out (by rw [← L_users1.out, ← L_users2.out]; cases e; rfl)), (by first | exact below_drewN (below_drewN HB.out _) _ | exact below_drewN HB.out _ | exact HB.out)⟩
  · have g_clock : (clock1 == clock2) = false := by rw [beq_eq_false_iff_ne]; exact h_clock
    have H_clock := Lib.hid h_clock; clear h_clock
    have HB := Lib.hid (show Below w.heap.size w ((w.alloc (.cells #[.int .i64 clock1, .slice o_users1 n_users1 c_users1, .slice o_polls1 n_polls1 c_polls1, .slice o_done1 n_done1 c_done1] 26)).alloc (.cells #[.int .i64 clock2, .slice o_users2 n_users2 c_users2, .slice o_polls2 n_polls2 c_polls2, .slice o_done2 n_done2 c_done2] 26)) from ((Below.refl _ _).alloc (Nat.le_refl _) _).alloc (by simp) _)
    go_enter Try.func8, Try.ntmps8
    go_wp2_with fail
    go_ret
    exact ⟨ret_f (fun e => H_clock.out (by cases e; rfl)), (by first | exact below_drewN (below_drewN HB.out _) _ | exact below_drewN HB.out _ | exact HB.out)⟩
end Go.Proofs.Ytcleicjgeflbnaa
