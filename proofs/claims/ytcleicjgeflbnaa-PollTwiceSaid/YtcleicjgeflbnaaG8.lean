/- Walks of the functions that compare two records: each answers whether what they read as is the same. No condition but that the arguments read. -/
import Derived.Test.YtcleicjgeflbnaaG6
import Derived.StillTailTactics
namespace Go.Proofs.Ytcleicjgeflbnaa
open Go.RowKit Go.ChangeShapes Go.WideShapes Go.Deep

set_option maxHeartbeats 16000000 in
set_option maxRecDepth 4000 in
theorem user_any (cs1 cs2 : List Value) (x1 x2 : UserD) (w : World) (h1 : rUser w cs1 x1) (h2 : rUser w cs2 x2) :
    Calls Try.prog 18 #[.agg cs1.toArray, .agg cs2.toArray] w fun e w' => e = .returned (.bool (dec (x1 = x2))) ∧ Below w.heap.size w w' := by
  obtain ⟨s1, v1, rfl, _, _, R_settings1, R_events1⟩ := h1
  have Q_settings1 := R_settings1; obtain ⟨vt_settings1, vh_settings1, vo_settings1, rfl, _⟩ := Q_settings1
  rcases x1 with ⟨id1, settings1, version1, events1⟩
  obtain ⟨s2, v2, rfl, _, _, R_settings2, R_events2⟩ := h2
  have Q_settings2 := R_settings2; obtain ⟨vt_settings2, vh_settings2, vo_settings2, rfl, _⟩ := Q_settings2
  rcases x2 with ⟨id2, settings2, version2, events2⟩
  dsimp only at *
  have S_settings1 := Lib.hid R_settings1; clear R_settings1
  have S_settings2 := Lib.hid R_settings2; clear R_settings2
  obtain ⟨o_events1, n_events1, c_events1, rfl, l_events1, m_events1, k_events1, R_events1⟩ := R_events1.open
  have L_events1 := Lib.hid l_events1; have S_events1 := Lib.hid R_events1
  obtain ⟨o_events2, n_events2, c_events2, rfl, l_events2, m_events2, k_events2, R_events2⟩ := R_events2.open
  have L_events2 := Lib.hid l_events2; have S_events2 := Lib.hid R_events2
  have M_events : n_events1 < 9223372036854775808 := by (unfold maxLen at k_events1; omega)
  clear l_events1 l_events2 R_events1 R_events2 m_events1 m_events2 k_events1 k_events2
  simp only [List.cons_append, List.nil_append]
  by_cases h_id : id1 = id2
  · subst h_id
    by_cases h_version : version1 = version2
    · subst h_version
      by_cases h_settings : settings1 = settings2
      · have E_settings := Lib.hid h_settings; clear h_settings
        have C_settings := Lib.hid (fun (W : World) (hb : Below w.heap.size w W) => c_t (settings_any _ _ settings1 settings2 W (S_settings1.out.later hb) (S_settings2.out.later hb)) E_settings.out)
        by_cases h_events : n_events1 = n_events2
        · subst h_events
          have HB := Lib.hid (show Below w.heap.size w ((w.alloc (.cells #[.int .u32 id1, .int .i64 settings1.base, vt_settings1, vh_settings1, vo_settings1, .int .i64 settings1.before, .int .i64 settings1.after, .int .u64 version1, .slice o_events1 n_events1 c_events1] 76)).alloc (.cells #[.int .u32 id1, .int .i64 settings2.base, vt_settings2, vh_settings2, vo_settings2, .int .i64 settings2.before, .int .i64 settings2.after, .int .u64 version1, .slice o_events2 n_events1 c_events2] 76)) from ((Below.refl _ _).alloc (Nat.le_refl _) _).alloc (by simp) _)
          go_enter Try.func18, Try.ntmps18
          go_wp2_with fail
          (with_reducible refine (C_settings.out _ (HB.out)).mono ?_)
          rintro e w1 ⟨rfl, hb_w1⟩
          have b_w1 := below_call (HB.out) hb_w1
          have HB_w1 := Lib.hid b_w1
          have kA_w1 : ∀ j, World.cell? w1 ⟨w.heap.size, j, none⟩ = _ := fun j => hb_w1.cell (by simp <;> omega)
          have kB_w1 : ∀ j, World.cell? w1 ⟨w.heap.size + 1, j, none⟩ = _ := fun j => hb_w1.cell (by simp <;> omega)
          have Z_w1 : w.heap.size + 1 < w1.heap.size := by have := hb_w1.size; simp at this; omega
          clear hb_w1 b_w1
          go_wp2_with fail
          go_loopw [38] (fun a wr => ∃ (k : Nat), k ≤ n_events1 ∧ a = .int .i64 k ∧ (∀ j, wr.cell? ⟨w.heap.size, j, none⟩ = World.cell? ((w.alloc (.cells #[.int .u32 id1, .int .i64 settings1.base, vt_settings1, vh_settings1, vo_settings1, .int .i64 settings1.before, .int .i64 settings1.after, .int .u64 version1, .slice o_events1 n_events1 c_events1] 76)).alloc (.cells #[.int .u32 id1, .int .i64 settings2.base, vt_settings2, vh_settings2, vo_settings2, .int .i64 settings2.before, .int .i64 settings2.after, .int .u64 version1, .slice o_events2 n_events1 c_events2] 76)) ⟨w.heap.size, j, none⟩) ∧ (∀ j, wr.cell? ⟨w.heap.size + 1, j, none⟩ = World.cell? ((w.alloc (.cells #[.int .u32 id1, .int .i64 settings1.base, vt_settings1, vh_settings1, vo_settings1, .int .i64 settings1.before, .int .i64 settings1.after, .int .u64 version1, .slice o_events1 n_events1 c_events1] 76)).alloc (.cells #[.int .u32 id1, .int .i64 settings2.base, vt_settings2, vh_settings2, vo_settings2, .int .i64 settings2.before, .int .i64 settings2.after, .int .u64 version1, .slice o_events2 n_events1 c_events2] 76)) ⟨w.heap.size + 1, j, none⟩) ∧ Below w.heap.size w wr ∧ w.heap.size + 1 < wr.heap.size ∧ ∀ i, i < k → events1[i]? = events2[i]?) (fun a _ => n_events1 - (intOf a).toNat)
          case atStart => exact ⟨0, Nat.zero_le _, rfl, kA_w1, kB_w1, HB_w1.out, Z_w1, fun i hi => absurd hi (by omega)⟩
          case round =>
            obtain ⟨k, hk, rfl, kA_wl0, kB_wl0, hbw, Z_wl0, heq⟩ := hrel
            obtain ⟨wl0, rfl⟩ : ∃ x, x = wr := ⟨_, rfl⟩
            have HEQ := Lib.hid heq; have HB_wl0 := Lib.hid hbw
            clear heq hbw
            by_cases hlt : k < n_events1
            · obtain ⟨x, a1, cs1, hx, rfl, q1, q3, q0, q2⟩ := S_events1.out.elem HB_wl0.out k hlt
              obtain ⟨y, a2, cs2, hy, rfl, p1, p3, p0, p2⟩ := S_events2.out.elem HB_wl0.out k hlt
              obtain ⟨ev1, rfl, _, R_1⟩ := q3
              obtain ⟨ev2, rfl, _, R_2⟩ := p3
              have T_1 := R_1; obtain ⟨r1, ve1, vp1, vc1, rfl, _, _, hr1, _⟩ := T_1
              have T_2 := R_2; obtain ⟨r2, ve2, vp2, vc2, rfl, _, _, hr2, _⟩ := T_2
              obtain ⟨vm1, vd1, vy1, vpp1, rfl, _⟩ := hr1
              obtain ⟨vm2, vd2, vy2, vpp2, rfl, _⟩ := hr2
              have Q_1 := Lib.hid R_1; clear R_1
              have Q_2 := Lib.hid R_2; clear R_2
              simp only [List.cons_append, List.nil_append] at q0 q2 p0 p2
              have hc0 := q0 (by decide); have hd0 := p0 (by decide)
              have hc1 := q2 1 (by decide) (by decide); have hd1 := p2 1 (by decide) (by decide)
              have hc2 := q2 2 (by decide) (by decide); have hd2 := p2 2 (by decide) (by decide)
              have hc3 := q2 3 (by decide) (by decide); have hd3 := p2 3 (by decide) (by decide)
              have hc4 := q2 4 (by decide) (by decide); have hd4 := p2 4 (by decide) (by decide)
              have hc5 := q2 5 (by decide) (by decide); have hd5 := p2 5 (by decide) (by decide)
              have hc6 := q2 6 (by decide) (by decide); have hd6 := p2 6 (by decide) (by decide)
              have hc7 := q2 7 (by decide) (by decide); have hd7 := p2 7 (by decide) (by decide)
              have hc8 := q2 8 (by decide) (by decide); have hd8 := p2 8 (by decide) (by decide)
              have hc9 := q2 9 (by decide) (by decide); have hd9 := p2 9 (by decide) (by decide)
              have hc10 := q2 10 (by decide) (by decide); have hd10 := p2 10 (by decide) (by decide)
              have hc11 := q2 11 (by decide) (by decide); have hd11 := p2 11 (by decide) (by decide)
              have hc12 := q2 12 (by decide) (by decide); have hd12 := p2 12 (by decide) (by decide)
              have hc13 := q2 13 (by decide) (by decide); have hd13 := p2 13 (by decide) (by decide)
              have hc14 := q2 14 (by decide) (by decide); have hd14 := p2 14 (by decide) (by decide)
              have hc15 := q2 15 (by decide) (by decide); have hd15 := p2 15 (by decide) (by decide)
              have hc16 := q2 16 (by decide) (by decide); have hd16 := p2 16 (by decide) (by decide)
              simp only [List.getElem?_cons_zero, List.getElem?_cons_succ] at hc0 hd0 hc1 hd1 hc2 hd2 hc3 hd3 hc4 hd4 hc5 hd5 hc6 hd6 hc7 hd7 hc8 hd8 hc9 hd9 hc10 hd10 hc11 hd11 hc12 hd12 hc13 hd13 hc14 hd14 hc15 hd15 hc16 hd16
              have Hx := Lib.hid hx; have Hy := Lib.hid hy
              clear q0 q1 q2 p0 p1 p2 hx hy
              have hlt' : (k : Int) < (n_events1 : Int) := by omega
              rcases x with ⟨eid1, eev1⟩; rcases y with ⟨eid2, eev2⟩
              dsimp only at *
              by_cases h_eid : eid1 = eid2
              rotate_left
              · have g_eid : (eid1 == eid2) = false := by rw [beq_eq_false_iff_ne]; exact h_eid
                have H_eid := Lib.hid h_eid
                go_wp2; go_quiet (fail); go_wp2; go_ret
                exact ⟨ret_f (fun e => rows_ne' k Hx.out Hy.out (fun e => H_eid.out (by cases e; rfl)) (by cases e; rfl)), (by first | exact below_drewN (below_drewN HB_wl0.out _) _ | exact below_drewN HB_wl0.out _ | exact HB_wl0.out)⟩
              subst h_eid
              by_cases hv : eev1 = eev2
              · have E_v := Lib.hid hv; clear hv
                have C_v := Lib.hid (fun (W : World) (hb : Below w.heap.size w W) => c_t (event_any _ _ eev1 eev2 W (Q_1.out.later hb) (Q_2.out.later hb)) E_v.out)
                simp only [List.cons_append, List.nil_append] at C_v
                go_wp2
                go_still_tail 26, (by kernel_rfl)
                have hbd := Lib.hid (show Below w.heap.size w wl0.drew from below_drewN HB_wl0.out 1)
                go_wp2_with fail
                (with_reducible refine (C_v.out _ hbd.out).mono ?_)
                rintro e wz ⟨rfl, hbz⟩
                have hz : wl0.heap.size ≤ wz.heap.size := hbz.size
                have HB_z := Lib.hid (below_call hbd.out hbz)
                have kA_z : ∀ j, wz.cell? ⟨w.heap.size, j, none⟩ = _ := fun j => (hbz.cell (show w.heap.size < wl0.heap.size by omega)).trans (kA_wl0 j)
                have kB_z : ∀ j, wz.cell? ⟨w.heap.size + 1, j, none⟩ = _ := fun j => (hbz.cell (show w.heap.size + 1 < wl0.heap.size by omega)).trans (kB_wl0 j)
                clear hbz
                go_wp2_with fail
                go_roundw
                case measure => simp [intOf]; omega
                case rel =>
                refine ⟨k + 1, by omega, by go_num, kA_z, kB_z, HB_z.out, by omega, fun i hi => ?_⟩
                by_cases hik : i = k
                · rw [hik, Hx.out, Hy.out, E_v.out]
                · exact HEQ.out i (by omega)
              · have E_v := Lib.hid hv; clear hv
                have C_v := Lib.hid (fun (W : World) (hb : Below w.heap.size w W) => c_f (event_any _ _ eev1 eev2 W (Q_1.out.later hb) (Q_2.out.later hb)) E_v.out)
                simp only [List.cons_append, List.nil_append] at C_v
                go_wp2
                go_still_tail 26, (by kernel_rfl)
                have hbd := Lib.hid (show Below w.heap.size w wl0.drew from below_drewN HB_wl0.out 1)
                go_wp2_with fail
                (with_reducible refine (C_v.out _ hbd.out).mono ?_)
                rintro e wz ⟨rfl, hbz⟩
                have hz : wl0.heap.size ≤ wz.heap.size := hbz.size
                have HB_z := Lib.hid (below_call hbd.out hbz)
                clear hbz
                go_wp2_with fail
                go_ret
                exact ⟨ret_f (fun e => rows_ne' k Hx.out Hy.out (fun e => E_v.out (by cases e; rfl)) (by cases e; rfl)), HB_z.out⟩
            · obtain rfl : n_events1 = k := by omega
              have E_events := Lib.hid (rows_eq' L_events1.out L_events2.out HEQ.out)
              clear HEQ hlt
              go_wp2_with fail
              go_ret
              exact ⟨ret_t (by rw [E_settings.out, E_events.out]), (by first | exact below_drewN (below_drewN HB_wl0.out _) _ | exact below_drewN HB_wl0.out _ | exact HB_wl0.out)⟩
        · have g_events : ((n_events1 : Int) == n_events2) = false := by rw [beq_eq_false_iff_ne]; omega
          have H_events := Lib.hid h_events
          have HB := Lib.hid (show Below w.heap.size w ((w.alloc (.cells #[.int .u32 id1, .int .i64 settings1.base, vt_settings1, vh_settings1, vo_settings1, .int .i64 settings1.before, .int .i64 settings1.after, .int .u64 version1, .slice o_events1 n_events1 c_events1] 76)).alloc (.cells #[.int .u32 id1, .int .i64 settings2.base, vt_settings2, vh_settings2, vo_settings2, .int .i64 settings2.before, .int .i64 settings2.after, .int .u64 version1, .slice o_events2 n_events2 c_events2] 76)) from ((Below.refl _ _).alloc (Nat.le_refl _) _).alloc (by simp) _)
          go_enter Try.func18, Try.ntmps18
          go_wp2_with fail
          (with_reducible refine (C_settings.out _ (HB.out)).mono ?_)
          rintro e w1 ⟨rfl, hb_w1⟩
          have b_w1 := below_call (HB.out) hb_w1
          have HB_w1 := Lib.hid b_w1
          have kA_w1 : ∀ j, World.cell? w1 ⟨w.heap.size, j, none⟩ = _ := fun j => hb_w1.cell (by simp <;> omega)
          have kB_w1 : ∀ j, World.cell? w1 ⟨w.heap.size + 1, j, none⟩ = _ := fun j => hb_w1.cell (by simp <;> omega)
          have Z_w1 : w.heap.size + 1 < w1.heap.size := by have := hb_w1.size; simp at this; omega
          clear hb_w1 b_w1
          go_wp2_with fail
          go_ret
          exact ⟨ret_f (fun e => H_events.out (by rw [← L_events1.out, ← L_events2.out]; cases e; rfl)), (by first | exact below_drewN (below_drewN HB_w1.out _) _ | exact below_drewN HB_w1.out _ | exact HB_w1.out)⟩
      · have E_settings := Lib.hid h_settings; clear h_settings
        have C_settings := Lib.hid (fun (W : World) (hb : Below w.heap.size w W) => c_f (settings_any _ _ settings1 settings2 W (S_settings1.out.later hb) (S_settings2.out.later hb)) E_settings.out)
        have HB := Lib.hid (show Below w.heap.size w ((w.alloc (.cells #[.int .u32 id1, .int .i64 settings1.base, vt_settings1, vh_settings1, vo_settings1, .int .i64 settings1.before, .int .i64 settings1.after, .int .u64 version1, .slice o_events1 n_events1 c_events1] 76)).alloc (.cells #[.int .u32 id1, .int .i64 settings2.base, vt_settings2, vh_settings2, vo_settings2, .int .i64 settings2.before, .int .i64 settings2.after, .int .u64 version1, .slice o_events2 n_events2 c_events2] 76)) from ((Below.refl _ _).alloc (Nat.le_refl _) _).alloc (by simp) _)
        go_enter Try.func18, Try.ntmps18
        go_wp2_with fail
        (with_reducible refine (C_settings.out _ (HB.out)).mono ?_)
        rintro e w1 ⟨rfl, hb_w1⟩
        have b_w1 := below_call (HB.out) hb_w1
        have HB_w1 := Lib.hid b_w1
        have kA_w1 : ∀ j, World.cell? w1 ⟨w.heap.size, j, none⟩ = _ := fun j => hb_w1.cell (by simp <;> omega)
        have kB_w1 : ∀ j, World.cell? w1 ⟨w.heap.size + 1, j, none⟩ = _ := fun j => hb_w1.cell (by simp <;> omega)
        have Z_w1 : w.heap.size + 1 < w1.heap.size := by have := hb_w1.size; simp at this; omega
        clear hb_w1 b_w1
        go_wp2_with fail
        go_ret
        exact ⟨ret_f (fun e => E_settings.out (by cases e; rfl)), (by first | exact below_drewN (below_drewN HB_w1.out _) _ | exact below_drewN HB_w1.out _ | exact HB_w1.out)⟩
    · have g_version : (version1 == version2) = false := by rw [beq_eq_false_iff_ne]; exact h_version
      have H_version := Lib.hid h_version; clear h_version
      have HB := Lib.hid (show Below w.heap.size w ((w.alloc (.cells #[.int .u32 id1, .int .i64 settings1.base, vt_settings1, vh_settings1, vo_settings1, .int .i64 settings1.before, .int .i64 settings1.after, .int .u64 version1, .slice o_events1 n_events1 c_events1] 76)).alloc (.cells #[.int .u32 id1, .int .i64 settings2.base, vt_settings2, vh_settings2, vo_settings2, .int .i64 settings2.before, .int .i64 settings2.after, .int .u64 version2, .slice o_events2 n_events2 c_events2] 76)) from ((Below.refl _ _).alloc (Nat.le_refl _) _).alloc (by simp) _)
      go_enter Try.func18, Try.ntmps18
      go_wp2_with fail
      go_ret
      exact ⟨ret_f (fun e => H_version.out (by cases e; rfl)), (by first | exact below_drewN (below_drewN HB.out _) _ | exact below_drewN HB.out _ | exact HB.out)⟩
  · have g_id : (id1 == id2) = false := by rw [beq_eq_false_iff_ne]; exact h_id
    have H_id := Lib.hid h_id; clear h_id
    have HB := Lib.hid (show Below w.heap.size w ((w.alloc (.cells #[.int .u32 id1, .int .i64 settings1.base, vt_settings1, vh_settings1, vo_settings1, .int .i64 settings1.before, .int .i64 settings1.after, .int .u64 version1, .slice o_events1 n_events1 c_events1] 76)).alloc (.cells #[.int .u32 id2, .int .i64 settings2.base, vt_settings2, vh_settings2, vo_settings2, .int .i64 settings2.before, .int .i64 settings2.after, .int .u64 version2, .slice o_events2 n_events2 c_events2] 76)) from ((Below.refl _ _).alloc (Nat.le_refl _) _).alloc (by simp) _)
    go_enter Try.func18, Try.ntmps18
    go_wp2_with fail
    go_ret
    exact ⟨ret_f (fun e => H_id.out (by cases e; rfl)), (by first | exact below_drewN (below_drewN HB.out _) _ | exact below_drewN HB.out _ | exact HB.out)⟩
end Go.Proofs.Ytcleicjgeflbnaa
