/- slices.Equal at rows of numbers, and at rows of days. No condition but that the arguments read. rule.Same of two rules. No condition but that the arguments read. -/
import Derived.Test.YtechgcjdigpglaaGreatR7
import Derived.Test.YtechgcjdigpglaaGreatV15
namespace Go.Proofs.YtechgcjdigpglaaGreat
open Go.RowKit Go.ChangeShapes Go.WideShapes Go.Deep
set_option linter.all false

set_option maxHeartbeats 2000000 in
theorem equalI_any (v1 v2 : Value) (r1 r2 : List Int) (w : World) (h1 : Row w 1 (rI .i64) v1 r1) (h2 : Row w 1 (rI .i64) v2 r2) :
    Calls Tryz.prog 79 #[v1, v2] w fun e w' => e = .returned (.bool (dec (r1 = r2))) ∧ ∃ m, w' = w.drewN m := by
  obtain ⟨o1, n1, c1, rfl, l1, m1, k1, e1⟩ := h1.view
  obtain ⟨o2, n2, c2, rfl, l2, m2, k2, e2⟩ := h2.view
  clear h1 h2
  by_cases hn : n1 = n2
  · subst hn
    have L1 := Lib.hid l1; have L2 := Lib.hid l2; have E1 := Lib.hid e1; have E2 := Lib.hid e2
    clear l1 l2 e1 e2
    have hM : n1 < 9223372036854775808 := by (unfold maxLen at k1; omega)
    go_enter Tryz.func79, Tryz.ntmps79
    go_wp2_with fail
    go_loopw [13] (fun a wr => ∃ (k : Nat) (q : Nat), k ≤ n1 ∧ a = .int .i64 k ∧ wr = w.drewN q ∧ ∀ i, i < k → r1[i]? = r2[i]?) (fun a _ => n1 - (intOf a).toNat)
    case atStart => exact ⟨0, 0, Nat.zero_le _, rfl, rfl, fun i hi => absurd hi (by omega)⟩
    case round =>
      obtain ⟨k, q, hk, rfl, rfl, heq⟩ := hrel
      have HEQ := Lib.hid heq
      clear heq
      by_cases hlt : k < n1
      · obtain ⟨x, a1, cs1, hx, rfl, q1, q3, q0, q2⟩ := E1.out k hlt
        obtain ⟨y, a2, cs2, hy, rfl, p1, p3, p0, p2⟩ := E2.out k hlt
        obtain ⟨rfl, _⟩ := q3
        obtain ⟨rfl, _⟩ := p3
        have hc0 := q0 (by decide); have hd0 := p0 (by decide)
        simp only [Nat.mul_one, List.getElem?_cons_zero] at hc0 hd0
        have Hx := Lib.hid hx; have Hy := Lib.hid hy
        clear q0 q1 q2 p0 p1 p2 hx hy E1 E2
        have hlt' : (k : Int) < (n1 : Int) := by omega
        by_cases h0 : x = y
        · have g0 : (x == y) = true := by rw [h0]; simp
          have g1 : (x != y) = false := by rw [h0]; simp
          have H0 := Lib.hid h0
          clear h0
          go_wp2
          go_quiet (fail)
          go_wp2
          go_roundw
          case measure => simp [intOf]; omega
          case rel =>
          refine ⟨k + 1, _, by omega, by go_num, rfl, fun i hi => ?_⟩
          by_cases hik : i = k
          · rw [hik, Hx.out, Hy.out]
            have f0 := H0.out
            rw [f0]
          · exact HEQ.out i (by omega)
        · have g0 : (x == y) = false := by rw [beq_eq_false_iff_ne]; exact h0
          have g1 : (x != y) = true := by rw [bne_iff_ne]; exact h0
          have H0 := Lib.hid h0
          clear h0
          go_wp2
          go_quiet (fail)
          go_wp2
          go_ret
          exact ⟨ret_f (rows_ne' k Hx.out Hy.out (fun e => H0.out (by rw [e]))), _, World.drewN_drewN ..⟩
      · obtain rfl : k = n1 := by omega
        go_wp2
        go_ret
        exact ⟨ret_t (rows_eq' L1.out L2.out HEQ.out), _, rfl⟩
  · have hn' : ((n1 : Int) == n2) = false := by rw [beq_eq_false_iff_ne]; omega
    have hn'' : ((n1 : Int) != n2) = true := by rw [bne_iff_ne]; omega
    have L1 := Lib.hid l1; have L2 := Lib.hid l2; have H := Lib.hid hn
    clear l1 l2 hn e1 e2
    go_enter Tryz.func79, Tryz.ntmps79
    go_wp2
    go_ret
    exact ⟨ret_f (fun e => H.out (by rw [← L1.out, ← L2.out, e])), 0, rfl⟩
set_option maxHeartbeats 2000000 in
theorem equalD_any (v1 v2 : Value) (r1 r2 : List DayND) (w : World) (h1 : Row w 2 rDayN v1 r1) (h2 : Row w 2 rDayN v2 r2) :
    Calls Tryz.prog 80 #[v1, v2] w fun e w' => e = .returned (.bool (dec (r1 = r2))) ∧ ∃ m, w' = w.drewN m := by
  obtain ⟨o1, n1, c1, rfl, l1, m1, k1, e1⟩ := h1.view
  obtain ⟨o2, n2, c2, rfl, l2, m2, k2, e2⟩ := h2.view
  clear h1 h2
  by_cases hn : n1 = n2
  · subst hn
    have L1 := Lib.hid l1; have L2 := Lib.hid l2; have E1 := Lib.hid e1; have E2 := Lib.hid e2
    clear l1 l2 e1 e2
    have hM : n1 < 9223372036854775808 := by (unfold maxLen at k1; omega)
    go_enter Tryz.func80, Tryz.ntmps80
    go_wp2_with fail
    go_loopw [13] (fun a wr => ∃ (k : Nat) (q : Nat), k ≤ n1 ∧ a = .int .i64 k ∧ wr = w.drewN q ∧ ∀ i, i < k → r1[i]? = r2[i]?) (fun a _ => n1 - (intOf a).toNat)
    case atStart => exact ⟨0, 0, Nat.zero_le _, rfl, rfl, fun i hi => absurd hi (by omega)⟩
    case round =>
      obtain ⟨k, q, hk, rfl, rfl, heq⟩ := hrel
      have HEQ := Lib.hid heq
      clear heq
      by_cases hlt : k < n1
      · obtain ⟨x, a1, cs1, hx, rfl, q1, q3, q0, q2⟩ := E1.out k hlt
        obtain ⟨y, a2, cs2, hy, rfl, p1, p3, p0, p2⟩ := E2.out k hlt
        obtain ⟨rfl, _⟩ := q3
        obtain ⟨rfl, _⟩ := p3
        have hc0 := q0 (by decide); have hd0 := p0 (by decide)
        have hc1 := q2 1 (by decide) (by decide); have hd1 := p2 1 (by decide) (by decide)
        simp only [List.getElem?_cons_zero, List.getElem?_cons_succ] at hc0 hd0 hc1 hd1
        have Hx := Lib.hid hx; have Hy := Lib.hid hy
        clear q0 q1 q2 p0 p1 p2 hx hy E1 E2
        have hlt' : (k : Int) < (n1 : Int) := by omega
        rcases x with ⟨x0, x1⟩
        rcases y with ⟨y0, y1⟩
        by_cases h0 : x0 = y0
        · subst h0
          by_cases h1 : x1 = y1
          · subst h1
            go_wp2; go_quiet (fail); go_wp2; go_roundw
            case measure => simp [intOf]; omega
            case rel =>
            refine ⟨k + 1, _, by omega, by go_num, rfl, fun i hi => ?_⟩
            by_cases hik : i = k
            · rw [hik, Hx.out, Hy.out]
            · exact HEQ.out i (by omega)
          · have g1 : (x1 == y1) = false := by rw [beq_eq_false_iff_ne]; exact h1
            have H1 := Lib.hid h1; clear h1
            go_wp2; go_quiet (fail); go_wp2; go_ret
            exact ⟨ret_f (fun e => rows_ne' k Hx.out Hy.out (fun e => H1.out (by cases e; rfl)) (by cases e; rfl)), _, World.drewN_drewN ..⟩
        · have g0 : (x0 == y0) = false := by rw [beq_eq_false_iff_ne]; exact h0
          have H0 := Lib.hid h0; clear h0
          go_wp2; go_quiet (fail); go_wp2; go_ret
          exact ⟨ret_f (fun e => rows_ne' k Hx.out Hy.out (fun e => H0.out (by cases e; rfl)) (by cases e; rfl)), _, World.drewN_drewN ..⟩
      · obtain rfl : k = n1 := by omega
        go_wp2
        go_ret
        exact ⟨ret_t (rows_eq' L1.out L2.out HEQ.out), _, rfl⟩
  · have hn' : ((n1 : Int) == n2) = false := by rw [beq_eq_false_iff_ne]; omega
    have hn'' : ((n1 : Int) != n2) = true := by rw [bne_iff_ne]; omega
    have L1 := Lib.hid l1; have L2 := Lib.hid l2; have H := Lib.hid hn
    clear l1 l2 hn e1 e2
    go_enter Tryz.func80, Tryz.ntmps80
    go_wp2
    go_ret
    exact ⟨ret_f (fun e => H.out (by rw [← L1.out, ← L2.out, e])), 0, rfl⟩
end Go.Proofs.YtechgcjdigpglaaGreat
namespace Go.Proofs.YtechgcjdigpglaaGreat
open Go.RowKit Go.ChangeShapes Go.WideShapes Go.Deep
set_option linter.all false

set_option maxHeartbeats 16000000 in
set_option maxRecDepth 100000 in
theorem same_any (cs1 cs2 : List Value) (x1 x2 : RuleD) (w : World) (h1 : rRule w cs1 x1) (h2 : rRule w cs2 x2) :
    Calls Tryz.prog 42 #[.agg cs1.toArray, .agg cs2.toArray] w fun e w' => e = .returned (.bool (dec (x1 = x2))) ∧ Below w.heap.size w w' := by
  obtain ⟨m1, d1, y1, p1, rfl, _, _, _, _, _, rm1, rd1, ry1, rp1⟩ := h1
  rcases x1 with ⟨freq1, interval1, count1, until_1, byMonth1, byMonthDay1, byDay1, bySetPos1, start1⟩
  obtain ⟨m2, d2, y2, p2, rfl, _, _, _, _, _, rm2, rd2, ry2, rp2⟩ := h2
  rcases x2 with ⟨freq2, interval2, count2, until_2, byMonth2, byMonthDay2, byDay2, bySetPos2, start2⟩
  dsimp only at *
  obtain ⟨om1, nm1, cm1, rfl, -, -, -, Rm1⟩ := rm1.open
  obtain ⟨om2, nm2, cm2, rfl, -, -, -, Rm2⟩ := rm2.open
  obtain ⟨od1, nd1, cd1, rfl, -, -, -, Rd1⟩ := rd1.open
  obtain ⟨od2, nd2, cd2, rfl, -, -, -, Rd2⟩ := rd2.open
  obtain ⟨oy1, ny1, cy1, rfl, -, -, -, Ry1⟩ := ry1.open
  obtain ⟨oy2, ny2, cy2, rfl, -, -, -, Ry2⟩ := ry2.open
  obtain ⟨op1, np1, cp1, rfl, -, -, -, Rp1⟩ := rp1.open
  obtain ⟨op2, np2, cp2, rfl, -, -, -, Rp2⟩ := rp2.open
  have CM := Lib.hid (fun (W : World) (hb : Below w.heap.size w W) => equalI_any _ _ byMonth1 byMonth2 W (Rm1.later' hb) (Rm2.later' hb))
  have CD := Lib.hid (fun (W : World) (hb : Below w.heap.size w W) => equalI_any _ _ byMonthDay1 byMonthDay2 W (Rd1.later' hb) (Rd2.later' hb))
  have CY := Lib.hid (fun (W : World) (hb : Below w.heap.size w W) => equalD_any _ _ byDay1 byDay2 W (Ry1.later' hb) (Ry2.later' hb))
  have CP := Lib.hid (fun (W : World) (hb : Below w.heap.size w W) => equalI_any _ _ bySetPos1 bySetPos2 W (Rp1.later' hb) (Rp2.later' hb))
  obtain ⟨bm, hbm⟩ : ∃ b, b = dec (byMonth1 = byMonth2) := ⟨_, rfl⟩
  obtain ⟨bd, hbd⟩ : ∃ b, b = dec (byMonthDay1 = byMonthDay2) := ⟨_, rfl⟩
  obtain ⟨by_, hby⟩ : ∃ b, b = dec (byDay1 = byDay2) := ⟨_, rfl⟩
  obtain ⟨bp, hbp⟩ : ∃ b, b = dec (bySetPos1 = bySetPos2) := ⟨_, rfl⟩
  rw [← hbm] at CM; rw [← hbd] at CD; rw [← hby] at CY; rw [← hbp] at CP
  have HA := Lib.hid (show (RuleD.mk freq1 interval1 count1 until_1 byMonth1 byMonthDay1 byDay1 bySetPos1 start1 = RuleD.mk freq2 interval2 count2 until_2 byMonth2 byMonthDay2 byDay2 bySetPos2 start2) ↔
      (freq1 = freq2 ∧ interval1 = interval2 ∧ count1 = count2 ∧ until_1 = until_2 ∧ bm = true ∧ bd = true ∧ by_ = true ∧ bp = true ∧ start1 = start2) by
    rw [hbm, hbd, hby, hbp, dec_iff, dec_iff, dec_iff, dec_iff, RuleD.mk.injEq])
  have HB := Lib.hid (fun (o1 o2 : Obj) => belowA o2 (belowA o1 (Below.refl w.heap.size w)))
  clear rm1 rd1 ry1 rp1 rm2 rd2 ry2 rp2 Rm1 Rm2 Rd1 Rd2 Ry1 Ry2 Rp1 Rp2 hbm hbd hby hbp
  go_enter Tryz.func42, Tryz.ntmps42
  (try simp only [List.append_eq, List.cons_append, List.nil_append])
  go_wp2_with (first
    | (go_at_call 79; ((with_reducible refine (CM.out _ ?_).mono ?_); (first | exact HB.out _ _ | exact below_drewN (HB.out _ _) _); rintro e w_q ⟨rfl, m_q, rfl⟩))
    | (go_at_call 79; ((with_reducible refine (CD.out _ ?_).mono ?_); (first | exact HB.out _ _ | exact below_drewN (HB.out _ _) _ | exact below_drewN (below_drewN (HB.out _ _) _) _ | exact below_drewN (below_drewN (below_drewN (HB.out _ _) _) _) _ | exact below_drewN (below_drewN (below_drewN (below_drewN (HB.out _ _) _) _) _) _); rintro e w_q ⟨rfl, m_q, rfl⟩))
    | (go_at_call 80; ((with_reducible refine (CY.out _ ?_).mono ?_); (first | exact HB.out _ _ | exact below_drewN (HB.out _ _) _ | exact below_drewN (below_drewN (HB.out _ _) _) _ | exact below_drewN (below_drewN (below_drewN (HB.out _ _) _) _) _ | exact below_drewN (below_drewN (below_drewN (below_drewN (HB.out _ _) _) _) _) _); rintro e w_q ⟨rfl, m_q, rfl⟩))
    | (go_at_call 79; ((with_reducible refine (CP.out _ ?_).mono ?_); (first | exact HB.out _ _ | exact below_drewN (HB.out _ _) _ | exact below_drewN (below_drewN (HB.out _ _) _) _ | exact below_drewN (below_drewN (below_drewN (HB.out _ _) _) _) _ | exact below_drewN (below_drewN (below_drewN (below_drewN (HB.out _ _) _) _) _) _); rintro e w_q ⟨rfl, m_q, rfl⟩)))
  all_goals
    go_ret
    refine ⟨?_, ?_⟩
    · refine ret_dec (?_ : _ = true ↔ _)
      rw [HA.out]
      clear HA HB CM CD CY CP
      simp_all
    · first | exact HB.out _ _ | exact below_drewN (HB.out _ _) _ | exact below_drewN (below_drewN (HB.out _ _) _) _ | exact below_drewN (below_drewN (below_drewN (HB.out _ _) _) _) _ | exact below_drewN (below_drewN (below_drewN (below_drewN (HB.out _ _) _) _) _) _
end Go.Proofs.YtechgcjdigpglaaGreat
